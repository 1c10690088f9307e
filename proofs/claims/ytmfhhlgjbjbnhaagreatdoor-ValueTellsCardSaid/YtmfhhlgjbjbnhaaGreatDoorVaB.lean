/- value.digits, value.number and value.measure of any text: contracts proved by walking their text; no condition beside those that each theorem states. -/
import Derived.Test.YtmfhhlgjbjbnhaaGreatDoorVaA
import Derived.Test.YtmfhhlgjbjbnhaaGreatDoorVaQ
set_option linter.unusedVariables false
set_option linter.unusedSimpArgs false
namespace Go.Proofs.Val
open Go.RowKit Go.Proofs Go.Proofs.YtmfhhlgjbjbnhaaGreatDoorW.PrintWords
theorem ba_nil (l : List UInt8) : ((⟨l.toArray⟩ : ByteArray).toList == []) = decide (l = []) := by
  rw [Lib.toList_data]
  cases l <;> simp
theorem ba_size (l : List UInt8) : (⟨l.toArray⟩ : ByteArray).size = l.length := rfl
set_option maxHeartbeats 1000000 in
theorem digitsC (l : List UInt8) (m : Int) (w : World) (hs : l.length < 4294967281) :
    Calls Tryz.prog 63 #[.string ⟨l.toArray⟩, .int .i64 m] w fun e w' => e = .returned (.bool (digB l m)) ∧ Below w.heap.size w w' := by
  have hT := fun w => trim_dig ⟨l.toArray⟩ w hs
  have e1 := ba_nil l
  have e2 := ba_nil (Lib.trimS l [48, 49, 50, 51, 52, 53, 54, 55, 56, 57])
  have e3 := ba_size l
  have HD := Lib.hid (show digB l m = (!decide (l = []) && (decide ((l.length : Int) ≤ m) && decide (Lib.trimS l [48, 49, 50, 51, 52, 53, 54, 55, 56, 57] = []))) by
    unfold digB
    congr 1
    · simp
    · congr 1
      rw [Bool.eq_iff_iff, decide_eq_true_iff, trim_dig_nil])
  obtain ⟨u, hu⟩ : ∃ u, Lib.trimS l [48, 49, 50, 51, 52, 53, 54, 55, 56, 57] = u := ⟨_, rfl⟩
  rw [show (⟨l.toArray⟩ : ByteArray).data.toList = l from rfl, hu] at hT
  rw [hu] at e2 HD
  obtain ⟨s, hS⟩ : ∃ s : ByteArray, ⟨l.toArray⟩ = s := ⟨_, rfl⟩
  obtain ⟨t, ht⟩ : ∃ t : ByteArray, ⟨u.toArray⟩ = t := ⟨_, rfl⟩
  rw [hS] at e1 e3 hT ⊢
  rw [ht] at e2 hT
  clear hu hS ht
  go_enter Tryz.func63, Tryz.ntmps63
  by_cases h0 : l = []
  · rw [decide_eq_true h0] at e1
    have HD2 := Lib.hid (show digB l m = false by rw [HD.out, decide_eq_true h0]; rfl)
    clear h0
    go_wp2
    go_ret
    exact ⟨by rw [HD2.out]; rfl, Below.refl _ _⟩
  · rw [decide_eq_false h0] at e1
    by_cases h1 : (l.length : Int) ≤ m
    · have d1 : decide ((s.size : Int) ≤ m) = true := by rw [e3]; exact decide_eq_true h1
      by_cases h2 : u = []
      · rw [decide_eq_true h2] at e2
        have HD2 := Lib.hid (show digB l m = true by rw [HD.out, decide_eq_false h0, decide_eq_true h1, decide_eq_true h2]; rfl)
        clear h0 h1 h2 e3
        go_wp2_with (first | (go_at_call 39; refine (hT _).mono ?_; rintro e w' ⟨rfl, hB⟩))
        go_ret
        exact ⟨by rw [HD2.out]; rfl, hB⟩
      · rw [decide_eq_false h2] at e2
        have HD2 := Lib.hid (show digB l m = false by rw [HD.out, decide_eq_false h0, decide_eq_true h1, decide_eq_false h2]; rfl)
        clear h0 h1 h2 e3
        go_wp2_with (first | (go_at_call 39; refine (hT _).mono ?_; rintro e w' ⟨rfl, hB⟩))
        go_ret
        exact ⟨by rw [HD2.out]; rfl, hB⟩
    · have d1 : decide ((s.size : Int) ≤ m) = false := by rw [e3]; exact decide_eq_false h1
      have HD2 := Lib.hid (show digB l m = false by rw [HD.out, decide_eq_false h0, decide_eq_false h1]; rfl)
      clear h0 h1 e3
      go_wp2
      go_ret
      exact ⟨by rw [HD2.out]; rfl, Below.refl _ _⟩
theorem cut_none {l s : List UInt8} (h : (Lib.cut l s).2.2 = false) : (Lib.cut l s).2.1 = [] := by
  unfold Lib.cut at h ⊢
  split at h
  · cases h
  · rename_i hn; rw [if_neg hn]
theorem cut_len (l s : List UInt8) : (Lib.cut l s).1.length ≤ l.length ∧ (Lib.cut l s).2.1.length ≤ l.length := by
  unfold Lib.cut
  split
  · simp only [List.length_take, List.length_drop]; omega
  · simp
theorem ba_app (a b : List UInt8) : ((⟨a.toArray⟩ : ByteArray) ++ ⟨b.toArray⟩) = ⟨(a ++ b).toArray⟩ := by
  apply ByteArray.ext
  rw [ByteArray.data_append]
  simp
theorem ba_take (t : List UInt8) (m : Nat) : (⟨t.toArray⟩ : ByteArray).extract 0 m = ⟨(t.take m).toArray⟩ := by
  rw [Lib.extract_mk, List.drop_zero, Nat.sub_zero]
theorem trimPrefix_len (l p : List UInt8) : (Lib.trimPrefix l p).length ≤ l.length := by
  unfold Lib.trimPrefix
  split
  · rw [List.length_drop]; omega
  · exact Nat.le_refl _
theorem trimSuffix_len (l p : List UInt8) : (Lib.trimSuffix l p).length ≤ l.length := by
  unfold Lib.trimSuffix
  split
  · rw [List.length_take]; omega
  · exact Nat.le_refl _
theorem parse_below {W W' : World} (h : W' = W ∨ ∃ t, W' = Lib.bytesWorld W 5 t) : Below W.heap.size W W' := by
  rcases h with rfl | ⟨t, rfl⟩
  · exact Below.refl _ _
  · exact Lib.bytesWorld_below _ _ _
theorem decV_lt9 {l : List UInt8} (h : digB l 9 = true) : decV 0 l < 1000000000 := by
  obtain ⟨h1, h2, h3⟩ := digB_iff.1 h
  have := decV_lt l 0 0 h3 (by simp)
  have hp : 10 ^ (0 + l.length) ≤ 10 ^ 9 := Nat.pow_le_pow_right (by omega) (by omega)
  generalize h9 : 10 ^ 9 = T at hp
  have hT : T = 1000000000 := h9.symm
  omega
set_option maxHeartbeats 2000000 in
theorem numberC (l : List UInt8) (w : World) (hs : l.length < 4294967281) :
    Calls Tryz.prog 45 #[.string ⟨l.toArray⟩] w fun e w' => e = .returned (.tuple #[.int .i64 (numN l), .bool (numOk l)]) ∧ Below w.heap.size w w' := by
  have hP := fun w => Tryz.strings_CutPrefix ⟨l.toArray⟩ ⟨#[45]⟩ w
  have HA := Lib.hid (show numOk l = (digB (Lib.cut (Lib.trimPrefix l [45]) [46]).1 9 && (!(Lib.cut (Lib.trimPrefix l [45]) [46]).2.2 || digB (Lib.cut (Lib.trimPrefix l [45]) [46]).2.1 6)) from rfl)
  have HN := Lib.hid (show numN l = if numOk l = true then (if Lib.hasPrefix l [45] = true then -((decV 0 (Lib.cut (Lib.trimPrefix l [45]) [46]).1 : Int) * 64 + (sixV (Lib.cut (Lib.trimPrefix l [45]) [46]).2.1 : Int) * 64 / 1000000) else ((decV 0 (Lib.cut (Lib.trimPrefix l [45]) [46]).1 : Int) * 64 + (sixV (Lib.cut (Lib.trimPrefix l [45]) [46]).2.1 : Int) * 64 / 1000000)) else 0 from rfl)
  rw [show (⟨l.toArray⟩ : ByteArray).data.toList = l from rfl, show (⟨#[45]⟩ : ByteArray).data.toList = [45] from rfl] at hP
  have hl := trimPrefix_len l [45]
  obtain ⟨rest, hrest⟩ : ∃ r, Lib.trimPrefix l [45] = r := ⟨_, rfl⟩
  obtain ⟨bl, hbl⟩ : ∃ r, Lib.hasPrefix l [45] = r := ⟨_, rfl⟩
  rw [hrest, hbl] at hP
  rw [hrest] at HA hl
  rw [hrest, hbl] at HN
  have hC := fun w => ShX.xCut_one Tryz.lays145 ⟨rest.toArray⟩ 46 w (by show rest.length < _; omega)
  rw [show (⟨rest.toArray⟩ : ByteArray).data.toList = rest from rfl] at hC
  have hcn := cut_none (l := rest) (s := [46])
  have hcl := cut_len rest [46]
  obtain ⟨⟨c1, c2, dot⟩, hc⟩ : ∃ r, Lib.cut rest [46] = r := ⟨_, rfl⟩
  simp only [hc] at hC hcn hcl
  rw [hc] at HA HN
  simp only at HA HN
  have hD1 := fun w => digitsC c1 9 w (by omega)
  have hD2 := fun w => digitsC c2 6 w (by omega)
  have p1 := fun (h : digB c1 9 = true) w => by
    obtain ⟨q1, q2, q3⟩ := digB_iff.1 h
    exact Tryz.strconv_ParseInt_10_at64_ok ⟨c1.toArray⟩ (by show c1.length ≤ _; omega) (decV 0 c1 : Int) (by show Lib.parseIntB 64 c1 = _; exact parse_dig q3 q1 (by omega)) w
  have e6 : ((⟨c2.toArray⟩ : ByteArray) ++ ⟨#[48, 48, 48, 48, 48, 48]⟩).extract 0 6 = ⟨((c2 ++ zeros6).take 6).toArray⟩ := by
    rw [show (⟨#[48, 48, 48, 48, 48, 48]⟩ : ByteArray) = ⟨zeros6.toArray⟩ from rfl, ba_app, ba_take]
  have p2 := fun (h : c2.all isDig = true) w => by
    obtain ⟨q1, q2⟩ := six_dig h
    refine Tryz.strconv_ParseInt_10_at64_ok (((⟨c2.toArray⟩ : ByteArray) ++ ⟨#[48, 48, 48, 48, 48, 48]⟩).extract 0 6) ?_ (sixV c2 : Int) ?_ w
    · rw [e6]; show ((c2 ++ zeros6).take 6).length ≤ _; omega
    · rw [e6]; show Lib.parseIntB 64 ((c2 ++ zeros6).take 6) = _; exact parse_dig q1 (fun e => by rw [e] at q2; cases q2) (by omega)
  have hz : ((⟨c2.toArray⟩ : ByteArray) ++ ⟨#[48, 48, 48, 48, 48, 48]⟩).size = c2.length + 6 := by
    rw [show (⟨#[48, 48, 48, 48, 48, 48]⟩ : ByteArray) = ⟨zeros6.toArray⟩ from rfl, ba_app]
    show (c2 ++ zeros6).length = _
    simp [zeros6]
  obtain ⟨W1, h1⟩ : ∃ b, digB c1 9 = b := ⟨_, rfl⟩
  obtain ⟨W2, h2⟩ : ∃ b, digB c2 6 = b := ⟨_, rfl⟩
  simp only [h1] at hD1
  simp only [h2] at hD2
  rw [h1, h2] at HA
  cases W1 with
  | false =>
    have HK := Lib.hid (show numOk l = false ∧ numN l = 0 from ⟨by rw [HA.out]; rfl, by rw [HN.out, show numOk l = false by rw [HA.out]; rfl]; rfl⟩)
    clear p1 p2 hcn hcl HA HN hz e6 h1 h2 hc hl hrest hbl hs hD2
    go_enter Tryz.func45, Tryz.ntmps45
    go_wp2_with (first | (go_at_call 50; refine (hP _).mono ?_; rintro e w' ⟨rfl, rfl⟩) | (go_at_call 62; refine (hC _).mono ?_; rintro e w' ⟨rfl, nd, rfl⟩) | (go_at_call 63; refine (hD1 _).mono ?_; rintro e w1 ⟨rfl, hB1⟩))
    go_ret2
    have q0 := pw_below_drewN (Below.refl w'.heap.size w') nd
    exact ⟨(show _ = Ending.returned (Value.tuple #[.int .i64 0, .bool false]) from rfl).trans (by rw [HK.out.1, HK.out.2]), below_then q0 q0.size hB1⟩
  | true =>
    cases dot with
    | false =>
      obtain rfl := hcn rfl
      have hall : ([] : List UInt8).all isDig = true := rfl
      clear hD2
      obtain ⟨n, hn⟩ : ∃ n : Int, (decV 0 c1 : Int) = n := ⟨_, rfl⟩
      obtain ⟨m, hm⟩ : ∃ m : Int, (sixV ([] : List UInt8) : Int) = m := ⟨_, rfl⟩
      have bn : 0 ≤ n ∧ n < 1000000000 := by have := decV_lt9 h1; omega
      have bm : 0 ≤ m ∧ m < 1000000 := by have := six_lt hall; omega
      have hN := p1 h1
      have hM := p2 hall
      rw [hn] at hN
      rw [hm] at hM
      have HK := Lib.hid (show numOk l = true ∧ numN l = if bl = true then -(n * 64 + m * 64 / 1000000) else n * 64 + m * 64 / 1000000 from ⟨by rw [HA.out]; rfl, by rw [HN.out, show numOk l = true by rw [HA.out]; rfl, hn, hm]; rfl⟩)
      clear p1 p2 hcn hcl HA HN e6 h1 h2 hc hl hrest hbl hs hall hn hm
      cases bl with
      | false =>
        go_enter Tryz.func45, Tryz.ntmps45
        go_wp2_with (first | (go_at_call 50; refine (hP _).mono ?_; rintro e w' ⟨rfl, rfl⟩) | (go_at_call 62; refine (hC _).mono ?_; rintro e w' ⟨rfl, nd, rfl⟩) | (go_at_call 63; refine (hD1 _).mono ?_; rintro e w1 ⟨rfl, hB1⟩) | (go_at_call 51; first | (with_reducible refine (hN _).mono ?_; rintro e w3 ⟨rfl, hB3⟩) | (refine (hM _).mono ?_; rintro e w4 ⟨rfl, hB4⟩)))
        go_ret2
        have q0 := pw_below_drewN (Below.refl w'.heap.size w') nd
        have q1 := below_then q0 q0.size hB1
        have q2 := q1
        have q3 := below_then q2 q2.size (parse_below hB3)
        exact ⟨(show _ = Ending.returned (Value.tuple #[.int .i64 (n * 64 + m * 64 / 1000000), .bool true]) from rfl).trans (by rw [HK.out.1, HK.out.2]; rfl), below_then q3 q3.size (parse_below hB4)⟩
      | true =>
        go_enter Tryz.func45, Tryz.ntmps45
        go_wp2_with (first | (go_at_call 50; refine (hP _).mono ?_; rintro e w' ⟨rfl, rfl⟩) | (go_at_call 62; refine (hC _).mono ?_; rintro e w' ⟨rfl, nd, rfl⟩) | (go_at_call 63; refine (hD1 _).mono ?_; rintro e w1 ⟨rfl, hB1⟩) | (go_at_call 51; first | (with_reducible refine (hN _).mono ?_; rintro e w3 ⟨rfl, hB3⟩) | (refine (hM _).mono ?_; rintro e w4 ⟨rfl, hB4⟩)))
        go_ret2
        have q0 := pw_below_drewN (Below.refl w'.heap.size w') nd
        have q1 := below_then q0 q0.size hB1
        have q2 := q1
        have q3 := below_then q2 q2.size (parse_below hB3)
        exact ⟨(show _ = Ending.returned (Value.tuple #[.int .i64 (-(n * 64 + m * 64 / 1000000)), .bool true]) from rfl).trans (by rw [HK.out.1, HK.out.2]; rfl), below_then q3 q3.size (parse_below hB4)⟩
    | true =>
      cases W2 with
      | false =>
        have HK := Lib.hid (show numOk l = false ∧ numN l = 0 from ⟨by rw [HA.out]; rfl, by rw [HN.out, show numOk l = false by rw [HA.out]; rfl]; rfl⟩)
        clear p1 p2 hcn hcl HA HN hz e6 h1 h2 hc hl hrest hbl hs
        go_enter Tryz.func45, Tryz.ntmps45
        go_wp2_with (first | (go_at_call 50; refine (hP _).mono ?_; rintro e w' ⟨rfl, rfl⟩) | (go_at_call 62; refine (hC _).mono ?_; rintro e w' ⟨rfl, nd, rfl⟩) | (go_at_call 63; first | (with_reducible refine (hD1 _).mono ?_; rintro e w1 ⟨rfl, hB1⟩) | (with_reducible refine (hD2 _).mono ?_; rintro e w2 ⟨rfl, hB2⟩)))
        go_ret2
        have q0 := pw_below_drewN (Below.refl w'.heap.size w') nd
        have q1 := below_then q0 q0.size hB1
        exact ⟨(show _ = Ending.returned (Value.tuple #[.int .i64 0, .bool false]) from rfl).trans (by rw [HK.out.1, HK.out.2]), below_then q1 q1.size hB2⟩
      | true =>
        have hall : c2.all isDig = true := (digB_iff.1 h2).2.2
        have hz2 : (⟨c2.toArray⟩ : ByteArray).size + (⟨#[48, 48, 48, 48, 48, 48]⟩ : ByteArray).size ≤ 9223372036854775807 := by show c2.length + 6 ≤ _; omega
        obtain ⟨n, hn⟩ : ∃ n : Int, (decV 0 c1 : Int) = n := ⟨_, rfl⟩
        obtain ⟨m, hm⟩ : ∃ m : Int, (sixV c2 : Int) = m := ⟨_, rfl⟩
        have bn : 0 ≤ n ∧ n < 1000000000 := by have := decV_lt9 h1; omega
        have bm : 0 ≤ m ∧ m < 1000000 := by have := six_lt hall; omega
        have hN := p1 h1
        have hM := p2 hall
        rw [hn] at hN
        rw [hm] at hM
        have HK := Lib.hid (show numOk l = true ∧ numN l = if bl = true then -(n * 64 + m * 64 / 1000000) else n * 64 + m * 64 / 1000000 from ⟨by rw [HA.out]; rfl, by rw [HN.out, show numOk l = true by rw [HA.out]; rfl, hn, hm]; rfl⟩)
        clear p1 p2 hcn hcl HA HN e6 h1 h2 hc hl hrest hbl hs hall hn hm
        cases bl with
        | false =>
          go_enter Tryz.func45, Tryz.ntmps45
          go_wp2_with (first | (go_at_call 50; refine (hP _).mono ?_; rintro e w' ⟨rfl, rfl⟩) | (go_at_call 62; refine (hC _).mono ?_; rintro e w' ⟨rfl, nd, rfl⟩) | (go_at_call 63; first | (with_reducible refine (hD1 _).mono ?_; rintro e w1 ⟨rfl, hB1⟩) | (with_reducible refine (hD2 _).mono ?_; rintro e w2 ⟨rfl, hB2⟩)) | (go_at_call 51; first | (with_reducible refine (hN _).mono ?_; rintro e w3 ⟨rfl, hB3⟩) | (refine (hM _).mono ?_; rintro e w4 ⟨rfl, hB4⟩)))
          go_ret2
          have q0 := pw_below_drewN (Below.refl w'.heap.size w') nd
          have q1 := below_then q0 q0.size hB1
          have q2 := below_then q1 q1.size hB2
          have q3 := below_then q2 q2.size (parse_below hB3)
          exact ⟨(show _ = Ending.returned (Value.tuple #[.int .i64 (n * 64 + m * 64 / 1000000), .bool true]) from rfl).trans (by rw [HK.out.1, HK.out.2]; rfl), below_then q3 q3.size (parse_below hB4)⟩
        | true =>
          go_enter Tryz.func45, Tryz.ntmps45
          go_wp2_with (first | (go_at_call 50; refine (hP _).mono ?_; rintro e w' ⟨rfl, rfl⟩) | (go_at_call 62; refine (hC _).mono ?_; rintro e w' ⟨rfl, nd, rfl⟩) | (go_at_call 63; first | (with_reducible refine (hD1 _).mono ?_; rintro e w1 ⟨rfl, hB1⟩) | (with_reducible refine (hD2 _).mono ?_; rintro e w2 ⟨rfl, hB2⟩)) | (go_at_call 51; first | (with_reducible refine (hN _).mono ?_; rintro e w3 ⟨rfl, hB3⟩) | (refine (hM _).mono ?_; rintro e w4 ⟨rfl, hB4⟩)))
          go_ret2
          have q0 := pw_below_drewN (Below.refl w'.heap.size w') nd
          have q1 := below_then q0 q0.size hB1
          have q2 := below_then q1 q1.size hB2
          have q3 := below_then q2 q2.size (parse_below hB3)
          exact ⟨(show _ = Ending.returned (Value.tuple #[.int .i64 (-(n * 64 + m * 64 / 1000000)), .bool true]) from rfl).trans (by rw [HK.out.1, HK.out.2]; rfl), below_then q3 q3.size (parse_below hB4)⟩
def measOk (l s : List UInt8) : Bool := Lib.hasSuffix l s && numOk (Lib.trimSuffix l s)
def measV (l s : List UInt8) (k : Int) : Int × Int := if measOk l s = true then (k, numN (Lib.trimSuffix l s)) else (0, 0)
set_option maxHeartbeats 2000000 in
theorem measureC (l s : List UInt8) (k : Int) (w : World) (hs : l.length < 4294967281) :
    Calls Tryz.prog 38 #[.string ⟨l.toArray⟩, .string ⟨s.toArray⟩, .int .i64 k] w fun e w' => e = .returned (.tuple #[.agg #[.int .i64 (measV l s k).1, .int .i64 (measV l s k).2], .bool (measOk l s)]) ∧ Below w.heap.size w w' := by
  have hP := fun w => Tryz.strings_CutSuffix ⟨l.toArray⟩ ⟨s.toArray⟩ w (by show l.length ≤ _; omega)
  rw [show (⟨l.toArray⟩ : ByteArray).data.toList = l from rfl, show (⟨s.toArray⟩ : ByteArray).data.toList = s from rfl] at hP
  have hN := fun w => numberC (Lib.trimSuffix l s) w (by have := trimSuffix_len l s; omega)
  have HA := Lib.hid (show measOk l s = (Lib.hasSuffix l s && numOk (Lib.trimSuffix l s)) from rfl)
  have HV := Lib.hid (show measV l s k = if measOk l s = true then (k, numN (Lib.trimSuffix l s)) else (0, 0) from rfl)
  obtain ⟨is, h1⟩ : ∃ b, Lib.hasSuffix l s = b := ⟨_, rfl⟩
  obtain ⟨ok, h2⟩ : ∃ b, numOk (Lib.trimSuffix l s) = b := ⟨_, rfl⟩
  obtain ⟨n, h3⟩ : ∃ b, numN (Lib.trimSuffix l s) = b := ⟨_, rfl⟩
  obtain ⟨fr, h4⟩ : ∃ b, Lib.trimSuffix l s = b := ⟨_, rfl⟩
  simp only [h1] at hP
  simp only [h2, h3] at hN
  rw [h1, h2] at HA
  rw [h3] at HV
  simp only [h4] at hP hN
  clear h1 h2 h3 h4 hs
  cases is with
  | false =>
    have HK := Lib.hid (show measOk l s = false ∧ measV l s k = (0, 0) from ⟨by rw [HA.out]; rfl, by rw [HV.out, show measOk l s = false by rw [HA.out]; rfl]; rfl⟩)
    clear HA HV
    go_enter Tryz.func38, Tryz.ntmps38
    go_wp2_with (first | (go_at_call 52; refine (hP _).mono ?_; rintro e w' ⟨rfl, rfl⟩) | (go_at_call 45; refine (hN _).mono ?_; rintro e w1 ⟨rfl, hB1⟩; obtain ⟨hc, hf⟩ := bcell hB1; have hz : w.heap.size < w1.heap.size := by (have hs := hB1.size; rw [alloc_size] at hs; omega)))
    have p1 : Below w.heap.size w w1 := ((Below.refl _ _).alloc (Nat.le_refl _) _).trans (hB1.mono (by rw [alloc_size]; omega))
    refine bodyPost_ret (v := .tuple #[.agg #[.int .i64 0, .int .i64 0], .bool false]) (by simp [results, Tryz.results38, go_sem, hc, hz]) rfl ⟨by rw [HK.out.1, HK.out.2], ?_⟩
    exact (p1.setCell (by exact Nat.le_refl _) _).setCell (by exact Nat.le_refl _) _
  | true =>
    cases ok with
    | false =>
      have HK := Lib.hid (show measOk l s = false ∧ measV l s k = (0, 0) from ⟨by rw [HA.out]; rfl, by rw [HV.out, show measOk l s = false by rw [HA.out]; rfl]; rfl⟩)
      clear HA HV
      go_enter Tryz.func38, Tryz.ntmps38
      go_wp2_with (first | (go_at_call 52; refine (hP _).mono ?_; rintro e w' ⟨rfl, rfl⟩) | (go_at_call 45; refine (hN _).mono ?_; rintro e w1 ⟨rfl, hB1⟩; obtain ⟨hc, hf⟩ := bcell hB1; have hz : w.heap.size < w1.heap.size := by (have hs := hB1.size; rw [alloc_size] at hs; omega)))
      have p1 : Below w.heap.size w w1 := ((Below.refl _ _).alloc (Nat.le_refl _) _).trans (hB1.mono (by rw [alloc_size]; omega))
      refine bodyPost_ret (v := .tuple #[.agg #[.int .i64 0, .int .i64 0], .bool false]) (by simp [results, Tryz.results38, go_sem, hc, hz]) rfl ⟨by rw [HK.out.1, HK.out.2], ?_⟩
      exact (p1.setCell (by exact Nat.le_refl _) _).setCell (by exact Nat.le_refl _) _
    | true =>
      have HK := Lib.hid (show measOk l s = true ∧ measV l s k = (k, n) from ⟨by rw [HA.out]; rfl, by rw [HV.out, show measOk l s = true by rw [HA.out]; rfl]; rfl⟩)
      clear HA HV
      go_enter Tryz.func38, Tryz.ntmps38
      go_wp2_with (first | (go_at_call 52; refine (hP _).mono ?_; rintro e w' ⟨rfl, rfl⟩) | (go_at_call 45; refine (hN _).mono ?_; rintro e w1 ⟨rfl, hB1⟩; obtain ⟨hc, hf⟩ := bcell hB1; have hz : w.heap.size < w1.heap.size := by (have hs := hB1.size; rw [alloc_size] at hs; omega)))
      have p1 : Below w.heap.size w w1 := ((Below.refl _ _).alloc (Nat.le_refl _) _).trans (hB1.mono (by rw [alloc_size]; omega))
      refine bodyPost_ret (v := .tuple #[.agg #[.int .i64 k, .int .i64 n], .bool true]) (by simp [results, Tryz.results38, go_sem, hc, hz]) rfl ⟨by rw [HK.out.1, HK.out.2], ?_⟩
      exact (p1.setCell (by exact Nat.le_refl _) _).setCell (by exact Nat.le_refl _) _
end Go.Proofs.Val
