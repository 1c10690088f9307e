/- value.digits, value.number and value.measure of any text: contracts proved by walking their text; no condition beside those that each theorem states. -/
import Derived.Test.YtolfpgccebdlpaaGreatDoorVmB
import Derived.Test.YtolfpgccebdlpaaGreatDoorVaP
import Derived.Laws.BytesArg
import Derived.Lib.ConvBytes
set_option linter.unusedVariables false
set_option linter.unusedSimpArgs false
namespace Go.Proofs.Val
open Go.RowKit Go.Proofs Go.Proofs.YtolfpgccebdlpaaGreatDoorW.PrintWords
theorem ba_nil (l : List UInt8) : ((⟨l.toArray⟩ : ByteArray).toList == []) = decide (l = []) := by
  rw [Lib.toList_data]
  cases l <;> simp
theorem ba_size (l : List UInt8) : (⟨l.toArray⟩ : ByteArray).size = l.length := rfl
set_option maxHeartbeats 1000000 in
theorem digitsC (l : List UInt8) (m : Int) (w : World) (hs : l.length < 4294967281) :
    Calls Tryz.prog 183 #[.string ⟨l.toArray⟩, .int .i64 m] w fun e w' => e = .returned (.bool (digB l m)) ∧ Below w.heap.size w w' := by
  have hT := fun w => trim_dig ⟨l.toArray⟩ w hs
  have e1 := ba_nil l
  have e2 := ba_nil (Lib.trimS l [48, 49, 50, 51, 52, 53, 54, 55, 56, 57])
  have e3 := ba_size l
  have HD := Lib.hid (show digB l m = (!decide (l = []) && (decide ((l.length : Int) ≤ m) && decide (Lib.trimS l [48, 49, 50, 51, 52, 53, 54, 55, 56, 57] = []))) by
    unfold digB
    congr 1
    · simp
    · congr 1
      rw [Bool.eq_iff_iff, decide_eq_true_iff, trim_dig_nil])
  obtain ⟨u, hu⟩ : ∃ u, Lib.trimS l [48, 49, 50, 51, 52, 53, 54, 55, 56, 57] = u := ⟨_, rfl⟩
  rw [show (⟨l.toArray⟩ : ByteArray).data.toList = l from rfl, hu] at hT
  rw [hu] at e2 HD
  obtain ⟨s, hS⟩ : ∃ s : ByteArray, ⟨l.toArray⟩ = s := ⟨_, rfl⟩
  obtain ⟨t, ht⟩ : ∃ t : ByteArray, ⟨u.toArray⟩ = t := ⟨_, rfl⟩
  rw [hS] at e1 e3 hT ⊢
  rw [ht] at e2 hT
  clear hu hS ht
  go_enter Tryz.func183, Tryz.ntmps183
  by_cases h0 : l = []
  · rw [decide_eq_true h0] at e1
    have HD2 := Lib.hid (show digB l m = false by rw [HD.out, decide_eq_true h0]; rfl)
    clear h0
    go_wp2
    go_ret
    exact ⟨by rw [HD2.out]; rfl, Below.refl _ _⟩
  · rw [decide_eq_false h0] at e1
    by_cases h1 : (l.length : Int) ≤ m
    · have d1 : decide ((s.size : Int) ≤ m) = true := by rw [e3]; exact decide_eq_true h1
      by_cases h2 : u = []
      · rw [decide_eq_true h2] at e2
        have HD2 := Lib.hid (show digB l m = true by rw [HD.out, decide_eq_false h0, decide_eq_true h1, decide_eq_true h2]; rfl)
        clear h0 h1 h2 e3
        go_wp2_with (first | (go_at_call 132; refine (hT _).mono ?_; rintro e w' ⟨rfl, hB⟩))
        go_ret
        exact ⟨by rw [HD2.out]; rfl, hB⟩
      · rw [decide_eq_false h2] at e2
        have HD2 := Lib.hid (show digB l m = false by rw [HD.out, decide_eq_false h0, decide_eq_true h1, decide_eq_false h2]; rfl)
        clear h0 h1 h2 e3
        go_wp2_with (first | (go_at_call 132; refine (hT _).mono ?_; rintro e w' ⟨rfl, hB⟩))
        go_ret
        exact ⟨by rw [HD2.out]; rfl, hB⟩
    · have d1 : decide ((s.size : Int) ≤ m) = false := by rw [e3]; exact decide_eq_false h1
      have HD2 := Lib.hid (show digB l m = false by rw [HD.out, decide_eq_false h0, decide_eq_false h1]; rfl)
      clear h0 h1 e3
      go_wp2
      go_ret
      exact ⟨by rw [HD2.out]; rfl, Below.refl _ _⟩
theorem cut_none {l s : List UInt8} (h : (Lib.cut l s).2.2 = false) : (Lib.cut l s).2.1 = [] := by
  unfold Lib.cut at h ⊢
  split at h
  · cases h
  · rename_i hn; rw [if_neg hn]
theorem cut_len (l s : List UInt8) : (Lib.cut l s).1.length ≤ l.length ∧ (Lib.cut l s).2.1.length ≤ l.length := by
  unfold Lib.cut
  split
  · simp only [List.length_take, List.length_drop]; omega
  · simp
theorem ba_app (a b : List UInt8) : ((⟨a.toArray⟩ : ByteArray) ++ ⟨b.toArray⟩) = ⟨(a ++ b).toArray⟩ := by
  apply ByteArray.ext
  rw [ByteArray.data_append]
  simp
theorem ba_take (t : List UInt8) (m : Nat) : (⟨t.toArray⟩ : ByteArray).extract 0 m = ⟨(t.take m).toArray⟩ := by
  rw [Lib.extract_mk, List.drop_zero, Nat.sub_zero]
theorem trimPrefix_len (l p : List UInt8) : (Lib.trimPrefix l p).length ≤ l.length := by
  unfold Lib.trimPrefix
  split
  · rw [List.length_drop]; omega
  · exact Nat.le_refl _
theorem trimSuffix_len (l p : List UInt8) : (Lib.trimSuffix l p).length ≤ l.length := by
  unfold Lib.trimSuffix
  split
  · rw [List.length_take]; omega
  · exact Nat.le_refl _
theorem parse_below {W W' : World} (h : W' = W ∨ ∃ t, W' = Lib.bytesWorld W 5 t) : Below W.heap.size W W' := by
  rcases h with rfl | ⟨t, rfl⟩
  · exact Below.refl _ _
  · exact Lib.bytesWorld_below _ _ _
theorem decV_lt9 {l : List UInt8} (h : digB l 9 = true) : decV 0 l < 1000000000 := by
  obtain ⟨h1, h2, h3⟩ := digB_iff.1 h
  have := decV_lt l 0 0 h3 (by simp)
  have hp : 10 ^ (0 + l.length) ≤ 10 ^ 9 := Nat.pow_le_pow_right (by omega) (by omega)
  generalize h9 : 10 ^ 9 = T at hp
  have hT : T = 1000000000 := h9.symm
  omega
set_option maxHeartbeats 2000000 in
theorem numberC (l : List UInt8) (w : World) (hs : l.length < 4294967281) :
    Calls Tryz.prog 148 #[.string ⟨l.toArray⟩] w fun e w' => e = .returned (.tuple #[.int .i64 (numN l), .bool (numOk l)]) ∧ Below w.heap.size w w' := by
  have hP := fun w => Tryz.strings_CutPrefix ⟨l.toArray⟩ ⟨#[45]⟩ w
  have HA := Lib.hid (show numOk l = (digB (Lib.cut (Lib.trimPrefix l [45]) [46]).1 9 && (!(Lib.cut (Lib.trimPrefix l [45]) [46]).2.2 || digB (Lib.cut (Lib.trimPrefix l [45]) [46]).2.1 6)) from rfl)
  have HN := Lib.hid (show numN l = if numOk l = true then (if Lib.hasPrefix l [45] = true then -((decV 0 (Lib.cut (Lib.trimPrefix l [45]) [46]).1 : Int) * 64 + (sixV (Lib.cut (Lib.trimPrefix l [45]) [46]).2.1 : Int) * 64 / 1000000) else ((decV 0 (Lib.cut (Lib.trimPrefix l [45]) [46]).1 : Int) * 64 + (sixV (Lib.cut (Lib.trimPrefix l [45]) [46]).2.1 : Int) * 64 / 1000000)) else 0 from rfl)
  rw [show (⟨l.toArray⟩ : ByteArray).data.toList = l from rfl, show (⟨#[45]⟩ : ByteArray).data.toList = [45] from rfl] at hP
  have hl := trimPrefix_len l [45]
  obtain ⟨rest, hrest⟩ : ∃ r, Lib.trimPrefix l [45] = r := ⟨_, rfl⟩
  obtain ⟨bl, hbl⟩ : ∃ r, Lib.hasPrefix l [45] = r := ⟨_, rfl⟩
  rw [hrest, hbl] at hP
  rw [hrest] at HA hl
  rw [hrest, hbl] at HN
  have hC := fun w => ShX.xCut_one Tryz.lays145 ⟨rest.toArray⟩ 46 w (by show rest.length < _; omega)
  rw [show (⟨rest.toArray⟩ : ByteArray).data.toList = rest from rfl] at hC
  have hcn := cut_none (l := rest) (s := [46])
  have hcl := cut_len rest [46]
  obtain ⟨⟨c1, c2, dot⟩, hc⟩ : ∃ r, Lib.cut rest [46] = r := ⟨_, rfl⟩
  simp only [hc] at hC hcn hcl
  rw [hc] at HA HN
  simp only at HA HN
  have hD1 := fun w => digitsC c1 9 w (by omega)
  have hD2 := fun w => digitsC c2 6 w (by omega)
  have p1 := fun (h : digB c1 9 = true) w => by
    obtain ⟨q1, q2, q3⟩ := digB_iff.1 h
    exact Tryz.strconv_ParseInt_10_at64_ok ⟨c1.toArray⟩ (by show c1.length ≤ _; omega) (decV 0 c1 : Int) (by show Lib.parseIntB 64 c1 = _; exact parse_dig q3 q1 (by omega)) w
  have e6 : ((⟨c2.toArray⟩ : ByteArray) ++ ⟨#[48, 48, 48, 48, 48, 48]⟩).extract 0 6 = ⟨((c2 ++ zeros6).take 6).toArray⟩ := by
    rw [show (⟨#[48, 48, 48, 48, 48, 48]⟩ : ByteArray) = ⟨zeros6.toArray⟩ from rfl, ba_app, ba_take]
  have p2 := fun (h : c2.all isDig = true) w => by
    obtain ⟨q1, q2⟩ := six_dig h
    refine Tryz.strconv_ParseInt_10_at64_ok (((⟨c2.toArray⟩ : ByteArray) ++ ⟨#[48, 48, 48, 48, 48, 48]⟩).extract 0 6) ?_ (sixV c2 : Int) ?_ w
    · rw [e6]; show ((c2 ++ zeros6).take 6).length ≤ _; omega
    · rw [e6]; show Lib.parseIntB 64 ((c2 ++ zeros6).take 6) = _; exact parse_dig q1 (fun e => by rw [e] at q2; cases q2) (by omega)
  have hz : ((⟨c2.toArray⟩ : ByteArray) ++ ⟨#[48, 48, 48, 48, 48, 48]⟩).size = c2.length + 6 := by
    rw [show (⟨#[48, 48, 48, 48, 48, 48]⟩ : ByteArray) = ⟨zeros6.toArray⟩ from rfl, ba_app]
    show (c2 ++ zeros6).length = _
    simp [zeros6]
  obtain ⟨W1, h1⟩ : ∃ b, digB c1 9 = b := ⟨_, rfl⟩
  obtain ⟨W2, h2⟩ : ∃ b, digB c2 6 = b := ⟨_, rfl⟩
  simp only [h1] at hD1
  simp only [h2] at hD2
  rw [h1, h2] at HA
  cases W1 with
  | false =>
    have HK := Lib.hid (show numOk l = false ∧ numN l = 0 from ⟨by rw [HA.out]; rfl, by rw [HN.out, show numOk l = false by rw [HA.out]; rfl]; rfl⟩)
    clear p1 p2 hcn hcl HA HN hz e6 h1 h2 hc hl hrest hbl hs hD2
    go_enter Tryz.func148, Tryz.ntmps148
    go_wp2_with (first | (go_at_call 182; refine (hP _).mono ?_; rintro e w' ⟨rfl, rfl⟩) | (go_at_call 102; refine (hC _).mono ?_; rintro e w' ⟨rfl, nd, rfl⟩) | (go_at_call 183; refine (hD1 _).mono ?_; rintro e w1 ⟨rfl, hB1⟩))
    go_ret2
    have q0 := pw_below_drewN (Below.refl w'.heap.size w') nd
    exact ⟨(show _ = Ending.returned (Value.tuple #[.int .i64 0, .bool false]) from rfl).trans (by rw [HK.out.1, HK.out.2]), below_then q0 q0.size hB1⟩
  | true =>
    cases dot with
    | false =>
      obtain rfl := hcn rfl
      have hall : ([] : List UInt8).all isDig = true := rfl
      clear hD2
      obtain ⟨n, hn⟩ : ∃ n : Int, (decV 0 c1 : Int) = n := ⟨_, rfl⟩
      obtain ⟨m, hm⟩ : ∃ m : Int, (sixV ([] : List UInt8) : Int) = m := ⟨_, rfl⟩
      have bn : 0 ≤ n ∧ n < 1000000000 := by have := decV_lt9 h1; omega
      have bm : 0 ≤ m ∧ m < 1000000 := by have := six_lt hall; omega
      have hN := p1 h1
      have hM := p2 hall
      rw [hn] at hN
      rw [hm] at hM
      have HK := Lib.hid (show numOk l = true ∧ numN l = if bl = true then -(n * 64 + m * 64 / 1000000) else n * 64 + m * 64 / 1000000 from ⟨by rw [HA.out]; rfl, by rw [HN.out, show numOk l = true by rw [HA.out]; rfl, hn, hm]; rfl⟩)
      clear p1 p2 hcn hcl HA HN e6 h1 h2 hc hl hrest hbl hs hall hn hm
      cases bl with
      | false =>
        go_enter Tryz.func148, Tryz.ntmps148
        go_wp2_with (first | (go_at_call 182; refine (hP _).mono ?_; rintro e w' ⟨rfl, rfl⟩) | (go_at_call 102; refine (hC _).mono ?_; rintro e w' ⟨rfl, nd, rfl⟩) | (go_at_call 183; refine (hD1 _).mono ?_; rintro e w1 ⟨rfl, hB1⟩) | (go_at_call 184; first | (with_reducible refine (hN _).mono ?_; rintro e w3 ⟨rfl, hB3⟩) | (refine (hM _).mono ?_; rintro e w4 ⟨rfl, hB4⟩)))
        go_ret2
        have q0 := pw_below_drewN (Below.refl w'.heap.size w') nd
        have q1 := below_then q0 q0.size hB1
        have q2 := q1
        have q3 := below_then q2 q2.size (parse_below hB3)
        exact ⟨(show _ = Ending.returned (Value.tuple #[.int .i64 (n * 64 + m * 64 / 1000000), .bool true]) from rfl).trans (by rw [HK.out.1, HK.out.2]; rfl), below_then q3 q3.size (parse_below hB4)⟩
      | true =>
        go_enter Tryz.func148, Tryz.ntmps148
        go_wp2_with (first | (go_at_call 182; refine (hP _).mono ?_; rintro e w' ⟨rfl, rfl⟩) | (go_at_call 102; refine (hC _).mono ?_; rintro e w' ⟨rfl, nd, rfl⟩) | (go_at_call 183; refine (hD1 _).mono ?_; rintro e w1 ⟨rfl, hB1⟩) | (go_at_call 184; first | (with_reducible refine (hN _).mono ?_; rintro e w3 ⟨rfl, hB3⟩) | (refine (hM _).mono ?_; rintro e w4 ⟨rfl, hB4⟩)))
        go_ret2
        have q0 := pw_below_drewN (Below.refl w'.heap.size w') nd
        have q1 := below_then q0 q0.size hB1
        have q2 := q1
        have q3 := below_then q2 q2.size (parse_below hB3)
        exact ⟨(show _ = Ending.returned (Value.tuple #[.int .i64 (-(n * 64 + m * 64 / 1000000)), .bool true]) from rfl).trans (by rw [HK.out.1, HK.out.2]; rfl), below_then q3 q3.size (parse_below hB4)⟩
    | true =>
      cases W2 with
      | false =>
        have HK := Lib.hid (show numOk l = false ∧ numN l = 0 from ⟨by rw [HA.out]; rfl, by rw [HN.out, show numOk l = false by rw [HA.out]; rfl]; rfl⟩)
        clear p1 p2 hcn hcl HA HN hz e6 h1 h2 hc hl hrest hbl hs
        go_enter Tryz.func148, Tryz.ntmps148
        go_wp2_with (first | (go_at_call 182; refine (hP _).mono ?_; rintro e w' ⟨rfl, rfl⟩) | (go_at_call 102; refine (hC _).mono ?_; rintro e w' ⟨rfl, nd, rfl⟩) | (go_at_call 183; first | (with_reducible refine (hD1 _).mono ?_; rintro e w1 ⟨rfl, hB1⟩) | (with_reducible refine (hD2 _).mono ?_; rintro e w2 ⟨rfl, hB2⟩)))
        go_ret2
        have q0 := pw_below_drewN (Below.refl w'.heap.size w') nd
        have q1 := below_then q0 q0.size hB1
        exact ⟨(show _ = Ending.returned (Value.tuple #[.int .i64 0, .bool false]) from rfl).trans (by rw [HK.out.1, HK.out.2]), below_then q1 q1.size hB2⟩
      | true =>
        have hall : c2.all isDig = true := (digB_iff.1 h2).2.2
        have hz2 : (⟨c2.toArray⟩ : ByteArray).size + (⟨#[48, 48, 48, 48, 48, 48]⟩ : ByteArray).size ≤ 9223372036854775807 := by show c2.length + 6 ≤ _; omega
        obtain ⟨n, hn⟩ : ∃ n : Int, (decV 0 c1 : Int) = n := ⟨_, rfl⟩
        obtain ⟨m, hm⟩ : ∃ m : Int, (sixV c2 : Int) = m := ⟨_, rfl⟩
        have bn : 0 ≤ n ∧ n < 1000000000 := by have := decV_lt9 h1; omega
        have bm : 0 ≤ m ∧ m < 1000000 := by have := six_lt hall; omega
        have hN := p1 h1
        have hM := p2 hall
        rw [hn] at hN
        rw [hm] at hM
        have HK := Lib.hid (show numOk l = true ∧ numN l = if bl = true then -(n * 64 + m * 64 / 1000000) else n * 64 + m * 64 / 1000000 from ⟨by rw [HA.out]; rfl, by rw [HN.out, show numOk l = true by rw [HA.out]; rfl, hn, hm]; rfl⟩)
        clear p1 p2 hcn hcl HA HN e6 h1 h2 hc hl hrest hbl hs hall hn hm
        cases bl with
        | false =>
          go_enter Tryz.func148, Tryz.ntmps148
          go_wp2_with (first | (go_at_call 182; refine (hP _).mono ?_; rintro e w' ⟨rfl, rfl⟩) | (go_at_call 102; refine (hC _).mono ?_; rintro e w' ⟨rfl, nd, rfl⟩) | (go_at_call 183; first | (with_reducible refine (hD1 _).mono ?_; rintro e w1 ⟨rfl, hB1⟩) | (with_reducible refine (hD2 _).mono ?_; rintro e w2 ⟨rfl, hB2⟩)) | (go_at_call 184; first | (with_reducible refine (hN _).mono ?_; rintro e w3 ⟨rfl, hB3⟩) | (refine (hM _).mono ?_; rintro e w4 ⟨rfl, hB4⟩)))
          go_ret2
          have q0 := pw_below_drewN (Below.refl w'.heap.size w') nd
          have q1 := below_then q0 q0.size hB1
          have q2 := below_then q1 q1.size hB2
          have q3 := below_then q2 q2.size (parse_below hB3)
          exact ⟨(show _ = Ending.returned (Value.tuple #[.int .i64 (n * 64 + m * 64 / 1000000), .bool true]) from rfl).trans (by rw [HK.out.1, HK.out.2]; rfl), below_then q3 q3.size (parse_below hB4)⟩
        | true =>
          go_enter Tryz.func148, Tryz.ntmps148
          go_wp2_with (first | (go_at_call 182; refine (hP _).mono ?_; rintro e w' ⟨rfl, rfl⟩) | (go_at_call 102; refine (hC _).mono ?_; rintro e w' ⟨rfl, nd, rfl⟩) | (go_at_call 183; first | (with_reducible refine (hD1 _).mono ?_; rintro e w1 ⟨rfl, hB1⟩) | (with_reducible refine (hD2 _).mono ?_; rintro e w2 ⟨rfl, hB2⟩)) | (go_at_call 184; first | (with_reducible refine (hN _).mono ?_; rintro e w3 ⟨rfl, hB3⟩) | (refine (hM _).mono ?_; rintro e w4 ⟨rfl, hB4⟩)))
          go_ret2
          have q0 := pw_below_drewN (Below.refl w'.heap.size w') nd
          have q1 := below_then q0 q0.size hB1
          have q2 := below_then q1 q1.size hB2
          have q3 := below_then q2 q2.size (parse_below hB3)
          exact ⟨(show _ = Ending.returned (Value.tuple #[.int .i64 (-(n * 64 + m * 64 / 1000000)), .bool true]) from rfl).trans (by rw [HK.out.1, HK.out.2]; rfl), below_then q3 q3.size (parse_below hB4)⟩
def measOk (l s : List UInt8) : Bool := Lib.hasSuffix l s && numOk (Lib.trimSuffix l s)
def measV (l s : List UInt8) (k : Int) : Int × Int := if measOk l s = true then (k, numN (Lib.trimSuffix l s)) else (0, 0)
set_option maxHeartbeats 2000000 in
theorem measureC (l s : List UInt8) (k : Int) (w : World) (hs : l.length < 4294967281) :
    Calls Tryz.prog 177 #[.string ⟨l.toArray⟩, .string ⟨s.toArray⟩, .int .i64 k] w fun e w' => e = .returned (.tuple #[.agg #[.int .i64 (measV l s k).1, .int .i64 (measV l s k).2], .bool (measOk l s)]) ∧ Below w.heap.size w w' := by
  have hP := fun w => Tryz.strings_CutSuffix ⟨l.toArray⟩ ⟨s.toArray⟩ w (by show l.length ≤ _; omega)
  rw [show (⟨l.toArray⟩ : ByteArray).data.toList = l from rfl, show (⟨s.toArray⟩ : ByteArray).data.toList = s from rfl] at hP
  have hN := fun w => numberC (Lib.trimSuffix l s) w (by have := trimSuffix_len l s; omega)
  have HA := Lib.hid (show measOk l s = (Lib.hasSuffix l s && numOk (Lib.trimSuffix l s)) from rfl)
  have HV := Lib.hid (show measV l s k = if measOk l s = true then (k, numN (Lib.trimSuffix l s)) else (0, 0) from rfl)
  obtain ⟨is, h1⟩ : ∃ b, Lib.hasSuffix l s = b := ⟨_, rfl⟩
  obtain ⟨ok, h2⟩ : ∃ b, numOk (Lib.trimSuffix l s) = b := ⟨_, rfl⟩
  obtain ⟨n, h3⟩ : ∃ b, numN (Lib.trimSuffix l s) = b := ⟨_, rfl⟩
  obtain ⟨fr, h4⟩ : ∃ b, Lib.trimSuffix l s = b := ⟨_, rfl⟩
  simp only [h1] at hP
  simp only [h2, h3] at hN
  rw [h1, h2] at HA
  rw [h3] at HV
  simp only [h4] at hP hN
  clear h1 h2 h3 h4 hs
  cases is with
  | false =>
    have HK := Lib.hid (show measOk l s = false ∧ measV l s k = (0, 0) from ⟨by rw [HA.out]; rfl, by rw [HV.out, show measOk l s = false by rw [HA.out]; rfl]; rfl⟩)
    clear HA HV
    go_enter Tryz.func177, Tryz.ntmps177
    go_wp2_with (first | (go_at_call 106; refine (hP _).mono ?_; rintro e w' ⟨rfl, rfl⟩) | (go_at_call 148; refine (hN _).mono ?_; rintro e w1 ⟨rfl, hB1⟩; obtain ⟨hc, hf⟩ := bcell hB1; have hz : w.heap.size < w1.heap.size := by (have hs := hB1.size; rw [alloc_size] at hs; omega)))
    have p1 : Below w.heap.size w w1 := ((Below.refl _ _).alloc (Nat.le_refl _) _).trans (hB1.mono (by rw [alloc_size]; omega))
    refine bodyPost_ret (v := .tuple #[.agg #[.int .i64 0, .int .i64 0], .bool false]) (by simp [results, Tryz.results177, go_sem, hc, hz]) rfl ⟨by rw [HK.out.1, HK.out.2], ?_⟩
    exact (p1.setCell (by exact Nat.le_refl _) _).setCell (by exact Nat.le_refl _) _
  | true =>
    cases ok with
    | false =>
      have HK := Lib.hid (show measOk l s = false ∧ measV l s k = (0, 0) from ⟨by rw [HA.out]; rfl, by rw [HV.out, show measOk l s = false by rw [HA.out]; rfl]; rfl⟩)
      clear HA HV
      go_enter Tryz.func177, Tryz.ntmps177
      go_wp2_with (first | (go_at_call 106; refine (hP _).mono ?_; rintro e w' ⟨rfl, rfl⟩) | (go_at_call 148; refine (hN _).mono ?_; rintro e w1 ⟨rfl, hB1⟩; obtain ⟨hc, hf⟩ := bcell hB1; have hz : w.heap.size < w1.heap.size := by (have hs := hB1.size; rw [alloc_size] at hs; omega)))
      have p1 : Below w.heap.size w w1 := ((Below.refl _ _).alloc (Nat.le_refl _) _).trans (hB1.mono (by rw [alloc_size]; omega))
      refine bodyPost_ret (v := .tuple #[.agg #[.int .i64 0, .int .i64 0], .bool false]) (by simp [results, Tryz.results177, go_sem, hc, hz]) rfl ⟨by rw [HK.out.1, HK.out.2], ?_⟩
      exact (p1.setCell (by exact Nat.le_refl _) _).setCell (by exact Nat.le_refl _) _
    | true =>
      have HK := Lib.hid (show measOk l s = true ∧ measV l s k = (k, n) from ⟨by rw [HA.out]; rfl, by rw [HV.out, show measOk l s = true by rw [HA.out]; rfl]; rfl⟩)
      clear HA HV
      go_enter Tryz.func177, Tryz.ntmps177
      go_wp2_with (first | (go_at_call 106; refine (hP _).mono ?_; rintro e w' ⟨rfl, rfl⟩) | (go_at_call 148; refine (hN _).mono ?_; rintro e w1 ⟨rfl, hB1⟩; obtain ⟨hc, hf⟩ := bcell hB1; have hz : w.heap.size < w1.heap.size := by (have hs := hB1.size; rw [alloc_size] at hs; omega)))
      have p1 : Below w.heap.size w w1 := ((Below.refl _ _).alloc (Nat.le_refl _) _).trans (hB1.mono (by rw [alloc_size]; omega))
      refine bodyPost_ret (v := .tuple #[.agg #[.int .i64 k, .int .i64 n], .bool true]) (by simp [results, Tryz.results177, go_sem, hc, hz]) rfl ⟨by rw [HK.out.1, HK.out.2], ?_⟩
      exact (p1.setCell (by exact Nat.le_refl _) _).setCell (by exact Nat.le_refl _) _
end Go.Proofs.Val
set_option linter.unusedVariables false
set_option linter.unusedSimpArgs false
namespace Go.Proofs.Val
open Go.RowKit Go.Proofs Go.Proofs.YtolfpgccebdlpaaGreatDoorW.PrintWords
structure Tbs (w : World) : Prop where
  p10 : Lib.TabIs Tryz.prog w "internal/strconv.uint64pow10" .u64 Lib.pow10Tab
  tz : w.cell? ⟨7, 15, none⟩ = some (.int .u8 4)
theorem gn10 : Tryz.prog.globalNamed "internal/strconv.uint64pow10" = some 3 := by kernel_rfl
theorem Tbs.below {w w' : World} (h : Tbs w) (hb : Below w.heap.size w w') : Tbs w' := by
  refine ⟨?_, (hb.cell (p := ⟨7, 15, none⟩) (World.block_lt_of_cell? _ _ h.tz)).trans h.tz⟩
  have h1 := h.p10
  unfold Lib.TabIs World.var? at h1 ⊢
  rw [gn10] at h1 ⊢
  simp only [Option.bind_some] at h1 ⊢
  have hlt : 3 < w.heap.size := by
    rcases Nat.lt_or_ge 3 w.heap.size with h' | h'
    · exact h'
    · rw [Array.getElem?_eq_none h'] at h1; cases h1
  rw [hb.block _ hlt]
  exact h1
theorem Tbs.draws {w : World} (h : Tbs w) (n : Nat) : Tbs (w.drewN n) := ⟨h.p10, h.tz⟩
theorem grow_below (w : World) (q : Nat) (os : Array Obj) : Below w.heap.size w (Go.Sort.grow (w.drewN q) os) :=
  ⟨rfl, rfl, rfl, by first | (simp [Go.Sort.grow]; done) | (simp [Go.Sort.grow]; omega), fun i hi => by
    show ((w.drewN q).heap ++ os)[i]? = _
    rw [Array.getElem?_append_left (by show i < w.heap.size; omega)]
    rfl⟩
theorem fmt10 (u : Nat) (hu : u ≤ 1000000000) (w : World) (hT : Tbs w) :
    Calls Tryz.prog 121 #[.int .i64 (u : Int), .int .i64 10] w fun e w' => e = .returned (.string ⟨(Lib.decDigits u).toArray⟩) ∧ Below w.heap.size w w' := by
  refine (Tryz.strconv_FormatInt_10 (u : Int) (by omega) (by omega) w hT.p10).mono ?_
  rintro e w' ⟨rfl, k, os, rfl⟩
  exact ⟨by rw [Lib.itoa_nonneg], grow_below _ _ _⟩
theorem trB (l : List UInt8) : Lib.trimRightB l 48 = Lib.trimRightS l [48] := by
  unfold Lib.trimRightB Lib.trimRightS
  congr 2
  funext c
  by_cases h : c = 48 <;> simp [h]
set_option maxHeartbeats 2000000 in
theorem decimalC (n : Int) (h1 : -63999999999 ≤ n) (h2 : n ≤ 63999999999) (w : World) (hT : Tbs w) :
    Calls Tryz.prog 122 #[.int .i64 n] w fun e w' => e = .returned (.string ⟨(decL n).toArray⟩) ∧ Below w.heap.size w w' := by
  have HL := Lib.hid (show decL n = Lib.trimSuffix ((if n < 0 then [45] else []) ++ Lib.decDigits (n.natAbs / 64) ++ ([46] ++ fracL (n.natAbs % 64))) [46] from rfl)
  obtain ⟨m, hm⟩ : ∃ m, n.natAbs = m := ⟨_, rfl⟩
  rw [hm] at HL
  obtain ⟨q, hq⟩ : ∃ q, m / 64 = q := ⟨_, rfl⟩
  obtain ⟨r, hr⟩ : ∃ r, m % 64 = r := ⟨_, rfl⟩
  rw [hq, hr] at HL
  have hr64 : r < 64 := by omega
  obtain ⟨six, s1, s2, s3, s4⟩ := dd_seven (r := r * 15625) (by omega)
  have hA := fun w hT => fmt10 q (by omega) w hT
  have hB := fun w hT => fmt10 (1000000 + r * 15625) (by omega) w hT
  have lq := dd_len (u := q) (k := 9) (by omega) (by simp; omega)
  rw [s1] at hB
  have ex : (⟨(49 :: six).toArray⟩ : ByteArray).extract 1 (⟨(49 :: six).toArray⟩ : ByteArray).size = ⟨six.toArray⟩ := by
    rw [Lib.extract_mk]
    congr 2
    rw [ba_size]
    simp
  have fr : (⟨(Lib.trimRightB (⟨six.toArray⟩ : ByteArray).data.toList 48).toArray⟩ : ByteArray) = ⟨(fracL r).toArray⟩ := by
    rw [show (⟨six.toArray⟩ : ByteArray).data.toList = six from rfl, trB]
    unfold fracL
    rw [s1]; rfl
  have lf := (frac_ok hr64).2.1
  have sz7 : (⟨(49 :: six).toArray⟩ : ByteArray).size = 7 := by rw [ba_size]; simp [s2]
  have hC := fun w => Tryz.strings_TrimRight_one ⟨six.toArray⟩ 48 (by decide) w (by rw [ba_size]; omega)
  rw [fr] at hC
  rw [← ex] at hC
  obtain ⟨sb, hsb⟩ : ∃ sb : ByteArray, ⟨(49 :: six).toArray⟩ = sb := ⟨_, rfl⟩
  rw [hsb] at hB hC sz7
  clear fr ex hsb s1 s2 s3 s4
  have z1 : 1 ≤ sb.size ∧ sb.size ≤ 7 := by omega
  clear sz7
  have e1 : ((1000000 + r * 15625 : Nat) : Int) = 1000000 + (m : Int) % 64 * 15625 := by omega
  have e2 : ((q : Nat) : Int) = (m : Int) / 64 := by omega
  rw [e1] at hB
  rw [e2] at hA
  have hm64 : (m : Int) ≤ 63999999999 := by omega
  have m0 : 0 ≤ (m : Int) := by omega
  obtain ⟨M, hM⟩ : ∃ M : Int, (m : Int) = M := ⟨_, rfl⟩
  rw [hM] at hA hB hm64 m0
  obtain ⟨fb, hfb⟩ : ∃ fb : List UInt8, fracL r = fb := ⟨_, rfl⟩
  obtain ⟨wb, hwb⟩ : ∃ wb : List UInt8, Lib.decDigits q = wb := ⟨_, rfl⟩
  rw [hfb] at hC lf HL
  rw [hwb] at hA lq HL
  have zf := ba_size fb
  have zw := ba_size wb
  by_cases hn : n < 0
  · rw [if_pos hn] at HL
    have hS := fun w => Tryz.strings_TrimSuffix (((⟨#[45]⟩ : ByteArray) ++ ⟨wb.toArray⟩) ++ ⟨#[46]⟩ ++ ⟨fb.toArray⟩) ⟨#[46]⟩ w (by
      rw [show (⟨#[45]⟩ : ByteArray) = ⟨([45] : List UInt8).toArray⟩ from rfl, show (⟨#[46]⟩ : ByteArray) = ⟨([46] : List UInt8).toArray⟩ from rfl, ba_app, ba_app, ba_app, ba_size]; simp; omega)
    have hk1 : (⟨#[45]⟩ : ByteArray).size + (⟨wb.toArray⟩ : ByteArray).size ≤ 9223372036854775807 := by rw [ba_size]; show 1 + _ ≤ _; omega
    have hk2 : ((⟨#[45]⟩ : ByteArray) ++ ⟨wb.toArray⟩).size + (⟨#[46]⟩ : ByteArray).size ≤ 9223372036854775807 := by rw [show (⟨#[45]⟩ : ByteArray) = ⟨([45] : List UInt8).toArray⟩ from rfl, ba_app, ba_size]; show (_ + 1) ≤ _; simp; omega
    have hk3 : (((⟨#[45]⟩ : ByteArray) ++ ⟨wb.toArray⟩) ++ (⟨#[46]⟩ : ByteArray)).size + (⟨fb.toArray⟩ : ByteArray).size ≤ 9223372036854775807 := by rw [show (⟨#[45]⟩ : ByteArray) = ⟨([45] : List UInt8).toArray⟩ from rfl, show (⟨#[46]⟩ : ByteArray) = ⟨([46] : List UInt8).toArray⟩ from rfl, ba_app, ba_app, ba_size, ba_size]; simp; omega
    have fin : (⟨(Lib.trimSuffix (((⟨#[45]⟩ : ByteArray) ++ ⟨wb.toArray⟩) ++ ⟨#[46]⟩ ++ ⟨fb.toArray⟩ : ByteArray).data.toList (⟨#[46]⟩ : ByteArray).data.toList).toArray⟩ : ByteArray) = ⟨(decL n).toArray⟩ := by
      rw [show (⟨#[45]⟩ : ByteArray) = ⟨([45] : List UInt8).toArray⟩ from rfl, show (⟨#[46]⟩ : ByteArray) = ⟨([46] : List UInt8).toArray⟩ from rfl, ba_app, ba_app, ba_app, HL.out]
      simp
    rw [fin] at hS
    obtain ⟨D, hD⟩ : ∃ D : ByteArray, ⟨(decL n).toArray⟩ = D := ⟨_, rfl⟩
    rw [hD] at hS ⊢
    obtain ⟨Fb, hFb⟩ : ∃ D : ByteArray, ⟨fb.toArray⟩ = D := ⟨_, rfl⟩
    obtain ⟨Wb, hWb⟩ : ∃ D : ByteArray, ⟨wb.toArray⟩ = D := ⟨_, rfl⟩
    rw [hFb] at hC hS hk3
    rw [hWb] at hA hS hk1 hk2 hk3
    obtain rfl : n = -M := by omega
    clear fin hD hFb hWb HL zf zw hfb hwb hM e1 e2 hq hr hm hr64 lf lq
    go_enter Tryz.func122, Tryz.ntmps122
    go_wp2_with (first | (go_at_call 121; first | (with_reducible refine (hA _ hT).mono ?_; rintro e w1 ⟨rfl, hB1⟩) | (with_reducible refine (hB _ (hT.below hB1)).mono ?_; rintro e w2 ⟨rfl, hB2⟩)) | (go_at_call 151; with_reducible refine (hC _).mono ?_; rintro e w3 ⟨rfl, rfl⟩) | (go_at_call 150; with_reducible refine (hS _).mono ?_; rintro e w4 ⟨rfl, rfl⟩))
    go_ret
    exact ⟨rfl, below_then hB1 hB1.size hB2⟩
  · rw [if_neg hn] at HL
    have hS := fun w => Tryz.strings_TrimSuffix (((⟨#[]⟩ : ByteArray) ++ ⟨wb.toArray⟩) ++ ⟨#[46]⟩ ++ ⟨fb.toArray⟩) ⟨#[46]⟩ w (by
      rw [show (⟨#[]⟩ : ByteArray) = ⟨([] : List UInt8).toArray⟩ from rfl, show (⟨#[46]⟩ : ByteArray) = ⟨([46] : List UInt8).toArray⟩ from rfl, ba_app, ba_app, ba_app, ba_size]; simp; omega)
    have hk1 : (⟨#[]⟩ : ByteArray).size + (⟨wb.toArray⟩ : ByteArray).size ≤ 9223372036854775807 := by rw [ba_size]; show 0 + _ ≤ _; omega
    have hk2 : ((⟨#[]⟩ : ByteArray) ++ ⟨wb.toArray⟩).size + (⟨#[46]⟩ : ByteArray).size ≤ 9223372036854775807 := by rw [show (⟨#[]⟩ : ByteArray) = ⟨([] : List UInt8).toArray⟩ from rfl, ba_app, ba_size]; show (_ + 1) ≤ _; simp; omega
    have hk3 : (((⟨#[]⟩ : ByteArray) ++ ⟨wb.toArray⟩) ++ (⟨#[46]⟩ : ByteArray)).size + (⟨fb.toArray⟩ : ByteArray).size ≤ 9223372036854775807 := by rw [show (⟨#[]⟩ : ByteArray) = ⟨([] : List UInt8).toArray⟩ from rfl, show (⟨#[46]⟩ : ByteArray) = ⟨([46] : List UInt8).toArray⟩ from rfl, ba_app, ba_app, ba_size, ba_size]; simp; omega
    have fin : (⟨(Lib.trimSuffix (((⟨#[]⟩ : ByteArray) ++ ⟨wb.toArray⟩) ++ ⟨#[46]⟩ ++ ⟨fb.toArray⟩ : ByteArray).data.toList (⟨#[46]⟩ : ByteArray).data.toList).toArray⟩ : ByteArray) = ⟨(decL n).toArray⟩ := by
      rw [show (⟨#[]⟩ : ByteArray) = ⟨([] : List UInt8).toArray⟩ from rfl, show (⟨#[46]⟩ : ByteArray) = ⟨([46] : List UInt8).toArray⟩ from rfl, ba_app, ba_app, ba_app, HL.out]
      simp
    rw [fin] at hS
    obtain ⟨D, hD⟩ : ∃ D : ByteArray, ⟨(decL n).toArray⟩ = D := ⟨_, rfl⟩
    rw [hD] at hS ⊢
    obtain ⟨Fb, hFb⟩ : ∃ D : ByteArray, ⟨fb.toArray⟩ = D := ⟨_, rfl⟩
    obtain ⟨Wb, hWb⟩ : ∃ D : ByteArray, ⟨wb.toArray⟩ = D := ⟨_, rfl⟩
    rw [hFb] at hC hS hk3
    rw [hWb] at hA hS hk1 hk2 hk3
    obtain rfl : n = M := by omega
    clear fin hD hFb hWb HL zf zw hfb hwb hM e1 e2 hq hr hm hr64 lf lq
    go_enter Tryz.func122, Tryz.ntmps122
    go_wp2_with (first | (go_at_call 121; first | (with_reducible refine (hA _ hT).mono ?_; rintro e w1 ⟨rfl, hB1⟩) | (with_reducible refine (hB _ (hT.below hB1)).mono ?_; rintro e w2 ⟨rfl, hB2⟩)) | (go_at_call 151; with_reducible refine (hC _).mono ?_; rintro e w3 ⟨rfl, rfl⟩) | (go_at_call 150; with_reducible refine (hS _).mono ?_; rintro e w4 ⟨rfl, rfl⟩))
    go_ret
    exact ⟨rfl, below_then hB1 hB1.size hB2⟩
end Go.Proofs.Val
set_option linter.unusedVariables false
set_option linter.unusedSimpArgs false
namespace Go.Proofs.Val
open Go.RowKit Go.Proofs Go.Proofs.YtolfpgccebdlpaaGreatDoorW.PrintWords
def isHex (c : UInt8) : Bool := isDig c || (decide (97 ≤ c.toNat) && decide (c.toNat ≤ 102))
def hx (c : UInt8) : Nat := if c.toNat ≤ 57 then c.toNat - 48 else c.toNat - 87
def hexV (a : Nat) (l : List UInt8) : Nat := l.foldl (fun a c => a * 16 + hx c) a
theorem isHex_iff {c : UInt8} : isHex c = true ↔ (48 ≤ c.toNat ∧ c.toNat ≤ 57) ∨ (97 ≤ c.toNat ∧ c.toNat ≤ 102) := by simp [isHex, isDig]
theorem hx_lt {c : UInt8} (h : isHex c = true) : hx c < 16 := by
  rw [isHex_iff] at h
  unfold hx; split <;> omega
theorem hexV_snoc (a : Nat) (l : List UInt8) (c : UInt8) : hexV a (l ++ [c]) = hexV a l * 16 + hx c := by unfold hexV; rw [List.foldl_append]; rfl
theorem hexV_take_lt {l : List UInt8} (h : l.all isHex = true) : ∀ k, k ≤ l.length → hexV 0 (l.take k) < 16 ^ k
  | 0, _ => by simp [hexV]
  | k + 1, hk => by
    have ih := hexV_take_lt h k (by omega)
    rw [List.take_succ_eq_append_getElem (by omega), hexV_snoc, Nat.pow_succ]
    have := hx_lt (List.all_eq_true.1 h _ (List.getElem_mem (show k < l.length by omega)))
    omega
theorem hexV_take_succ {l : List UInt8} {k : Nat} (hk : k < l.length) : hexV 0 (l.take (k + 1)) = hexV 0 (l.take k) * 16 + hx (l.getD k 0) := by
  rw [List.take_succ_eq_append_getElem hk, hexV_snoc]
  simp [List.getD, List.getElem?_eq_getElem hk]
theorem hex_le6 {k : Nat} (h : k ≤ 6) : 16 ^ k ≤ 16777216 := by
  obtain rfl | rfl | rfl | rfl | rfl | rfl | rfl : k = 0 ∨ k = 1 ∨ k = 2 ∨ k = 3 ∨ k = 4 ∨ k = 5 ∨ k = 6 := by omega
  all_goals decide
set_option maxHeartbeats 4000000 in
set_option maxRecDepth 1000000 in
theorem parseU16 (l : List UInt8) (h1 : l ≠ []) (h6 : l.length ≤ 6) (hx' : l.all isHex = true) (w : World) :
    Calls Tryz.prog 207 #[.string ⟨l.toArray⟩, .int .i64 16, .int .i64 64] w fun e w' => e = .returned (.tuple #[.int .u64 (hexV 0 l : Int), .nilIface]) ∧ Below w.heap.size w w' := by
  have hconv := Lib.run_convert_string_bytes (P := Tryz.prog) w 9 97 5 ⟨l.toArray⟩ Tryz.underlying9 Tryz.underlying97 Tryz.underlying5
  have hcells := Lib.bytesWorld_cell w 5 ⟨l.toArray⟩
  have hbel := Lib.bytesWorld_below w 5 ⟨l.toArray⟩
  have e1 := ba_nil l
  rw [decide_eq_false h1] at e1
  have hsz := ba_size l
  obtain ⟨W1, hW1⟩ : ∃ W1, Lib.bytesWorld w 5 ⟨l.toArray⟩ = W1 := ⟨_, rfl⟩
  obtain ⟨cap, hcap⟩ : ∃ cap, grownCap w (⟨l.toArray⟩ : ByteArray).size 0 5 = cap := ⟨_, rfl⟩
  rw [hW1] at hconv hcells hbel
  rw [hcap] at hconv
  rw [hsz] at hconv hcells
  rw [show (⟨l.toArray⟩ : ByteArray).data.toList = l from rfl] at hcells
  have HC := Lib.hid hcells
  have HB := Lib.hid hbel
  clear hW1 hcap hcells hbel hsz
  obtain ⟨s, hS⟩ : ∃ s : ByteArray, ⟨l.toArray⟩ = s := ⟨_, rfl⟩
  rw [hS] at e1 hconv ⊢
  clear hS
  go_enter Tryz.func207, Tryz.ntmps207
  go_wp2
  have hm : IntKind.u64.wrap (IntKind.u64.wrap 18446744073709551616 - 1) = 18446744073709551615 := by decide
  rw [hm]
  clear hm hconv
  go_loopw [12, 13, 101] (fun u m i wr => ∃ k : Nat, k ≤ l.length ∧ i = .int .i64 k ∧ m = .int .u64 (hexV 0 (l.take k) : Int) ∧ u = .bool false ∧ wr = W1) (fun _ _ i _ => l.length - (RowKit.intOf i).toNat)
  case atStart => exact ⟨0, by omega, rfl, rfl, rfl, rfl⟩
  case round =>
    obtain ⟨k, hk, rfl, rfl, rfl, rfl⟩ := hrel
    have hnl := hexV_take_lt hx' k hk
    have hp := hex_le6 (Nat.le_trans hk h6)
    by_cases hlt : k < l.length
    · have hc := HC.out k hlt
      have hhex : isHex (l.getD k 0) = true := by
        have e : l.getD k 0 = l[k] := by simp [List.getD, List.getElem?_eq_getElem hlt]
        rw [e]
        exact List.all_eq_true.1 hx' _ (List.getElem_mem hlt)
      have hsuc := hexV_take_succ hlt
      obtain ⟨n, hn⟩ : ∃ n, hexV 0 (l.take k) = n := ⟨_, rfl⟩
      obtain ⟨c, hcc⟩ : ∃ c, l.getD k 0 = c := ⟨_, rfl⟩
      rw [hn] at hnl hsuc ⊢
      rw [hcc] at hc hhex hsuc
      have hn16 : n < 16777216 := by omega
      rw [isHex_iff] at hhex
      obtain ⟨z, hz⟩ : ∃ z : Int, (n : Int) = z := ⟨_, rfl⟩
      have bz : 0 ≤ z ∧ z < 16777216 := by omega
      have gz : decide ((1152921504606846976 : Int) ≤ z) = false := decide_eq_false (by omega)
      rw [hz]
      have HS := Lib.hid (show (hexV 0 (l.take (k + 1)) : Int) = z * 16 + (hx c : Int) by rw [hsuc, ← hz]; omega)
      clear hn hcc hp hnl hsuc hz hn16
      by_cases hd : c.toNat ≤ 57
      · have HV := Lib.hid (show hx c = c.toNat - 48 by unfold hx; rw [if_pos hd])
        have hlo : 48 ≤ c.toNat := by omega
        obtain ⟨x, hxx⟩ : ∃ x : Int, (c.toNat : Int) = x := ⟨_, rfl⟩
        have HX := Lib.hid hxx
        rw [hxx] at hc
        have b1 : 48 ≤ x ∧ x ≤ 57 := by omega
        have g0 : (x == 95) = false := beq_eq_false_iff_ne.2 (by omega)
        have g1 : decide ((48 : Int) ≤ x) = true := decide_eq_true (by omega)
        have g2 : decide (x ≤ (57 : Int)) = true := decide_eq_true (by omega)
        clear hhex hd hlo hxx
        go_wp2
        refine ⟨⟨k + 1, by omega, by go_num, ?_, rfl, trivial⟩, by simp [RowKit.intOf]; omega⟩
        rw [HS.out, HV.out]
        congr 1
        have := HX.out
        omega
      · have HV := Lib.hid (show hx c = c.toNat - 87 by unfold hx; rw [if_neg hd])
        obtain ⟨x, hxx⟩ : ∃ x : Int, (c.toNat : Int) = x := ⟨_, rfl⟩
        have HX := Lib.hid hxx
        rw [hxx] at hc
        have b1 : 97 ≤ x ∧ x ≤ 102 := by omega
        have hlow : bits .or .u8 x 32 = x := by
          obtain rfl | rfl | rfl | rfl | rfl | rfl : x = 97 ∨ x = 98 ∨ x = 99 ∨ x = 100 ∨ x = 101 ∨ x = 102 := by omega
          all_goals decide
        have g0 : (x == 95) = false := beq_eq_false_iff_ne.2 (by omega)
        have g1 : decide ((48 : Int) ≤ x) = true := decide_eq_true (by omega)
        have g2 : decide (x ≤ (57 : Int)) = false := decide_eq_false (by omega)
        have g3 : decide ((97 : Int) ≤ x) = true := decide_eq_true (by omega)
        have g4 : decide (x ≤ (122 : Int)) = true := decide_eq_true (by omega)
        clear hhex hd hxx
        go_wp2_with (go_at_call 214; refine (Tryz.internal_strconv_lower _ _).mono ?_; rintro e w' ⟨rfl, rfl⟩; rw [hlow])
        refine ⟨⟨k + 1, by omega, by go_num, ?_, rfl, trivial⟩, by simp [RowKit.intOf]; omega⟩
        rw [HS.out, HV.out]
        congr 1
        have := HX.out
        omega
    · obtain rfl : k = l.length := by omega
      rw [List.take_length] at hnl ⊢
      obtain ⟨z, hz⟩ : ∃ z : Int, (hexV 0 l : Int) = z := ⟨_, rfl⟩
      rw [hz]
      have HZ := Lib.hid hz
      clear hnl hp hx' HC hz
      go_wp2
      go_ret2
      exact ⟨(show _ = Ending.returned (Value.tuple #[.int .u64 z, .nilIface]) from rfl).trans (by rw [HZ.out]), HB.out⟩
set_option maxHeartbeats 4000000 in
set_option maxRecDepth 100000 in
theorem parseI16 (l : List UInt8) (h1 : l ≠ []) (h6 : l.length ≤ 6) (hx' : l.all isHex = true) (w : World) :
    Calls Tryz.prog 197 #[.string ⟨l.toArray⟩, .int .i64 16, .int .i64 64] w fun e w' => e = .returned (.tuple #[.int .i64 (hexV 0 l : Int), .nilIface]) ∧ Below w.heap.size w w' := by
  have hU := fun w => parseU16 l h1 h6 hx' w
  have hb := hexV_take_lt hx' l.length (Nat.le_refl _)
  have hp := hex_le6 h6
  rw [List.take_length] at hb
  obtain ⟨z, hz⟩ : ∃ z : Int, (hexV 0 l : Int) = z := ⟨_, rfl⟩
  have bz : 0 ≤ z ∧ z < 16777216 := by omega
  simp only [hz] at hU ⊢
  obtain ⟨c, r, rfl⟩ := List.exists_cons_of_ne_nil h1
  have hc : isHex c = true := by
    rw [List.all_cons, Bool.and_eq_true] at hx'
    exact hx'.1
  rw [isHex_iff] at hc
  have e1 := ba_nil (c :: r)
  rw [decide_eq_false h1] at e1
  have e2 := ba_size (c :: r)
  clear hb hp hz hx' h1 h6
  go_enter Tryz.func197, Tryz.ntmps197
  go_upto_region 5 with (fail)
  have eb : ∀ h, ((⟨(c :: r).toArray⟩ : ByteArray)[0]'h) = c := fun h => rfl
  simp only [eb]
  obtain ⟨x, hxx⟩ : ∃ x : Int, (c.toNat : Int) = x := ⟨_, rfl⟩
  rw [hxx]
  have g0 : (x == 43) = false := beq_eq_false_iff_ne.2 (by omega)
  have g1 : (x == 45) = false := beq_eq_false_iff_ne.2 (by omega)
  have g2 : decide ((9223372036854775808 : Int) ≤ z) = false := decide_eq_false (by omega)
  clear eb hxx hc e1 e2
  generalize (⟨(c :: r).toArray⟩ : ByteArray) = s at hU ⊢
  go_wp2_with (go_at_call 207; refine (hU _).mono ?_; rintro e w' ⟨rfl, hB⟩)
  go_ret2
  exact ⟨rfl, hB⟩
set_option maxHeartbeats 1000000 in
theorem parse16 (l : List UInt8) (h1 : l ≠ []) (h6 : l.length ≤ 6) (hx' : l.all isHex = true) (w : World) :
    Calls Tryz.prog 184 #[.string ⟨l.toArray⟩, .int .i64 16, .int .i64 64] w fun e w' => e = .returned (.tuple #[.int .i64 (hexV 0 l : Int), .nilIface]) ∧ Below w.heap.size w w' := by
  have hU := fun w => parseI16 l h1 h6 hx' w
  generalize (⟨l.toArray⟩ : ByteArray) = s at hU ⊢
  generalize (hexV 0 l : Int) = z at hU ⊢
  go_enter Tryz.func184, Tryz.ntmps184
  go_wp2_with (go_at_call 197; refine (hU _).mono ?_; rintro e w' ⟨rfl, hB⟩)
  go_ret2
  exact ⟨rfl, hB⟩
end Go.Proofs.Val
