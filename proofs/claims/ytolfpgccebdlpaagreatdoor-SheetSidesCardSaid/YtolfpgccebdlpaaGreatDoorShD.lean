/- sheet.decls and what it calls: contracts proved by walking their texts; no condition beside those that each theorem states. -/
import Derived.Test.YtolfpgccebdlpaaGreatDoorShM
import Derived.Handy
import Derived.Test.YtolfpgccebdlpaaGreatDoorVaI
import Derived.Test.YtolfpgccebdlpaaGreatDoorPrn
set_option linter.unusedVariables false
set_option linter.unusedSimpArgs false
namespace Go.Proofs.Sht
open Go.RowKit Go.Lib Go.Proofs.YtolfpgccebdlpaaGreatDoorW.PrintWords Go.Proofs.YtolfpgccebdlpaaGreatDoorW.PrintLast Go.Proofs.YtolfpgccebdlpaaGreatDoorW.PrintMore Go.Proofs.Tok Go.Proofs.Scn
theorem same_of {s : ByteArray} {l : List UInt8} (h : s.toList = l) : s = ⟨l.toArray⟩ := ba_ext (by rw [← Lib.toList_data, h])
set_option maxHeartbeats 2000000 in
set_option maxRecDepth 400000 in
theorem propsC (s : ByteArray) (w : World) :
  Calls Tryz.prog 105 #[.string s] w fun e w' => e = .returned (.tuple #[.int .i64 (propsV s).1, .int .i64 (propsV s).2]) ∧ Below w.heap.size w w' := by
 have hp := fun W => Val.propC s W
 have HP : Aside0 (propsV s = if s.toList = [109, 97, 114, 103, 105, 110] then (4, 4) else if s.toList = [112, 97, 100, 100, 105, 110, 103] then (8, 4) else if s.toList = [98, 111, 114, 100, 101, 114, 45, 119, 105, 100, 116, 104] then (12, 4) else (Val.propV s, 1)) := ⟨rfl⟩
 generalize Val.propV s = q at hp HP
 by_cases h1 : s.toList = [109, 97, 114, 103, 105, 110]
 ·obtain rfl := same_of h1
  rw [HP.out, if_pos h1]
  go_enter Tryz.func105, Tryz.ntmps105
  go_wp2
  go_returns
  exact ⟨rfl, Below.refl _ _⟩
 rw [if_neg h1] at HP
 have e1 : (s.toList == [109, 97, 114, 103, 105, 110]) = false := beq_eq_false_iff_ne.2 h1
 by_cases h2 : s.toList = [112, 97, 100, 100, 105, 110, 103]
 ·obtain rfl := same_of h2
  rw [HP.out, if_pos h2]
  go_enter Tryz.func105, Tryz.ntmps105
  go_wp2
  go_returns
  exact ⟨rfl, Below.refl _ _⟩
 rw [if_neg h2] at HP
 have e2 : (s.toList == [112, 97, 100, 100, 105, 110, 103]) = false := beq_eq_false_iff_ne.2 h2
 by_cases h3 : s.toList = [98, 111, 114, 100, 101, 114, 45, 119, 105, 100, 116, 104]
 ·obtain rfl := same_of h3
  rw [HP.out, if_pos h3]
  go_enter Tryz.func105, Tryz.ntmps105
  go_wp2
  go_returns
  exact ⟨rfl, Below.refl _ _⟩
 rw [if_neg h3] at HP
 have e3 : (s.toList == [98, 111, 114, 100, 101, 114, 45, 119, 105, 100, 116, 104]) = false := beq_eq_false_iff_ne.2 h3
 rw [HP.out]
 clear HP h1 h2 h3
 go_enter Tryz.func105, Tryz.ntmps105
 go_wp2_with (first | (go_at_call 143; refine (hp _).mono ?_; rintro e w' ⟨rfl, hB⟩))
 go_returns
 exact ⟨rfl, hB⟩
def shV (n : Nat) : Int × Int × Int × Int := if n = 2 then (0, 1, 0, 1) else if n = 3 then (0, 1, 2, 1) else if n = 4 then (0, 1, 2, 3) else (0, 0, 0, 0)
set_option maxHeartbeats 2000000 in
set_option maxRecDepth 400000 in
theorem sharedC (n : Nat) (w : World) :
  Calls Tryz.prog 107 #[.int .i64 n] w fun e w' => e = .returned (.agg #[.int .i64 (shV n).1, .int .i64 (shV n).2.1, .int .i64 (shV n).2.2.1, .int .i64 (shV n).2.2.2]) ∧ Below w.heap.size w w' := by
 have hu := Tryz.underlying73
 unfold shV
 by_cases h2 : n = 2
 ·subst h2
  go_enter Tryz.func107, Tryz.ntmps107
  go_wp2
  go_returns
  exact ⟨rfl, by repeat (first | exact Below.refl _ _ | apply below_alloc)⟩
 have e2 : ((n : Int) == 2) = false := beq_eq_false_iff_ne.2 (by omega)
 rw [if_neg h2]
 by_cases h3 : n = 3
 ·subst h3
  go_enter Tryz.func107, Tryz.ntmps107
  go_wp2
  go_returns
  exact ⟨rfl, by repeat (first | exact Below.refl _ _ | apply below_alloc)⟩
 have e3 : ((n : Int) == 3) = false := beq_eq_false_iff_ne.2 (by omega)
 rw [if_neg h3]
 by_cases h4 : n = 4
 ·subst h4
  go_enter Tryz.func107, Tryz.ntmps107
  go_wp2
  go_returns
  exact ⟨rfl, by repeat (first | exact Below.refl _ _ | apply below_alloc)⟩
 have e4 : ((n : Int) == 4) = false := beq_eq_false_iff_ne.2 (by omega)
 rw [if_neg h4]
 go_enter Tryz.func107, Tryz.ntmps107
 go_wp2
 go_returns
 exact ⟨rfl, by repeat (first | exact Below.refl _ _ | apply below_alloc)⟩
theorem cut_sz (s : List UInt8) : (Lib.cut s [58]).1.length ≤ s.length ∧ (Lib.cut s [58]).2.1.length ≤ s.length := by
 rcases cut_spec 58 s with ⟨h, _⟩ | ⟨p, t, h, _, h2⟩
 ·rw [h]; simp
 ·rw [h2, h]; simp; omega
theorem lt_sz (s : ByteArray) : (lowV (trimV s)).size ≤ s.size := by
 rw [Lib.size_eq, Lib.size_eq, lowV_data, List.length_map, trimV_data]
 exact trim_len _
theorem suf_sz (l m : List UInt8) : (Lib.trimSuffix l m).length ≤ l.length := by
 unfold Lib.trimSuffix
 split
 ·rw [List.length_take]; omega
 ·exact Nat.le_refl _
theorem many_of (n : ByteArray) : (propsV n).2 = 4 ∨ (propsV n).2 = 1 := by
 unfold propsV
 repeat (first | (split; left; rfl) | right; rfl)
theorem sh_lt (n : Nat) (h0 : 0 < n) (h4 : n ≤ 4) : shV n = ((((sharedV n).getD 0 0 : Nat) : Int), (((sharedV n).getD 1 0 : Nat) : Int), (((sharedV n).getD 2 0 : Nat) : Int), (((sharedV n).getD 3 0 : Nat) : Int)) ∧ ∀ i, (sharedV n).getD i 0 < n := by
 have hn : n = 1 ∨ n = 2 ∨ n = 3 ∨ n = 4 := by omega
 rcases hn with rfl | rfl | rfl | rfl
 all_goals
  refine ⟨rfl, fun i => ?_⟩
  rcases i with _ | _ | _ | _ | i <;> simp [sharedV]
theorem below_seq {w w1 w2 : World} (h1 : Below w.heap.size w w1) (h2 : Below w1.heap.size w1 w2) : Below w.heap.size w w2 := below_then h1 h1.size h2
theorem strs_at {e base : Nat} {ok : Nat → Prop} {w w1 : World} {v : Value} {ts : List ByteArray} (h : Kd.R Kd.string e w base ok v ts) (hm : ∀ k, v.ownBlock = some k → w1.heap[k]? = w.heap[k]?) : ∃ A c, v = .slice A ts.length c ∧ ts.length ≤ c ∧ Kd.C Kd.string w1 A ts.length ts := by
 obtain ⟨h0, inner, ho, hr⟩ := h
 have h2 : Kd.R Kd.string e w base (fun k => v.ownBlock = some k) v ts := ⟨fun k hk => hk, inner, ho, hr⟩
 exact Kd.R_reads (Kd.R_move h2 hm)
theorem strs_type {e base : Nat} {ok : Nat → Prop} {w : World} {v : Value} {ts : List ByteArray} (h : Kd.R Kd.string e w base ok v ts) (k : Nat) (hk : v.ownBlock = some k) : k < w.heap.size ∧ ∃ cells, w.heap[k]? = some (.cells cells e (0, 0)) := by
 obtain ⟨h0, inner, ho, hr⟩ := h
 exact ⟨own_lt ho k hk, own_typed ho k hk⟩
theorem props_bd (n : ByteArray) : 0 ≤ (propsV n).1 ∧ (propsV n).1 < 30 := by
 have := Val.propI_bd n
 unfold propsV
 repeat (first | (split; exact ⟨by decide, by decide⟩) | (unfold Val.propV; dsimp only; omega))
theorem wg_sz : ∀ (l cur : List UInt8), ∀ x ∈ wg cur l, x.length ≤ cur.length + l.length
 | [], cur, x, h => by
  rw [wg] at h
  split at h
  ·cases h
  ·rw [List.mem_singleton] at h
   subst h
   simp
 | c :: t, cur, x, h => by
  rw [wg] at h
  have h1 := wg_sz t [] x
  have h2 := wg_sz t (cur ++ [c]) x
  rw [List.length_append] at h2
  simp only [List.length_cons, List.length_nil] at h1 h2 ⊢
  split at h
  ·split at h
   ·have := h1 h; omega
   ·rcases List.mem_cons.1 h with rfl | h
    ·omega
    ·have := h1 h; omega
  ·have := h2 h; omega
theorem words_sz {s : ByteArray} : ∀ x ∈ wordsV s, x.size ≤ s.size := by
 intro x hx
 rw [wordsV_eq, List.mem_map] at hx
 obtain ⟨y, hy, rfl⟩ := hx
 have := wg_sz _ _ y hy
 rw [Lib.size_eq, ba_data, Lib.size_eq]
 simpa using this
theorem texts_sz {M : Int} {f : List UInt8} : ∀ x ∈ textsV M ⟨f.toArray⟩, x.size ≤ f.length := by
 intro x hx
 unfold textsV at hx
 split at hx
 ·have := words_sz x hx
  rw [Lib.size_eq ⟨f.toArray⟩] at this
  simpa using this
 ·rw [List.mem_singleton] at hx
  subst hx
  rw [Lib.size_eq]
  simp
theorem infoD : (Tryz.prog.info? 111).map (fun i => (i.zero, i.size, i.bytes)) = some (some (.agg #[(.int .i64 0), (.int .i64 0), (.int .i64 0), (.bool false)]), 4, 32) := by kernel_rfl
theorem valsV_no {p : Int} {ts : List ByteArray} {im : Bool} {wh : List Nat} {d i : Nat} {acc : List Dc} (h : (Val.readV (p + i) (ts.getD (wh.getD i 0) ByteArray.empty)).2 = false) : valsV p ts im wh (d + 1) i acc = [] := by
 rw [valsV]
 rw [h]
 rfl
theorem valsV_yes {p : Int} {ts : List ByteArray} {im : Bool} {wh : List Nat} {d i : Nat} {acc : List Dc} (h : (Val.readV (p + i) (ts.getD (wh.getD i 0) ByteArray.empty)).2 = true) : valsV p ts im wh (d + 1) i acc = valsV p ts im wh d (i + 1) (acc ++ [(p + i, (Val.readV (p + i) (ts.getD (wh.getD i 0) ByteArray.empty)).1.1, (Val.readV (p + i) (ts.getD (wh.getD i 0) ByteArray.empty)).1.2, im)]) := by
 rw [valsV]
 rw [h]
 rfl
set_option maxHeartbeats 4000000 in
set_option maxRecDepth 400000 in
theorem declC (s : ByteArray) (w : World) (hs : s.size < 4294967281) :
  Calls Tryz.prog 68 #[.string s] w fun e w' => ∃ v, e = .returned v ∧ Kd.R kDc 111 w' w.heap.size (fun _ => True) v (declV s) ∧ Below w.heap.size w w' := by
 have hu1 := Tryz.underlying111
 have hu2 := Tryz.underlying109
 have hu3 := Tryz.underlying73
 have HV : Aside0 (declV s = declV s) := ⟨rfl⟩
 have HV2 : Aside0 (declV s = if (Lib.cut s.data.toList [58]).2.2 = true ∧ (propsV (lowV (trimV (ba (Lib.cut s.data.toList [58]).1)))).1 ≠ 0 then (if 0 < (textsV (propsV (lowV (trimV (ba (Lib.cut s.data.toList [58]).1)))).2 (ba (Lib.trimSuffix (lowV (trimV (ba (Lib.cut s.data.toList [58]).2.1))).data.toList strongW))).length ∧ (textsV (propsV (lowV (trimV (ba (Lib.cut s.data.toList [58]).1)))).2 (ba (Lib.trimSuffix (lowV (trimV (ba (Lib.cut s.data.toList [58]).2.1))).data.toList strongW))).length ≤ 4 then valsV (propsV (lowV (trimV (ba (Lib.cut s.data.toList [58]).1)))).1 (textsV (propsV (lowV (trimV (ba (Lib.cut s.data.toList [58]).1)))).2 (ba (Lib.trimSuffix (lowV (trimV (ba (Lib.cut s.data.toList [58]).2.1))).data.toList strongW))) (Lib.hasSuffix (lowV (trimV (ba (Lib.cut s.data.toList [58]).2.1))).data.toList strongW) (sharedV (textsV (propsV (lowV (trimV (ba (Lib.cut s.data.toList [58]).1)))).2 (ba (Lib.trimSuffix (lowV (trimV (ba (Lib.cut s.data.toList [58]).2.1))).data.toList strongW))).length) (propsV (lowV (trimV (ba (Lib.cut s.data.toList [58]).1)))).2.toNat 0 [] else []) else []) := ⟨rfl⟩
 clear HV
 have hz := cut_sz s.data.toList
 have hcut := fun W => Go.Proofs.ShX.xCut_one Tryz.lays145 s 58 W hs
 have es := Lib.size_eq s
 obtain ⟨c1, hc1⟩ : ∃ c, (Lib.cut s.data.toList [58]).1 = c := ⟨_, rfl⟩
 obtain ⟨c2, hc2⟩ : ∃ c, (Lib.cut s.data.toList [58]).2.1 = c := ⟨_, rfl⟩
 obtain ⟨is, his⟩ : ∃ c, (Lib.cut s.data.toList [58]).2.2 = c := ⟨_, rfl⟩
 rw [hc1, hc2, his] at HV2 hcut
 rw [hc1, hc2] at hz
 obtain ⟨rv, hrv⟩ : ∃ rv, declV s = rv := ⟨_, rfl⟩
 rw [hrv] at HV2 ⊢
 clear hc1 hc2 his hrv
 have l1 : (⟨c1.toArray⟩ : ByteArray).size < 4294967281 := by rw [Lib.size_eq]; simp; omega
 have l2 : (⟨c2.toArray⟩ : ByteArray).size < 4294967281 := by rw [Lib.size_eq]; simp; omega
 have ht1 := fun W => Scn.trim_any (⟨c1.toArray⟩ : ByteArray) W l1
 have ht2 := fun W => Scn.trim_any (⟨c2.toArray⟩ : ByteArray) W l2
 have z1 := lt_sz (⟨c1.toArray⟩ : ByteArray)
 have z2 := lt_sz (⟨c2.toArray⟩ : ByteArray)
 rw [show ba c1 = ⟨c1.toArray⟩ from rfl, show ba c2 = ⟨c2.toArray⟩ from rfl] at HV2
 have y1 : (trimV ⟨c1.toArray⟩).size < 4294967281 := by rw [Lib.size_eq, trimV_data]; have := trim_len c1; simp; omega
 have y2 : (trimV ⟨c2.toArray⟩).size < 4294967281 := by rw [Lib.size_eq, trimV_data]; have := trim_len c2; simp; omega
 have hl1 := fun W => Scn.lower_any (trimV ⟨c1.toArray⟩) W y1
 have hl2 := fun W => Scn.lower_any (trimV ⟨c2.toArray⟩) W y2
 clear y1 y2 hz es
 have z3 : (lowV (trimV ⟨c2.toArray⟩)).size < 4294967281 := by omega
 clear z1 z2 l1 l2
 generalize lowV (trimV ⟨c1.toArray⟩) = m1 at HV2 hl1
 generalize trimV ⟨c1.toArray⟩ = u1 at ht1 hl1
 generalize lowV (trimV ⟨c2.toArray⟩) = m2 at HV2 hl2 z3
 generalize trimV ⟨c2.toArray⟩ = u2 at ht2 hl2
 have hp := fun W => propsC m1 W
 have hM := many_of m1
 have hPb := props_bd m1
 obtain ⟨P, hP⟩ : ∃ P, (propsV m1).1 = P := ⟨_, rfl⟩
 obtain ⟨M, hMM⟩ : ∃ M, (propsV m1).2 = M := ⟨_, rfl⟩
 rw [hP, hMM] at HV2 hp
 rw [hMM] at hM
 rw [hP] at hPb
 clear hP hMM
 have hsu := fun W => Tryz.strings_CutSuffix m2 ⟨#[33, 105, 109, 112, 111, 114, 116, 97, 110, 116]⟩ W (by omega)
 rw [show (⟨#[33, 105, 109, 112, 111, 114, 116, 97, 110, 116]⟩ : ByteArray).data.toList = strongW from rfl] at hsu
 have z4 := suf_sz m2.data.toList strongW
 rw [← Lib.size_eq] at z4
 generalize Lib.trimSuffix m2.data.toList strongW = f at HV2 hsu z4
 generalize Lib.hasSuffix m2.data.toList strongW = im at HV2 hsu
 have hts := fun (M : Int) => texts_sz (M := M) (f := f)
 have z6 : f.length < 4294967281 := by rw [Lib.size_eq] at z4; simp at z4; omega
 have z5 : (⟨f.toArray⟩ : ByteArray).size < 4294967281 := by rw [Lib.size_eq]; simp; omega
 clear z4
 have hwd := fun W => words_any (⟨f.toArray⟩ : ByteArray) W z5
 rw [show ba f = ⟨f.toArray⟩ from rfl] at HV2
 have CUT := Aside0.mk hcut
 have TR1 := Aside0.mk ht1
 have TR2 := Aside0.mk ht2
 have LO1 := Aside0.mk hl1
 have LO2 := Aside0.mk hl2
 have PR := Aside0.mk hp
 have SU := Aside0.mk hsu
 have WD := Aside0.mk hwd
 have Z5 := Aside0.mk z5
 have HTS := Aside0.mk hts
 have Z6 := Aside0.mk z6
 clear hcut ht1 ht2 hl1 hl2 hp hsu hwd z5 z3 hs hts z6
 cases is with
 | false =>
  as_aux_lemma =>
  rw [HV2.out, if_neg (fun h => by cases h.1)]
  go_enter Tryz.func68, Tryz.ntmps68
  go_wp2_with (first | (go_at_call 102; refine (CUT.out _).mono ?_; rintro e w1 ⟨rfl, nd, rfl⟩) | (go_at_call 91; with_reducible refine (TR1.out _).mono ?_; rintro e w2 ⟨rfl, hB⟩; have B2 := Aside0.mk (below_seq (pw_below_drewN (Below.refl w.heap.size w) nd) hB); clear hB) | (go_at_call 41; with_reducible refine (LO1.out _).mono ?_; rintro e w3 ⟨rfl, hB⟩; have B3 := Aside0.mk (below_seq B2.out hB); clear hB B2) | (go_at_call 105; refine (PR.out _).mono ?_; rintro e w4 ⟨rfl, hB⟩; have B4 := Aside0.mk (below_seq B3.out hB); clear hB B3))
  go_ret
  exact ⟨_, rfl, Kd.R_nil _ _ _ _ _, B4.out⟩
 | true =>
  by_cases hP0 : P = 0
  ·subst hP0
   as_aux_lemma =>
   rw [HV2.out, if_neg (fun h => h.2 rfl)]
   go_enter Tryz.func68, Tryz.ntmps68
   go_wp2_with (first | (go_at_call 102; refine (CUT.out _).mono ?_; rintro e w1 ⟨rfl, nd, rfl⟩) | (go_at_call 91; with_reducible refine (TR1.out _).mono ?_; rintro e w2 ⟨rfl, hB⟩; have B2 := Aside0.mk (below_seq (pw_below_drewN (Below.refl w.heap.size w) nd) hB); clear hB) | (go_at_call 41; with_reducible refine (LO1.out _).mono ?_; rintro e w3 ⟨rfl, hB⟩; have B3 := Aside0.mk (below_seq B2.out hB); clear hB B2) | (go_at_call 105; refine (PR.out _).mono ?_; rintro e w4 ⟨rfl, hB⟩; have B4 := Aside0.mk (below_seq B3.out hB); clear hB B3))
   go_ret
   exact ⟨_, rfl, Kd.R_nil _ _ _ _ _, B4.out⟩
  have e0 : (P == 0) = false := beq_eq_false_iff_ne.2 hP0
  rw [if_pos ⟨rfl, hP0⟩] at HV2
  have HP0 := Aside0.mk hP0
  clear hP0
  rcases hM with rfl | hM1
  ·have HT4 : Aside0 (textsV 4 ⟨f.toArray⟩ = wordsV ⟨f.toArray⟩) := ⟨rfl⟩
   rw [HT4.out] at HV2
   have TZ := Aside0.mk (fun x hx => HTS.out 4 x (by rw [HT4.out]; exact hx) : ∀ x ∈ wordsV ⟨f.toArray⟩, x.size ≤ f.length)
   generalize wordsV ⟨f.toArray⟩ = ts at HV2 WD TZ
   clear HT4 HTS
   by_cases hl : 0 < ts.length ∧ ts.length ≤ 4
   ·rw [if_pos hl] at HV2
    obtain ⟨hl0, hl4⟩ := hl
    have e1 : ((ts.length : Int) == 0) = false := beq_eq_false_iff_ne.2 (by omega)
    have e2 : decide ((4 : Int) < (ts.length : Int)) = false := decide_eq_false (by omega)
    have SHC := Aside0.mk (fun W => sharedC ts.length W)
    as_aux_lemma =>
    go_enter Tryz.func68, Tryz.ntmps68
    go_wp2_with (first | (go_at_call 102; refine (CUT.out _).mono ?_; rintro e w1 ⟨rfl, nd, rfl⟩) | (go_at_call 91; with_reducible refine (TR1.out _).mono ?_; rintro e w2 ⟨rfl, hB⟩; have B2 := Aside0.mk (below_seq (pw_below_drewN (Below.refl w.heap.size w) nd) hB); clear hB) | (go_at_call 41; with_reducible refine (LO1.out _).mono ?_; rintro e w3 ⟨rfl, hB⟩; have B3 := Aside0.mk (below_seq B2.out hB); clear hB B2) | (go_at_call 105; refine (PR.out _).mono ?_; rintro e w4 ⟨rfl, hB⟩; have B4 := Aside0.mk (below_seq B3.out hB); clear hB B3) | (go_at_call 91; with_reducible refine (TR2.out _).mono ?_; rintro e w5 ⟨rfl, hB⟩; have B5 := Aside0.mk (below_seq B4.out hB); clear hB B4) | (go_at_call 41; with_reducible refine (LO2.out _).mono ?_; rintro e w6 ⟨rfl, hB⟩; have B6 := Aside0.mk (below_seq B5.out hB); clear hB B5) | (go_at_call 106; with_reducible refine (SU.out _).mono ?_; rintro e w7 ⟨rfl, rfl⟩) | (go_at_call 39; refine (WD.out _).mono ?_; rintro e w8 ⟨vT, rfl, hR, hB⟩; have RT := Aside0.mk hR; obtain ⟨AT, cT, rfl, hcT, hCT⟩ := Kd.R_reads hR; have B8 := Aside0.mk (below_then (below_alloc B6.out _) (below_alloc B6.out _).size hB); have CT := Aside0.mk hCT; clear hR hCT hB) | (go_at_call 107; refine (SHC.out _).mono ?_; rintro e w9 ⟨rfl, hB⟩; have B9 := Aside0.mk (below_seq B8.out hB); have K9 := Aside0.mk hB; clear hB))
    obtain ⟨g, hg⟩ : ∃ g, w9.heap.size = g := ⟨_, rfl⟩
    have SH := Aside0.mk (sh_lt ts.length hl0 hl4)
    have HG0 := Aside0.mk (heap_alloc_new w9 (Obj.cells #[.int .i64 (shV ts.length).1, .int .i64 (shV ts.length).2.1, .int .i64 (shV ts.length).2.2.1, .int .i64 (shV ts.length).2.2.2] 73))
    have BL := Aside0.mk (below_alloc B9.out (Obj.cells #[.int .i64 (shV ts.length).1, .int .i64 (shV ts.length).2.1, .int .i64 (shV ts.length).2.2.1, .int .i64 (shV ts.length).2.2.2] 73))
    have RTY := Aside0.mk (fun b hb => strs_type RT.out b hb)
    have TK0 := Aside0.mk (fun (b : Nat) (hb : (Value.slice AT ts.length cT).ownBlock = some b) => (heap_alloc_old w9 (Obj.cells #[.int .i64 (shV ts.length).1, .int .i64 (shV ts.length).2.1, .int .i64 (shV ts.length).2.2.1, .int .i64 (shV ts.length).2.2.2] 73) (by have := (RTY.out b hb).1; have := K9.out.size; omega)).trans (K9.out.block b (RTY.out b hb).1))
    have RD := Aside0.mk (fun (p : Int) (x : ByteArray) (W : World) (hx : x.size < 4294967281) => Val.readC p x W hx)
    rw [hg] at HG0
    obtain ⟨WL, hWL⟩ : ∃ W, w9.alloc (Obj.cells #[.int .i64 (shV ts.length).1, .int .i64 (shV ts.length).2.1, .int .i64 (shV ts.length).2.2.1, .int .i64 (shV ts.length).2.2.2] 73) = W := ⟨_, rfl⟩
    rw [hWL] at HG0 BL TK0 ⊢
    rw [hg]
    clear hWL hg
    go_loopw [10, 12, 13, 14, 59, 60, 61, 62, 63, 64, 65, 66, 67, 68, 69, 70, 71, 72, 73, 74, 75, 76, 77, 78, 79, 80, 81, 82, 83, 84, 85, 86] (fun v10 _ _ _ i _ _ _ _ _ _ _ _ _ _ _ _ _ _ _ _ _ _ _ _ _ _ _ _ _ _ _ wr => ∃ (k : Nat) (acc : List Dc), k ≤ 4 ∧ i = .int .i64 k ∧ Aside0 (acc.length ≤ k) ∧ Aside0 (Kd.R kDc 111 wr w.heap.size (fun _ => True) v10 acc) ∧ Aside0 (valsV P ts im (sharedV ts.length) (4 - k) k acc = rv) ∧ Aside0 (Below w.heap.size w wr) ∧ Aside0 (wr.heap[g]? = some (.cells #[.int .i64 (shV ts.length).1, .int .i64 (shV ts.length).2.1, .int .i64 (shV ts.length).2.2.1, .int .i64 (shV ts.length).2.2.2] 73)) ∧ Aside0 (∀ b, (Value.slice AT ts.length cT).ownBlock = some b → wr.heap[b]? = w8.heap[b]?)) (fun _ _ _ _ i _ _ _ _ _ _ _ _ _ _ _ _ _ _ _ _ _ _ _ _ _ _ _ _ _ _ _ _ => 4 - (RowKit.intOf i).toNat)
    case atStart => exact ⟨0, [], Nat.zero_le _, rfl, ⟨Nat.le_refl _⟩, ⟨Kd.R_nil _ _ _ _ _⟩, ⟨HV2.out.symm⟩, BL, HG0, TK0⟩
    case round =>
     clear HG0 BL TK0
     obtain ⟨k, acc, hk, rfl, LA, RO, HVV, BR, HG, TK⟩ := hrel
     by_cases hlt : k < 4
     ·have g1 : decide ((k : Int) < 4) = true := decide_eq_true (by omega)
      have p0 : (k : Int) < 4 := by omega
      obtain ⟨q, hq⟩ : ∃ q, (sharedV ts.length).getD k 0 = q := ⟨_, rfl⟩
      have hql : q < ts.length := by rw [← hq]; exact SH.out.2 k
      have hqc : wr.cell? ⟨g, k, none⟩ = some (.int .i64 (q : Int)) := by
       refine (cell_of_block HG.out k).trans ?_
       rw [← hq, SH.out.1]
       have hk4 : k = 0 ∨ k = 1 ∨ k = 2 ∨ k = 3 := by omega
       rcases hk4 with rfl | rfl | rfl | rfl <;> rfl
      have p1 : (q : Int) < (ts.length : Int) := by omega
      have CTr : Kd.C Kd.string wr AT ts.length ts := by
       obtain ⟨A, c, he, _, hC⟩ := strs_at RT.out TK.out
       injection he with h1 h2 h3
       rw [h1]; exact hC
      obtain ⟨ad, ea, hxc⟩ := str_cell CTr q hql hql
      have hx : ts.getD q ByteArray.empty = ts[q] := by rw [List.getD, List.getElem?_eq_getElem hql]; rfl
      have hxs : ts[q].size < 4294967281 := by have := TZ.out _ (List.getElem_mem hql); have := Z6.out; omega
      subst ea
      clear CTr
      generalize ts[q] = x at hxc hx hxs
      have hw : IntKind.i64.wrap (P + (k : Int)) = P + (k : Int) := by rw [i64_w]; unfold wrap64; omega
      have hw2 : wrap64 (P + (k : Int)) = P + (k : Int) := by unfold wrap64; omega
      have VN := Aside0.mk (fun (h : (Val.readV (P + (k : Int)) x).2 = false) => (valsV_no (p := P) (ts := ts) (im := im) (wh := sharedV ts.length) (d := 4 - (k + 1)) (i := k) (acc := acc) (by rw [hq, hx]; exact h)))
      have VY := Aside0.mk (fun (h : (Val.readV (P + (k : Int)) x).2 = true) => (valsV_yes (p := P) (ts := ts) (im := im) (wh := sharedV ts.length) (d := 4 - (k + 1)) (i := k) (acc := acc) (by rw [hq, hx]; exact h)))
      rw [hq, hx] at VY
      have hd : 4 - k = 4 - (k + 1) + 1 := by omega
      rw [hd] at HVV
      have RX := Aside0.mk (fun W => RD.out (P + (k : Int)) x W hxs)
      clear RD hd hq hx hxs
      obtain ⟨r, hr⟩ : ∃ r, Val.readV (P + (k : Int)) x = r := ⟨_, rfl⟩
      rw [hr] at VN VY RX
      obtain ⟨⟨ra, rb⟩, rc⟩ := r
      clear hr
      dsimp only at RX
      cases rc with
      | false =>
       have HN : Aside0 (rv = []) := ⟨HVV.out.symm.trans (VN.out rfl)⟩
       clear VN VY HVV
       as_aux_lemma =>
       go_wp2_with (first | (go_at_call 108; with_reducible refine (RX.out _).mono ?_; rintro e w10 ⟨rfl, hB⟩; have BX := Aside0.mk (below_then BR.out BR.out.size hB); clear hB))
       go_ret
       exact ⟨_, rfl, by rw [HN.out]; exact Kd.R_nil _ _ _ _ _, below_alloc BX.out _⟩
      | true =>
       have HY := Aside0.mk ((VY.out rfl).symm.trans HVV.out)
       clear VN VY HVV
       as_aux_lemma =>
       go_wp2_with (first | (go_at_call 108; with_reducible refine (RX.out _).mono ?_; rintro e w10 ⟨rfl, hB⟩; have BX := Aside0.mk (below_alloc (below_then BR.out BR.out.size hB) (Obj.cells #[.int .i64 ra, .int .i64 rb] 109)); have RO2 := Aside0.mk (Kd.R_alloc (Kd.R_below RO.out hB) (Obj.cells #[.int .i64 ra, .int .i64 rb] 109)); have MV := Aside0.mk (fun (k : Nat) (o : Obj) (h : wr.heap[k]? = some o) => (heap_alloc_old w10 (Obj.cells #[.int .i64 ra, .int .i64 rb] 109) (by have := heap_lt h; have := hB.size; omega)).trans ((hB.block k (heap_lt h)).trans h)); clear hB RO) | ((with_reducible refine gate_builtin (b := .append) (xs := #[.tmp 77, .tmp 84]) rfl ?_); at_builtin; refine Kd.R_append kDc (w0 := w) w.heap.size rfl (.tmp 77) (.tmp 84) 63 111 (.agg #[(.int .i64 0), (.int .i64 0), (.int .i64 0), (.bool false)]) 32 rfl Tryz.underlying63 infoD rfl (by decide) (by omega) _ acc (P + (k : Int), ra, rb, im) [.int .i64 (P + (k : Int)), .int .i64 ra, .int .i64 rb, .bool im] (fun _ => True) (fun _ => False) rfl (by first | (go_simp; done) | (go_simp; rfl)) ⟨_, _, rfl, rfl, ⟨_, _, rfl, rfl, ⟨_, _, rfl, rfl, rfl⟩⟩⟩ (fun _ hk => hk.elim) (fun _ _ => trivial) RO2.out BX.out BX.out.size (by have := LA.out; omega) ?_; intro v11 w11 ho hb hg hat; have RN := Aside0.mk ho; have BN := Aside0.mk hb; have HG2 := Aside0.mk ((hg.block g (heap_lt (MV.out _ _ HG.out)) (Kd.R_ne RO2.out (MV.out _ _ HG.out) (by decide))).trans (MV.out _ _ HG.out)); have TK2 := Aside0.mk (fun b hb => by obtain ⟨hlt_, cells, hc_⟩ := RTY.out b hb; have h1_ := (TK.out b hb).trans hc_; exact ((hg.block b (heap_lt (MV.out _ _ h1_)) (Kd.R_ne RO2.out (MV.out _ _ h1_) (by decide))).trans (MV.out _ _ h1_)).trans hc_.symm); clear ho hb hg hat))
       exact ⟨⟨k + 1, acc ++ [(P + (k : Int), ra, rb, im)], by omega, by go_num, ⟨by rw [List.length_append]; have := LA.out; simp; omega⟩, RN, HY, BN, HG2, TK2⟩, by simp [RowKit.intOf]; omega⟩
     ·obtain rfl : k = 4 := by omega
      have hv := HVV.out
      rw [Nat.sub_self] at hv
      have HE : Aside0 (acc = rv) := ⟨hv⟩
      clear hv HVV
      go_wp2
      go_ret
      exact ⟨_, rfl, by rw [← HE.out]; exact RO.out, BR.out⟩
   ·rw [if_neg hl] at HV2
    by_cases h0 : ts.length = 0
    ·have e1 : ((ts.length : Int) == 0) = true := beq_iff_eq.2 (by omega)
     as_aux_lemma =>
     rw [HV2.out]
     go_enter Tryz.func68, Tryz.ntmps68
     go_wp2_with (first | (go_at_call 102; refine (CUT.out _).mono ?_; rintro e w1 ⟨rfl, nd, rfl⟩) | (go_at_call 91; with_reducible refine (TR1.out _).mono ?_; rintro e w2 ⟨rfl, hB⟩; have B2 := Aside0.mk (below_seq (pw_below_drewN (Below.refl w.heap.size w) nd) hB); clear hB) | (go_at_call 41; with_reducible refine (LO1.out _).mono ?_; rintro e w3 ⟨rfl, hB⟩; have B3 := Aside0.mk (below_seq B2.out hB); clear hB B2) | (go_at_call 105; refine (PR.out _).mono ?_; rintro e w4 ⟨rfl, hB⟩; have B4 := Aside0.mk (below_seq B3.out hB); clear hB B3) | (go_at_call 91; with_reducible refine (TR2.out _).mono ?_; rintro e w5 ⟨rfl, hB⟩; have B5 := Aside0.mk (below_seq B4.out hB); clear hB B4) | (go_at_call 41; with_reducible refine (LO2.out _).mono ?_; rintro e w6 ⟨rfl, hB⟩; have B6 := Aside0.mk (below_seq B5.out hB); clear hB B5) | (go_at_call 106; with_reducible refine (SU.out _).mono ?_; rintro e w7 ⟨rfl, rfl⟩) | (go_at_call 39; refine (WD.out _).mono ?_; rintro e w8 ⟨vT, rfl, hR, hB⟩; obtain ⟨AT, cT, rfl, hcT, hCT⟩ := Kd.R_reads hR; have B8 := Aside0.mk (below_then (below_alloc B6.out _) (below_alloc B6.out _).size hB); clear hR hCT hB))
     go_ret
     exact ⟨_, rfl, Kd.R_nil _ _ _ _ _, B8.out⟩
    ·have e1 : ((ts.length : Int) == 0) = false := beq_eq_false_iff_ne.2 (by omega)
     have e2 : decide ((4 : Int) < (ts.length : Int)) = true := decide_eq_true (by omega)
     as_aux_lemma =>
     rw [HV2.out]
     go_enter Tryz.func68, Tryz.ntmps68
     go_wp2_with (first | (go_at_call 102; refine (CUT.out _).mono ?_; rintro e w1 ⟨rfl, nd, rfl⟩) | (go_at_call 91; with_reducible refine (TR1.out _).mono ?_; rintro e w2 ⟨rfl, hB⟩; have B2 := Aside0.mk (below_seq (pw_below_drewN (Below.refl w.heap.size w) nd) hB); clear hB) | (go_at_call 41; with_reducible refine (LO1.out _).mono ?_; rintro e w3 ⟨rfl, hB⟩; have B3 := Aside0.mk (below_seq B2.out hB); clear hB B2) | (go_at_call 105; refine (PR.out _).mono ?_; rintro e w4 ⟨rfl, hB⟩; have B4 := Aside0.mk (below_seq B3.out hB); clear hB B3) | (go_at_call 91; with_reducible refine (TR2.out _).mono ?_; rintro e w5 ⟨rfl, hB⟩; have B5 := Aside0.mk (below_seq B4.out hB); clear hB B4) | (go_at_call 41; with_reducible refine (LO2.out _).mono ?_; rintro e w6 ⟨rfl, hB⟩; have B6 := Aside0.mk (below_seq B5.out hB); clear hB B5) | (go_at_call 106; with_reducible refine (SU.out _).mono ?_; rintro e w7 ⟨rfl, rfl⟩) | (go_at_call 39; refine (WD.out _).mono ?_; rintro e w8 ⟨vT, rfl, hR, hB⟩; obtain ⟨AT, cT, rfl, hcT, hCT⟩ := Kd.R_reads hR; have B8 := Aside0.mk (below_then (below_alloc B6.out _) (below_alloc B6.out _).size hB); clear hR hCT hB))
     go_ret
     exact ⟨_, rfl, Kd.R_nil _ _ _ _ _, B8.out⟩
  ·obtain ⟨Mn, rfl⟩ : ∃ n : Nat, M = (n : Int) := ⟨1, by omega⟩
   have HMn : Aside0 (Mn = 1) := ⟨by omega⟩
   have HT1 : Aside0 (textsV (Mn : Int) ⟨f.toArray⟩ = [⟨f.toArray⟩]) := ⟨by rw [HMn.out]; rfl⟩
   rw [HT1.out, if_pos ⟨by simp, by simp⟩] at HV2
   have e4 : ((Mn : Int) == 4) = false := beq_eq_false_iff_ne.2 (by omega)
   clear HT1 HTS hM1
   have HV3 : Aside0 (rv = valsV P [⟨f.toArray⟩] im (sharedV 1) Mn 0 []) := ⟨HV2.out⟩
   clear HV2
   have HV2 := HV3
   clear HV3
   have hl0 : 0 < 1 := by decide
   have hl4 : 1 ≤ 4 := by decide
   have SHC := Aside0.mk (fun W => sharedC 1 W)
   as_aux_lemma =>
   go_enter Tryz.func68, Tryz.ntmps68
   go_wp2_with (first | (go_at_call 102; refine (CUT.out _).mono ?_; rintro e w1 ⟨rfl, nd, rfl⟩) | (go_at_call 91; with_reducible refine (TR1.out _).mono ?_; rintro e w2 ⟨rfl, hB⟩; have B2 := Aside0.mk (below_seq (pw_below_drewN (Below.refl w.heap.size w) nd) hB); clear hB) | (go_at_call 41; with_reducible refine (LO1.out _).mono ?_; rintro e w3 ⟨rfl, hB⟩; have B3 := Aside0.mk (below_seq B2.out hB); clear hB B2) | (go_at_call 105; refine (PR.out _).mono ?_; rintro e w4 ⟨rfl, hB⟩; have B4 := Aside0.mk (below_seq B3.out hB); clear hB B3) | (go_at_call 91; with_reducible refine (TR2.out _).mono ?_; rintro e w5 ⟨rfl, hB⟩; have B5 := Aside0.mk (below_seq B4.out hB); clear hB B4) | (go_at_call 41; with_reducible refine (LO2.out _).mono ?_; rintro e w6 ⟨rfl, hB⟩; have B6 := Aside0.mk (below_seq B5.out hB); clear hB B5) | (go_at_call 106; with_reducible refine (SU.out _).mono ?_; rintro e w7 ⟨rfl, rfl⟩) | (go_at_call 107; refine (SHC.out _).mono ?_; rintro e w9 ⟨rfl, hB⟩; have B9 := Aside0.mk (below_then (below_alloc B6.out _) (below_alloc B6.out _).size hB); have TB0 := Aside0.mk ((hB.block _ (heap_lt (heap_alloc_new w7 _))).trans (heap_alloc_new w7 _)); clear hB))
   obtain ⟨tb, htb⟩ : ∃ b, w7.heap.size = b := ⟨_, rfl⟩
   have TB9 : Aside0 (w9.heap[tb]? = some (.cells #[.string ⟨f.toArray⟩] 9)) := ⟨by rw [← htb]; exact TB0.out⟩
   rw [htb]
   clear htb TB0
   obtain ⟨g, hg⟩ : ∃ g, w9.heap.size = g := ⟨_, rfl⟩
   have SH := Aside0.mk (sh_lt 1 hl0 hl4)
   have HG0 := Aside0.mk (heap_alloc_new w9 (Obj.cells #[.int .i64 (shV 1).1, .int .i64 (shV 1).2.1, .int .i64 (shV 1).2.2.1, .int .i64 (shV 1).2.2.2] 73))
   have BL := Aside0.mk (below_alloc B9.out (Obj.cells #[.int .i64 (shV 1).1, .int .i64 (shV 1).2.1, .int .i64 (shV 1).2.2.1, .int .i64 (shV 1).2.2.2] 73))
   have TK0 := Aside0.mk ((heap_alloc_old w9 (Obj.cells #[.int .i64 (shV 1).1, .int .i64 (shV 1).2.1, .int .i64 (shV 1).2.2.1, .int .i64 (shV 1).2.2.2] 73) (heap_lt TB9.out)).trans TB9.out)
   have RD := Aside0.mk (fun (p : Int) (x : ByteArray) (W : World) (hx : x.size < 4294967281) => Val.readC p x W hx)
   rw [hg] at HG0
   obtain ⟨WL, hWL⟩ : ∃ W, w9.alloc (Obj.cells #[.int .i64 (shV 1).1, .int .i64 (shV 1).2.1, .int .i64 (shV 1).2.2.1, .int .i64 (shV 1).2.2.2] 73) = W := ⟨_, rfl⟩
   rw [hWL] at HG0 BL TK0 ⊢
   rw [hg]
   clear hWL hg
   go_loopw [10, 12, 13, 14, 59, 60, 61, 62, 63, 64, 65, 66, 67, 68, 69, 70, 71, 72, 73, 74, 75, 76, 77, 78, 79, 80, 81, 82, 83, 84, 85, 86] (fun v10 _ _ _ i _ _ _ _ _ _ _ _ _ _ _ _ _ _ _ _ _ _ _ _ _ _ _ _ _ _ _ wr => ∃ (k : Nat) (acc : List Dc), k ≤ Mn ∧ i = .int .i64 k ∧ Aside0 (acc.length ≤ k) ∧ Aside0 (Kd.R kDc 111 wr w.heap.size (fun _ => True) v10 acc) ∧ Aside0 (valsV P [(⟨f.toArray⟩ : ByteArray)] im (sharedV 1) (Mn - k) k acc = rv) ∧ Aside0 (Below w.heap.size w wr) ∧ Aside0 (wr.heap[g]? = some (.cells #[.int .i64 (shV 1).1, .int .i64 (shV 1).2.1, .int .i64 (shV 1).2.2.1, .int .i64 (shV 1).2.2.2] 73)) ∧ Aside0 (wr.heap[tb]? = some (.cells #[.string ⟨f.toArray⟩] 9))) (fun _ _ _ _ i _ _ _ _ _ _ _ _ _ _ _ _ _ _ _ _ _ _ _ _ _ _ _ _ _ _ _ _ => Mn - (RowKit.intOf i).toNat)
   case atStart => exact ⟨0, [], Nat.zero_le _, rfl, ⟨Nat.le_refl _⟩, ⟨Kd.R_nil _ _ _ _ _⟩, ⟨HV2.out.symm⟩, BL, HG0, TK0⟩
   case round =>
    clear HG0 BL TK0
    obtain ⟨k, acc, hk, rfl, LA, RO, HVV, BR, HG, TK⟩ := hrel
    by_cases hlt : k < Mn
    ·have g1 : decide ((k : Int) < (Mn : Int)) = true := decide_eq_true (by omega)
     have p0 : (k : Int) < 4 := by have := HMn.out; omega
     obtain ⟨q, hq⟩ : ∃ q, (sharedV 1).getD k 0 = q := ⟨_, rfl⟩
     have hql : q < 1 := by rw [← hq]; exact SH.out.2 k
     have hqc : wr.cell? ⟨g, k, none⟩ = some (.int .i64 (q : Int)) := by
      refine (cell_of_block HG.out k).trans ?_
      rw [← hq, SH.out.1]
      have hk4 : k = 0 ∨ k = 1 ∨ k = 2 ∨ k = 3 := by omega
      rcases hk4 with rfl | rfl | rfl | rfl <;> rfl
     have p1 : (q : Int) < (1 : Int) := by omega
     have hq0 : q = 0 := by omega
     have hxc : wr.cell? ⟨tb, q, none⟩ = some (.string ⟨f.toArray⟩) := by rw [hq0]; exact (cell_of_block TK.out 0).trans rfl
     have hxs : (⟨f.toArray⟩ : ByteArray).size < 4294967281 := Z5.out
     obtain ⟨x, hxx⟩ : ∃ x : ByteArray, ⟨f.toArray⟩ = x := ⟨_, rfl⟩
     rw [hxx] at hxc hxs
     have hx : [(⟨f.toArray⟩ : ByteArray)].getD q ByteArray.empty = x := by rw [hq0, ← hxx]; rfl
     subst hq0
     clear hxx
     have hw : IntKind.i64.wrap (P + (k : Int)) = P + (k : Int) := by rw [i64_w]; unfold wrap64; omega
     have hw2 : wrap64 (P + (k : Int)) = P + (k : Int) := by unfold wrap64; omega
     have VN := Aside0.mk (fun (h : (Val.readV (P + (k : Int)) x).2 = false) => (valsV_no (p := P) (ts := [(⟨f.toArray⟩ : ByteArray)]) (im := im) (wh := sharedV 1) (d := Mn - (k + 1)) (i := k) (acc := acc) (by rw [hq, hx]; exact h)))
     have VY := Aside0.mk (fun (h : (Val.readV (P + (k : Int)) x).2 = true) => (valsV_yes (p := P) (ts := [(⟨f.toArray⟩ : ByteArray)]) (im := im) (wh := sharedV 1) (d := Mn - (k + 1)) (i := k) (acc := acc) (by rw [hq, hx]; exact h)))
     rw [hq, hx] at VY
     have hd : Mn - k = Mn - (k + 1) + 1 := by omega
     rw [hd] at HVV
     have RX := Aside0.mk (fun W => RD.out (P + (k : Int)) x W hxs)
     clear RD hd hq hx hxs
     obtain ⟨r, hr⟩ : ∃ r, Val.readV (P + (k : Int)) x = r := ⟨_, rfl⟩
     rw [hr] at VN VY RX
     obtain ⟨⟨ra, rb⟩, rc⟩ := r
     clear hr
     dsimp only at RX
     cases rc with
     | false =>
      have HN : Aside0 (rv = []) := ⟨HVV.out.symm.trans (VN.out rfl)⟩
      clear VN VY HVV
      as_aux_lemma =>
      go_wp2_with (first | (go_at_call 108; with_reducible refine (RX.out _).mono ?_; rintro e w10 ⟨rfl, hB⟩; have BX := Aside0.mk (below_then BR.out BR.out.size hB); clear hB))
      go_ret
      exact ⟨_, rfl, by rw [HN.out]; exact Kd.R_nil _ _ _ _ _, below_alloc BX.out _⟩
     | true =>
      have HY := Aside0.mk ((VY.out rfl).symm.trans HVV.out)
      clear VN VY HVV
      as_aux_lemma =>
      go_wp2_with (first | (go_at_call 108; with_reducible refine (RX.out _).mono ?_; rintro e w10 ⟨rfl, hB⟩; have BX := Aside0.mk (below_alloc (below_then BR.out BR.out.size hB) (Obj.cells #[.int .i64 ra, .int .i64 rb] 109)); have RO2 := Aside0.mk (Kd.R_alloc (Kd.R_below RO.out hB) (Obj.cells #[.int .i64 ra, .int .i64 rb] 109)); have MV := Aside0.mk (fun (k : Nat) (o : Obj) (h : wr.heap[k]? = some o) => (heap_alloc_old w10 (Obj.cells #[.int .i64 ra, .int .i64 rb] 109) (by have := heap_lt h; have := hB.size; omega)).trans ((hB.block k (heap_lt h)).trans h)); clear hB RO) | ((with_reducible refine gate_builtin (b := .append) (xs := #[.tmp 77, .tmp 84]) rfl ?_); at_builtin; refine Kd.R_append kDc (w0 := w) w.heap.size rfl (.tmp 77) (.tmp 84) 63 111 (.agg #[(.int .i64 0), (.int .i64 0), (.int .i64 0), (.bool false)]) 32 rfl Tryz.underlying63 infoD rfl (by decide) (by omega) _ acc (P + (k : Int), ra, rb, im) [.int .i64 (P + (k : Int)), .int .i64 ra, .int .i64 rb, .bool im] (fun _ => True) (fun _ => False) rfl (by first | (go_simp; done) | (go_simp; rfl)) ⟨_, _, rfl, rfl, ⟨_, _, rfl, rfl, ⟨_, _, rfl, rfl, rfl⟩⟩⟩ (fun _ hk => hk.elim) (fun _ _ => trivial) RO2.out BX.out BX.out.size (by have := LA.out; omega) ?_; intro v11 w11 ho hb hg hat; have RN := Aside0.mk ho; have BN := Aside0.mk hb; have HG2 := Aside0.mk ((hg.block g (heap_lt (MV.out _ _ HG.out)) (Kd.R_ne RO2.out (MV.out _ _ HG.out) (by decide))).trans (MV.out _ _ HG.out)); have TK2 := Aside0.mk ((hg.block tb (heap_lt (MV.out _ _ TK.out)) (Kd.R_ne RO2.out (MV.out _ _ TK.out) (by decide))).trans (MV.out _ _ TK.out)); clear ho hb hg hat))
      exact ⟨⟨k + 1, acc ++ [(P + (k : Int), ra, rb, im)], by omega, by go_num, ⟨by rw [List.length_append]; have := LA.out; simp; omega⟩, RN, HY, BN, HG2, TK2⟩, by simp [RowKit.intOf]; omega⟩
    ·obtain rfl : k = Mn := by omega
     have hv := HVV.out
     rw [Nat.sub_self] at hv
     have HE : Aside0 (acc = rv) := ⟨hv⟩
     clear hv HVV
     go_wp2
     go_ret
     exact ⟨_, rfl, by rw [← HE.out]; exact RO.out, BR.out⟩
end Go.Proofs.Sht
