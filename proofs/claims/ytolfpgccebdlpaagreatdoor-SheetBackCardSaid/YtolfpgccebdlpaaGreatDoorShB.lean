/- SheetBack: the law's walk over what it calls; conditions: that awake and sheet.Read answer as the theorem's premises say. -/
import Derived.Test.YtolfpgccebdlpaaGreatDoorShI
import Derived.Test.YtolfpgccebdlpaaGreatDoorHT5
import Derived.Test.YtolfpgccebdlpaaGreatDoorVmB
import Derived.Test.YtolfpgccebdlpaaGreatDoorRows
import Derived.WideShapes
import Derived.HandedShaped
import Derived.MakeChecks
import Derived.LaidMore
import Derived.Lib.TrailingZeros
set_option linter.unusedVariables false
set_option linter.unusedSimpArgs false
namespace Go.Proofs.Shb
open Go.Proofs.YtolfpgccebdlpaaGreatDoor Go.RowKit Go.Lib Go.Proofs.YtolfpgccebdlpaaGreatDoorW.PrintWords Go.Proofs.YtolfpgccebdlpaaGreatDoorW.PrintLast Go.Proofs.YtolfpgccebdlpaaGreatDoorW.PrintMore Go.Proofs.Tok Go.Proofs.Sht Go.Proofs.YtolfpgccebdlpaaGreatDoor.Shn Go.Proofs.YtolfpgccebdlpaaGreatDoor.Pure Go.Proofs.Shi
/-- what sheet.Read answers, in plain data -/
def rd (s : ByteArray) : List Rl × Int := ((readF s).1.map Pure.toR, (readF s).2)
theorem rd_len (s : ByteArray) : (rd s).1.length ≤ 40 ∧ ((rd s).2 = 0 ∨ rd s = ([], 3)) := by
  obtain ⟨h1, h2⟩ := read_len s
  refine ⟨by unfold rd; rw [List.length_map]; exact h1, ?_⟩
  rcases h2 with h2 | h2
  · exact .inl h2
  · exact .inr (by unfold rd; rw [h2]; rfl)
theorem rd_back {l : List Rl} (h : mayL l = true) (hz : (printR l).size ≤ 4000) : rd (printR l) = (l, 0) := by
  unfold rd
  rw [read_back h hz]
  show ((l.map Pure.ofR).map Pure.toR, (0 : Int)) = _
  rw [map_to_of]
theorem take_all {l : List Rl} (h : (l.take 201).length ≤ 100) : l.take 201 = l := by
  rw [List.length_take] at h
  exact List.take_of_length_le (by omega)
abbrev okR (ys : List Rl) : Prop := ys.length ≤ 100 ∧ ∀ r ∈ ys, goodR r
set_option maxHeartbeats 20000000 in
set_option maxRecDepth 400000 in
theorem backC (xs : List Rl) (A : Option Addr) (c : Nat) (s : ByteArray) (w : World) (C : Kd.C kRl w A xs.length xs) (hc : xs.length ≤ c) (hl : xs.length ≤ 2932031007317) (hi : ∀ r ∈ xs, okIn r) (hE : Sht.Env w)
    (hA : ∀ W, Sht.Env W → Calls Tryz.prog 24 #[] W fun e w' => e = .returned (.bool true) ∧ Below W.heap.size W w')
    (hR : ∀ (t : ByteArray) W, t.size ≤ 4000 → Sht.Env W → Calls Tryz.prog 27 #[.string t] W fun e w' => ∃ a d, e = .returned (.tuple #[.slice a (rd t).1.length d, .int .i64 (rd t).2]) ∧ Kd.C kRl w' a (rd t).1.length (rd t).1 ∧ Below W.heap.size W w') :
    Calls Tryz.prog 5 #[.slice A xs.length c, .string s] w fun e w' => e = .returned (.bool true) ∧ Below w.heap.size w w' := by
  have HA := Aside0.mk hA
  have HR := Aside0.mk hR
  have HE := Aside0.mk hE
  have HC := Aside0.mk C
  obtain ⟨ys, hys⟩ : ∃ ys, xs.take 201 = ys := ⟨_, rfl⟩
  have HO := Aside0.mk (fun W (hW : Below w.heap.size w W) => by
    have q := ownC xs A c W (Kd.C_below C hW) hc (by omega) (fun r hr => ⟨(hi r hr).1, (hi r hr).2.1, fun s hs => ((hi r hr).2.2 s hs).1⟩)
    rw [hys] at q
    exact q)
  have HY := Aside0.mk (⟨by rw [← hys]; exact List.length_take_le _ _, fun h => by rw [← hys, take_all (by rw [hys]; exact h)]⟩ : ys.length ≤ 201 ∧ (ys.length ≤ 100 → ys = xs))
  have HM0 := Aside0.mk (fun r hr => okIn_smR (hi r (List.mem_of_mem_take (hys ▸ hr))) : ∀ r ∈ ys, smR r)
  clear hys
  have HP := Aside0.mk (fun (ys : List Rl) (B : Option Addr) (d : Nat) (W : World) (hg : okR ys) (h : Sht.Env W) (h2 : Kd.C kRl W B ys.length ys) => PrintC ys B d W h2 (by have := hg.1; omega) (fun r hr => (hg.2 r hr).1) (fun _ r hr => (hg.2 r hr).2.1) h.2)
  have HM := Aside0.mk (fun (ys : List Rl) (B : Option Addr) (d : Nat) (W : World) (hg : okR ys) (h2 : Kd.C kRl W B ys.length ys) => MayC ys B d W h2 (by have := hg.1; omega) (fun r hr => (hg.2 r hr).1))
  have HS := Aside0.mk (fun (ys zs : List Rl) (B D : Option Addr) (b d : Nat) (W : World) (hg : okR ys) (hh : okR zs) (h1 : Kd.C kRl W B ys.length ys) (h2 : Kd.C kRl W D zs.length zs) => SameC ys zs B D b d W h1 h2 (by have := hg.1; omega) (by have := hh.1; omega) (fun r hr => (hg.2 r hr).2.2) (fun r hr => (hh.2 r hr).2.2))
  have HB := Aside0.mk (Below.refl w.heap.size w)
  clear C hE hA hR hi
  by_cases h1 : 1000 < s.size
  · have e1 : decide (1000 < s.size) = true := decide_eq_true h1
    have e2 : decide (1000 < (s.size : Int)) = true := decide_eq_true (by omega)
    clear h1
    as_aux_lemma =>
    go_enter Tryz.func5, Tryz.ntmps5
    go_wp2_with (first | (go_at_call 24; (with_reducible refine (HA.out _ (HE.out.below (by repeat (first | exact HB.out | apply pw_below_drewN | apply below_drew1 | apply below_alloc)))).mono ?_); rintro e w7 ⟨rfl, hb⟩; have nHB := Aside0.mk (below_step (by repeat (first | exact HB.out | apply pw_below_drewN | apply below_drew1 | apply below_alloc)) hb); clear HB; have HB := nHB; clear nHB; clear hb))
    go_ret
    exact ⟨rfl, (by repeat (first | exact HB.out | apply pw_below_drewN | apply below_drew1 | apply below_alloc))⟩
  have e1 : decide (1000 < s.size) = false := decide_eq_false h1
  have e2 : decide (1000 < (s.size : Int)) = false := decide_eq_false (by omega)
  go_enter Tryz.func5, Tryz.ntmps5
  go_upto_if 22 with (first | (go_at_call 24; (with_reducible refine (HA.out _ (HE.out.below (by repeat (first | exact HB.out | apply pw_below_drewN | apply below_drew1 | apply below_alloc)))).mono ?_); rintro e w7 ⟨rfl, hb⟩; have nHB := Aside0.mk (below_step (by repeat (first | exact HB.out | apply pw_below_drewN | apply below_drew1 | apply below_alloc)) hb); clear HB; have HB := nHB; clear nHB; clear hb) | (go_at_call 26; (with_reducible refine (HO.out _ (by repeat (first | exact HB.out | apply pw_below_drewN | apply below_drew1 | apply below_alloc))).mono ?_); rintro e w7 ⟨v1, rfl, hv, hb⟩; have nHB := Aside0.mk (below_step (by repeat (first | exact HB.out | apply pw_below_drewN | apply below_drew1 | apply below_alloc)) hb); clear HB; have HB := nHB; clear nHB; clear hb; obtain ⟨a1, d1, rfl, hd1, hf1⟩ := hv; have HF := Aside0.mk (Kd.F_now hf1); clear hf1; have HD := Aside0.mk (Below.refl w7.heap.size w7)) | (go_at_call 25; (with_reducible refine (LargeC ys a1 d1 _ (Kd.C_below HF.out (by repeat (first | exact HD.out | apply pw_below_drewN | apply below_drew1 | apply below_alloc))) HY.out.1 HM0.out).mono ?_); rintro e w7 ⟨b, rfl, hq, hb⟩; have nHB := Aside0.mk (below_step (by repeat (first | exact HB.out | apply pw_below_drewN | apply below_drew1 | apply below_alloc)) hb); have nHD := Aside0.mk (below_step (by repeat (first | exact HD.out | apply pw_below_drewN | apply below_drew1 | apply below_alloc)) hb); clear HB HD; have HB := nHB; clear nHB; have HD := nHD; clear nHD; clear hb; have HQ := Aside0.mk hq; clear hq))
  cases b with
  | true =>
    as_aux_lemma =>
    go_wp2
    go_ret
    exact ⟨rfl, (by repeat (first | exact HB.out | apply pw_below_drewN | apply below_drew1 | apply below_alloc))⟩
  | false =>
    have hz := HQ.out rfl
    rw [HY.out.2 hz.1] at hz
    have HG := Aside0.mk (⟨hz.1, good_siz hz⟩ : okR xs)
    clear hz HQ HF HM0 HD HA HO HY
    go_upto_region 6 with (first | (go_at_call 36; (with_reducible refine (HP.out xs A c _ HG.out (HE.out.below (by repeat (first | exact HB.out | apply pw_below_drewN | apply below_drew1 | apply below_alloc))) (Kd.C_below HC.out (by repeat (first | exact HB.out | apply pw_below_drewN | apply below_drew1 | apply below_alloc)))).mono ?_); rintro e w7 ⟨rfl, hb⟩; have nHB := Aside0.mk (below_step (by repeat (first | exact HB.out | apply pw_below_drewN | apply below_drew1 | apply below_alloc)) hb); clear HB; have HB := nHB; clear nHB; clear hb))
    go_cut [31] (fun v31 wc => v31 = .bool (mayL xs && decide ((printR xs).size ≤ 4000)) ∧ Aside0 (Below w.heap.size w wc))
    case first =>
      cases hm1 : mayL xs with
      | false =>
        as_aux_lemma =>
        go_wp2_with (first | (go_at_call 34; (with_reducible refine (HM.out xs A c _ HG.out (Kd.C_below HC.out (by repeat (first | exact HB.out | apply pw_below_drewN | apply below_drew1 | apply below_alloc)))).mono ?_); rintro e w7 ⟨rfl, hb⟩; have nHB := Aside0.mk (below_step (by repeat (first | exact HB.out | apply pw_below_drewN | apply below_drew1 | apply below_alloc)) hb); clear HB; have HB := nHB; clear nHB; clear hb))
        go_meet
        case rel => exact ⟨by rw [hm1]; rfl, ⟨(by repeat (first | exact HB.out | apply pw_below_drewN | apply below_drew1 | apply below_alloc))⟩⟩
      | true =>
        by_cases hz1 : (printR xs).size ≤ 4000
        · have y1 : decide ((printR xs).size ≤ 4000) = true := decide_eq_true (by omega)
          have y2 : decide (((printR xs).size : Int) ≤ 4000) = true := decide_eq_true (by omega)
          have y3 : decide (4000 < (printR xs).size) = false := decide_eq_false (by omega)
          have y4 : decide (4000 < ((printR xs).size : Int)) = false := decide_eq_false (by omega)
          clear hz1
          as_aux_lemma =>
          go_wp2_with (first | (go_at_call 34; (with_reducible refine (HM.out xs A c _ HG.out (Kd.C_below HC.out (by repeat (first | exact HB.out | apply pw_below_drewN | apply below_drew1 | apply below_alloc)))).mono ?_); rintro e w7 ⟨rfl, hb⟩; have nHB := Aside0.mk (below_step (by repeat (first | exact HB.out | apply pw_below_drewN | apply below_drew1 | apply below_alloc)) hb); clear HB; have HB := nHB; clear nHB; clear hb))
          go_meet
          case rel => exact ⟨by rw [hm1, y1]; rfl, ⟨(by repeat (first | exact HB.out | apply pw_below_drewN | apply below_drew1 | apply below_alloc))⟩⟩
        · have y1 : decide ((printR xs).size ≤ 4000) = false := decide_eq_false (by omega)
          have y2 : decide (((printR xs).size : Int) ≤ 4000) = false := decide_eq_false (by omega)
          have y3 : decide (4000 < (printR xs).size) = true := decide_eq_true (by omega)
          have y4 : decide (4000 < ((printR xs).size : Int)) = true := decide_eq_true (by omega)
          clear hz1
          as_aux_lemma =>
          go_wp2_with (first | (go_at_call 34; (with_reducible refine (HM.out xs A c _ HG.out (Kd.C_below HC.out (by repeat (first | exact HB.out | apply pw_below_drewN | apply below_drew1 | apply below_alloc)))).mono ?_); rintro e w7 ⟨rfl, hb⟩; have nHB := Aside0.mk (below_step (by repeat (first | exact HB.out | apply pw_below_drewN | apply below_drew1 | apply below_alloc)) hb); clear HB; have HB := nHB; clear nHB; clear hb))
          go_meet
          case rel => exact ⟨by rw [hm1, y1]; rfl, ⟨(by repeat (first | exact HB.out | apply pw_below_drewN | apply below_drew1 | apply below_alloc))⟩⟩
    case rest =>
      obtain ⟨rfl, HB⟩ := hcut
      go_upto_if 31 with (fail)
      go_cut [] (fun wc => Aside0 (Below w.heap.size w wc))
      case first =>
        cases hm1 : (mayL xs && decide ((printR xs).size ≤ 4000)) with
        | false =>
          as_aux_lemma =>
          go_wp2
          go_meet
          case rel => exact ⟨(by repeat (first | exact HB.out | apply pw_below_drewN | apply below_drew1 | apply below_alloc))⟩
        | true =>
          have hm2 := hm1
          rw [Bool.and_eq_true] at hm2
          obtain ⟨hm2, hz1⟩ := hm2
          have hz1 := of_decide_eq_true hz1
          have HR1 := Aside0.mk (fun (W : World) (h : Sht.Env W) => by have q := HR.out (printR xs) W hz1 h; rw [rd_back hm2 hz1] at q; exact q)
          have HS1 := Aside0.mk (fun (B D : Option Addr) (b d : Nat) (W : World) (h1 : Kd.C kRl W B xs.length xs) (h2 : Kd.C kRl W D xs.length xs) => by have q := HS.out xs xs B D b d W HG.out HG.out h1 h2; rw [decide_eq_true rfl] at q; exact q)
          clear hz1 hm2
          as_aux_lemma =>
          go_wp2_with (first | (go_at_call 27; (with_reducible refine (HR1.out _ (HE.out.below (by repeat (first | exact HB.out | apply pw_below_drewN | apply below_drew1 | apply below_alloc)))).mono ?_); rintro e w7 ⟨a1, d1, rfl, hc1, hb⟩; have nHB := Aside0.mk (below_step (by repeat (first | exact HB.out | apply pw_below_drewN | apply below_drew1 | apply below_alloc)) hb); clear HB; have HB := nHB; clear nHB; clear hb; have HC1 := Aside0.mk hc1; clear hc1; have HK1 := Aside0.mk (Below.refl w7.heap.size w7)) | (go_at_call 38; (with_reducible refine (HS1.out A a1 c d1 _ (Kd.C_below HC.out (by repeat (first | exact HB.out | apply pw_below_drewN | apply below_drew1 | apply below_alloc))) (Kd.C_below HC1.out (by repeat (first | exact HK1.out | apply pw_below_drewN | apply below_drew1 | apply below_alloc)))).mono ?_); rintro e w7 ⟨rfl, hb⟩; have nHB := Aside0.mk (below_step (by repeat (first | exact HB.out | apply pw_below_drewN | apply below_drew1 | apply below_alloc)) hb); have nHK1 := Aside0.mk (below_step (by repeat (first | exact HK1.out | apply pw_below_drewN | apply below_drew1 | apply below_alloc)) hb); clear HB HK1; have HB := nHB; clear nHB; have HK1 := nHK1; clear nHK1; clear hb))
          go_meet
          case rel => exact ⟨(by repeat (first | exact HB.out | apply pw_below_drewN | apply below_drew1 | apply below_alloc))⟩
      case rest =>
        have HB := hcut
        clear hcut
        rcases (rd_len s).2 with hs0 | hs0
        rotate_left
        · have HR2 := Aside0.mk (fun (W : World) (h : Sht.Env W) => by have q := HR.out s W (by omega) h; rw [hs0] at q; exact q)
          clear hs0
          as_aux_lemma =>
          go_wp2_with (first | (go_at_call 27; (with_reducible refine (HR2.out _ (HE.out.below (by repeat (first | exact HB.out | apply pw_below_drewN | apply below_drew1 | apply below_alloc)))).mono ?_); rintro e w7 ⟨a2, d2, rfl, hc2, hb⟩; have nHB := Aside0.mk (below_step (by repeat (first | exact HB.out | apply pw_below_drewN | apply below_drew1 | apply below_alloc)) hb); clear HB; have HB := nHB; clear nHB; clear hb; have HC2 := Aside0.mk hc2; clear hc2; have HK2 := Aside0.mk (Below.refl w7.heap.size w7)))
          go_ret
          exact ⟨rfl, (by repeat (first | exact HB.out | apply pw_below_drewN | apply below_drew1 | apply below_alloc))⟩
        obtain ⟨ms, hm, hml, hmg⟩ : ∃ ms, rd s = (ms, 0) ∧ ms.length ≤ 100 ∧ ∀ r ∈ ms, goodR r := ⟨(rd s).1, Prod.ext rfl hs0, Nat.le_trans (rd_len s).1 (by decide), good_read s⟩
        have HR2 := Aside0.mk (fun (W : World) (h : Sht.Env W) => by have q := HR.out s W (by omega) h; rw [hm] at q; exact q)
        have HG2 := Aside0.mk (⟨hml, hmg⟩ : okR ms)
        clear hs0 hm hml hmg
        cases hm2 : mayL ms with
        | false =>
          as_aux_lemma =>
          go_wp2_with (first | (go_at_call 27; (with_reducible refine (HR2.out _ (HE.out.below (by repeat (first | exact HB.out | apply pw_below_drewN | apply below_drew1 | apply below_alloc)))).mono ?_); rintro e w7 ⟨a2, d2, rfl, hc2, hb⟩; have nHB := Aside0.mk (below_step (by repeat (first | exact HB.out | apply pw_below_drewN | apply below_drew1 | apply below_alloc)) hb); clear HB; have HB := nHB; clear nHB; clear hb; have HC2 := Aside0.mk hc2; clear hc2; have HK2 := Aside0.mk (Below.refl w7.heap.size w7)) | (go_at_call 36; (with_reducible refine (HP.out ms a2 d2 _ HG2.out (HE.out.below (by repeat (first | exact HB.out | apply pw_below_drewN | apply below_drew1 | apply below_alloc))) (Kd.C_below HC2.out (by repeat (first | exact HK2.out | apply pw_below_drewN | apply below_drew1 | apply below_alloc)))).mono ?_); rintro e w7 ⟨rfl, hb⟩; have nHB := Aside0.mk (below_step (by repeat (first | exact HB.out | apply pw_below_drewN | apply below_drew1 | apply below_alloc)) hb); have nHK2 := Aside0.mk (below_step (by repeat (first | exact HK2.out | apply pw_below_drewN | apply below_drew1 | apply below_alloc)) hb); clear HB HK2; have HB := nHB; clear nHB; have HK2 := nHK2; clear nHK2; clear hb) | (go_at_call 34; (with_reducible refine (HM.out ms a2 d2 _ HG2.out (Kd.C_below HC2.out (by repeat (first | exact HK2.out | apply pw_below_drewN | apply below_drew1 | apply below_alloc)))).mono ?_); rintro e w7 ⟨rfl, hb⟩; have nHB := Aside0.mk (below_step (by repeat (first | exact HB.out | apply pw_below_drewN | apply below_drew1 | apply below_alloc)) hb); have nHK2 := Aside0.mk (below_step (by repeat (first | exact HK2.out | apply pw_below_drewN | apply below_drew1 | apply below_alloc)) hb); clear HB HK2; have HB := nHB; clear nHB; have HK2 := nHK2; clear nHK2; clear hb))
          go_ret
          exact ⟨rfl, (by repeat (first | exact HB.out | apply pw_below_drewN | apply below_drew1 | apply below_alloc))⟩
        | true =>
          by_cases hz2 : (printR ms).size ≤ 4000
          rotate_left
          · have z1 : decide ((printR ms).size ≤ 4000) = false := decide_eq_false (by omega)
            have z2 : decide (((printR ms).size : Int) ≤ 4000) = false := decide_eq_false (by omega)
            have z3 : decide (4000 < (printR ms).size) = true := decide_eq_true (by omega)
            have z4 : decide (4000 < ((printR ms).size : Int)) = true := decide_eq_true (by omega)
            clear hz2
            as_aux_lemma =>
            go_wp2_with (first | (go_at_call 27; (with_reducible refine (HR2.out _ (HE.out.below (by repeat (first | exact HB.out | apply pw_below_drewN | apply below_drew1 | apply below_alloc)))).mono ?_); rintro e w7 ⟨a2, d2, rfl, hc2, hb⟩; have nHB := Aside0.mk (below_step (by repeat (first | exact HB.out | apply pw_below_drewN | apply below_drew1 | apply below_alloc)) hb); clear HB; have HB := nHB; clear nHB; clear hb; have HC2 := Aside0.mk hc2; clear hc2; have HK2 := Aside0.mk (Below.refl w7.heap.size w7)) | (go_at_call 36; (with_reducible refine (HP.out ms a2 d2 _ HG2.out (HE.out.below (by repeat (first | exact HB.out | apply pw_below_drewN | apply below_drew1 | apply below_alloc))) (Kd.C_below HC2.out (by repeat (first | exact HK2.out | apply pw_below_drewN | apply below_drew1 | apply below_alloc)))).mono ?_); rintro e w7 ⟨rfl, hb⟩; have nHB := Aside0.mk (below_step (by repeat (first | exact HB.out | apply pw_below_drewN | apply below_drew1 | apply below_alloc)) hb); have nHK2 := Aside0.mk (below_step (by repeat (first | exact HK2.out | apply pw_below_drewN | apply below_drew1 | apply below_alloc)) hb); clear HB HK2; have HB := nHB; clear nHB; have HK2 := nHK2; clear nHK2; clear hb) | (go_at_call 34; (with_reducible refine (HM.out ms a2 d2 _ HG2.out (Kd.C_below HC2.out (by repeat (first | exact HK2.out | apply pw_below_drewN | apply below_drew1 | apply below_alloc)))).mono ?_); rintro e w7 ⟨rfl, hb⟩; have nHB := Aside0.mk (below_step (by repeat (first | exact HB.out | apply pw_below_drewN | apply below_drew1 | apply below_alloc)) hb); have nHK2 := Aside0.mk (below_step (by repeat (first | exact HK2.out | apply pw_below_drewN | apply below_drew1 | apply below_alloc)) hb); clear HB HK2; have HB := nHB; clear nHB; have HK2 := nHK2; clear nHK2; clear hb))
            go_ret
            exact ⟨rfl, (by repeat (first | exact HB.out | apply pw_below_drewN | apply below_drew1 | apply below_alloc))⟩
          have z1 : decide ((printR ms).size ≤ 4000) = true := decide_eq_true (by omega)
          have z2 : decide (((printR ms).size : Int) ≤ 4000) = true := decide_eq_true (by omega)
          have z3 : decide (4000 < (printR ms).size) = false := decide_eq_false (by omega)
          have z4 : decide (4000 < ((printR ms).size : Int)) = false := decide_eq_false (by omega)
          have HR3 := Aside0.mk (fun (W : World) (h : Sht.Env W) => by have q := HR.out (printR ms) W hz2 h; rw [rd_back hm2 hz2] at q; exact q)
          have HS2 := Aside0.mk (fun (B D : Option Addr) (b d : Nat) (W : World) (h1 : Kd.C kRl W B ms.length ms) (h2 : Kd.C kRl W D ms.length ms) => by have q := HS.out ms ms B D b d W HG2.out HG2.out h1 h2; rw [decide_eq_true rfl] at q; exact q)
          clear hz2
          as_aux_lemma =>
          go_wp2_with (first | (go_at_call 27; (with_reducible refine (HR2.out _ (HE.out.below (by repeat (first | exact HB.out | apply pw_below_drewN | apply below_drew1 | apply below_alloc)))).mono ?_); rintro e w7 ⟨a2, d2, rfl, hc2, hb⟩; have nHB := Aside0.mk (below_step (by repeat (first | exact HB.out | apply pw_below_drewN | apply below_drew1 | apply below_alloc)) hb); clear HB; have HB := nHB; clear nHB; clear hb; have HC2 := Aside0.mk hc2; clear hc2; have HK2 := Aside0.mk (Below.refl w7.heap.size w7)) | (go_at_call 34; (with_reducible refine (HM.out ms a2 d2 _ HG2.out (Kd.C_below HC2.out (by repeat (first | exact HK2.out | apply pw_below_drewN | apply below_drew1 | apply below_alloc)))).mono ?_); rintro e w7 ⟨rfl, hb⟩; have nHB := Aside0.mk (below_step (by repeat (first | exact HB.out | apply pw_below_drewN | apply below_drew1 | apply below_alloc)) hb); have nHK2 := Aside0.mk (below_step (by repeat (first | exact HK2.out | apply pw_below_drewN | apply below_drew1 | apply below_alloc)) hb); clear HB HK2; have HB := nHB; clear nHB; have HK2 := nHK2; clear nHK2; clear hb) | (go_at_call 27; (with_reducible refine (HR3.out _ (HE.out.below (by repeat (first | exact HB.out | apply pw_below_drewN | apply below_drew1 | apply below_alloc)))).mono ?_); rintro e w7 ⟨a3, d3, rfl, hc3, hb⟩; have nHB := Aside0.mk (below_step (by repeat (first | exact HB.out | apply pw_below_drewN | apply below_drew1 | apply below_alloc)) hb); have nHK2 := Aside0.mk (below_step (by repeat (first | exact HK2.out | apply pw_below_drewN | apply below_drew1 | apply below_alloc)) hb); clear HB HK2; have HB := nHB; clear nHB; have HK2 := nHK2; clear nHK2; clear hb; have HC3 := Aside0.mk hc3; clear hc3; have HK3 := Aside0.mk (Below.refl w7.heap.size w7)) | (go_at_call 38; (with_reducible refine (HS2.out a2 a3 d2 d3 _ (Kd.C_below HC2.out (by repeat (first | exact HK2.out | apply pw_below_drewN | apply below_drew1 | apply below_alloc))) (Kd.C_below HC3.out (by repeat (first | exact HK3.out | apply pw_below_drewN | apply below_drew1 | apply below_alloc)))).mono ?_); rintro e w7 ⟨rfl, hb⟩; have nHB := Aside0.mk (below_step (by repeat (first | exact HB.out | apply pw_below_drewN | apply below_drew1 | apply below_alloc)) hb); have nHK2 := Aside0.mk (below_step (by repeat (first | exact HK2.out | apply pw_below_drewN | apply below_drew1 | apply below_alloc)) hb); have nHK3 := Aside0.mk (below_step (by repeat (first | exact HK3.out | apply pw_below_drewN | apply below_drew1 | apply below_alloc)) hb); clear HB HK2 HK3; have HB := nHB; clear nHB; have HK2 := nHK2; clear nHK2; have HK3 := nHK3; clear nHK3; clear hb) | (go_at_call 36; (with_reducible refine (HP.out ms a3 d3 _ HG2.out (HE.out.below (by repeat (first | exact HB.out | apply pw_below_drewN | apply below_drew1 | apply below_alloc))) (Kd.C_below HC3.out (by repeat (first | exact HK3.out | apply pw_below_drewN | apply below_drew1 | apply below_alloc)))).mono ?_); rintro e w7 ⟨rfl, hb⟩; have nHB := Aside0.mk (below_step (by repeat (first | exact HB.out | apply pw_below_drewN | apply below_drew1 | apply below_alloc)) hb); have nHK2 := Aside0.mk (below_step (by repeat (first | exact HK2.out | apply pw_below_drewN | apply below_drew1 | apply below_alloc)) hb); have nHK3 := Aside0.mk (below_step (by repeat (first | exact HK3.out | apply pw_below_drewN | apply below_drew1 | apply below_alloc)) hb); clear HB HK2 HK3; have HB := nHB; clear nHB; have HK2 := nHK2; clear nHK2; have HK3 := nHK3; clear nHK3; clear hb) | (go_at_call 36; (with_reducible refine (HP.out ms a2 d2 _ HG2.out (HE.out.below (by repeat (first | exact HB.out | apply pw_below_drewN | apply below_drew1 | apply below_alloc))) (Kd.C_below HC2.out (by repeat (first | exact HK2.out | apply pw_below_drewN | apply below_drew1 | apply below_alloc)))).mono ?_); rintro e w7 ⟨rfl, hb⟩; have nHB := Aside0.mk (below_step (by repeat (first | exact HB.out | apply pw_below_drewN | apply below_drew1 | apply below_alloc)) hb); have nHK2 := Aside0.mk (below_step (by repeat (first | exact HK2.out | apply pw_below_drewN | apply below_drew1 | apply below_alloc)) hb); clear HB HK2; have HB := nHB; clear nHB; have HK2 := nHK2; clear nHK2; clear hb))
          go_ret
          exact ⟨rfl, (by repeat (first | exact HB.out | apply pw_below_drewN | apply below_drew1 | apply below_alloc))⟩
end Go.Proofs.Shb
set_option linter.unusedVariables false
set_option linter.unusedSimpArgs false
namespace Go.Proofs.YtolfpgccebdlpaaGreatDoor.Pure
open Go.RowKit Go.Proofs.YtolfpgccebdlpaaGreatDoor.HT Go.Proofs.YtolfpgccebdlpaaGreatDoor.Shp Go.Proofs.YtolfpgccebdlpaaGreatDoorW.PrintWords Go.Proofs.YtolfpgccebdlpaaGreatDoorW.PrintLast Go.Proofs.YtolfpgccebdlpaaGreatDoorW.PrintMore Go.Proofs.Sht
/-- sheet.Read, in plain data -/
theorem readC (t : ByteArray) (W : World) (ht : t.size ≤ 4000) (h : Sht.Env W) :
    Calls Tryz.prog 27 #[.string t] W fun e w' => ∃ a d, e = .returned (.tuple #[.slice a (Shb.rd t).1.length d, .int .i64 (Shb.rd t).2]) ∧ Kd.C kRl w' a (Shb.rd t).1.length (Shb.rd t).1 ∧ Below W.heap.size W w' := by
  obtain ⟨k, hk⟩ := rReadS t (by omega)
  refine (sheet_Read.calls k t (readF t).1 (readF t).2 W (hk k (Nat.le_refl _)) h).mono fun e w' hq => ?_
  obtain ⟨v, he, hR, hB⟩ := hq
  obtain ⟨A, c, rfl⟩ := Kd.R_slice hR
  obtain ⟨_, _, hC⟩ := Kd.R_reads' hR
  have hl : (Shb.rd t).1.length = (readF t).1.length := List.length_map _
  refine ⟨A, c, ?_, ?_, hB⟩
  · rw [hl]; exact he
  · rw [hl]; exact sheet_May.it_C hC
theorem backAll (A : Option Addr) (c : Nat) (xs : List Rl) (s : ByteArray) (w : World) (C : Kd.C kRl w A xs.length xs) (hc : xs.length ≤ c) (hi : xs.length ≤ 2932031007317 ∧ ∀ r ∈ xs, Shi.okIn r) (hE : Sht.Env w) :
    Calls Tryz.prog 5 #[.slice A xs.length c, .string s] w fun e w' => e = .returned (.bool true) ∧ Below w.heap.size w w' := by
  obtain ⟨ka, ha⟩ := awake
  exact Shb.backC xs A c s w C hc hi.1 hi.2 hE (fun W h => scrimlaw10_awake.calls ka true rfl W (ha _ (Nat.le_refl _)) h) readC
end Go.Proofs.YtolfpgccebdlpaaGreatDoor.Pure
set_option linter.unusedVariables false
set_option linter.unusedSimpArgs false
namespace Go.Proofs.Val
open Go Go.RowKit
set_option maxRecDepth 100000
theorem laid_tail {P : Program} {W : World} {x : String × DataW Unit} {rest : List (String × DataW Unit)} (h : laidMet P (x :: rest) W) : laidMet P rest W := by
  obtain ⟨ps, ⟨g, t, cs, fuel, p, q, h1, h2, h3, h4, h5, h6⟩, hn, hr⟩ := h
  subst h6
  exact ⟨q, h5, (List.nodup_append.1 hn).2.1, fun b off hm => hr b off (List.mem_append_right _ hm)⟩
theorem tbs_of {rest : List (String × DataW Unit)} {W : World} (h : laidMet Tryz.prog (("math/bits.deBruijn32tab", Go.Proofs.YtolfpgccebdlpaaGreatDoor.Rows.laid_math_bits_deBruijn32tab) :: ("math/bits.deBruijn64tab", Go.Proofs.YtolfpgccebdlpaaGreatDoor.Rows.laid_math_bits_deBruijn64tab) :: ("internal/strconv.uint64pow10", Go.Proofs.YtolfpgccebdlpaaGreatDoor.Rows.laid_internal_strconv_uint64pow10) :: rest) W.memory) : Tbs W := by
  have h2 := laid_tail h
  have h3 := laid_tail h2
  have g2 : Tryz.prog.globalNamed "math/bits.deBruijn64tab" = some 7 := by kernel_rfl
  have t2 : Lib.TabIs Tryz.prog W.memory "math/bits.deBruijn64tab" .u8 (Lib.deBruijn64tab.map fun n : Nat => (n : Int)) :=
    Lib.tabIs_of_head (zs := Lib.deBruijn64tab.map fun n : Nat => (n : Int)) g2 (t := 247) (by kernel_rfl) Tryz.underlying247 Tryz.underlying5 (by kernel_rfl) (by kernel_rfl) h2
  have t3 : Lib.TabIs Tryz.prog W.memory "internal/strconv.uint64pow10" .u64 Lib.pow10Tab :=
    Lib.tabIs_of_head (zs := Lib.pow10Tab) gn10 (t := 229) (by kernel_rfl) Tryz.underlying229 Tryz.underlying213 (by kernel_rfl) (by kernel_rfl) h3
  refine ⟨t3, ?_⟩
  have c := t2.cell g2 15 (by decide)
  exact c
variable {H : Type} {enc : TypeId × Value → H}
theorem handed_laid_X {a : Assume} {C : Checked} {os : Os} {f : FuncId} {fn : Func} {s : ChangeSpec} {conds : List PathCond} {apart fresh handsOn again : Bool} {X : World → Array Value → Prop}
    (own : ownKnob C.prog.godebug = none) (started : os.Started) (noInit : C.prog.inits.idxOf? f = none) (hfn : C.prog.funcs[f]? = some fn)
    (witness : ∃ (w : World) (tape : Tape) (i : Input), w.os = os ∧ (w.forCall tape i).Shaped C.prog ∧ i.vars = [] ∧ Input.okWide C.prog (w.forCall tape i) .any w.heap.size f i ∧
      ((s.pre enc C.prog fn conds apart (w.forCall tape i).memory i.args ∧ X (w.forCall tape i).memory i.args) ∧ sizedMet enc C.prog fn (OpenSpec.ofChange s) apart (w.forCall tape i).memory i.args) ∧ a.holds C.prog (lone (Frame.enter C.prog f i.args .normal) [] (w.forCall tape i)))
    (contract : ∀ (W : World) (base : Nat) (args : Array Value) (ds gs : List (DataW H)) (before : List MemPlace),
      X W.memory args →
      (∀ (j : Nat) t v, fn.params[j]? = some t → args[j]? = some v → Value.okWide C.prog W .any base t v) →
      DataW.Whole enc C.prog fn.params.toList s.vars apart W args.toList ds gs before →
      (DataW.weightsEach C.prog (fn.params.toList ++ s.plain.varTypes C.prog) (ds ++ gs)).all (· ≤ reachBytes) = true →
      W.ShapedOpen C.prog →
      Calls C.prog f args W fun e W' => ∃ v, e = .returned v ∧ s.post enc C.prog fn apart fresh handsOn again W args v W') :
    ReturnsInHanded a C os f .any (fun w args => (s.pre enc C.prog fn conds apart w args ∧ X w args) ∧ sizedMet enc C.prog fn (OpenSpec.ofChange s) apart w args) (s.post enc C.prog fn apart fresh handsOn again) := by
  refine returnsInHanded_of_calls own started noInit witness ?_
  intro w tape i _ hsh _ hok hpre hholds
  obtain ⟨_, _, _, fn', hfn', _, _, _, _, hval⟩ := hok
  have e : fn' = fn := Option.some.inj (hfn'.symm.trans hfn)
  subst e
  obtain ⟨⟨⟨ds, gs, before, hw, hc⟩, hx⟩, hz⟩ := hpre
  have hw' := DataW.Whole.of_heap (w' := w.forCall tape i) (by rfl) hw
  refine (contract (w.forCall tape i) w.heap.size i.args ds gs before hx hval hw' (hz.weights hw) hsh).mono fun e W' ⟨v, he, hp⟩ => ?_
  subst he
  exact ChangeSpec.post_blind hp
end Go.Proofs.Val
