/- FlexOrder's walk: the law's own function answers true for every list of numbers; no condition. -/
import Derived.Maps.OwnOps
import Derived.Maps.Views
import Derived.Test.YtdifaomkaekglaaPK
import Derived.Deep.QuietTactic
import Derived.BigQuiet
import Derived.IntWalk
set_option linter.unusedVariables false
set_option linter.unusedSimpArgs false
namespace Go.Proofs.LkB
open Go Go.Maps
variable {H : Type}
theorem plainElem_bool_inv {P : Program} {e : TypeId} (he : P.underlying e = some .bool) {v : Value} {z : DataW H × List MemPlace} (h : plainElem P e v = some z) : ∃ a, v = .bool a ∧ z = (.lit (.bool a), []) := by
  unfold plainElem at h
  rw [he] at h
  cases v <;> simp at h
  exact ⟨_, rfl, h.symm⟩
/-- 'm[k]' in a map of bools that the call made -/
theorem lookup_bool {P : Program} {k : TypeId} {w : World} {b n : Nat} {D : DataW H} {t e : TypeId} (h : w.ownsMap P k (plainElem P e) b n D) (K : Keyed P k) (ht : P.underlying t = some (.map k e)) (he : P.underlying e = some .bool) (hz : (zeroValue e).run P w = .ok (.bool false) w)
    {key : Value} {kl : Lit} (hkey : keyOf P k key = some kl) : ∃ c, (Instr.lookup t (.map (some b)) key false).run P w = .ok (.bool c) w ∧ D.atKey kl (.lit (.bool false)) = .lit (.bool c) := by
  obtain ⟨v, ps, hrun, hv⟩ := h.lookup K ht hz (plainElem_bool he false) hkey
  obtain ⟨c, rfl, hc⟩ := plainElem_bool_inv he hv
  simp only [Prod.mk.injEq] at hc
  exact ⟨c, hrun, hc.1⟩
end Go.Proofs.LkB

namespace Go.Proofs.OrdL
open Go.RowKit Go.Lib Go.Sort Go.Maps Go.Proofs Go.Proofs.Stable Go.Proofs.LkB Go.Proofs.Ytdifaomkaekglaa.HR Go.Proofs.YtdifaomkaekglaaW.PrintWords
theorem law3 : Keyed Try.prog 3 := int_keyed Try.underlying3
theorem zero4 (w : World) : (zeroValue 4).run Try.prog w = .ok (.bool false) w := by kernel_rfl
theorem awk (w : World) : Calls Try.prog 14 #[] w fun e w' => e = .returned (.bool true) ∧ Below w.heap.size w w' := by
  obtain ⟨k, hk⟩ := Ev.rounds FlexR.awake_ev
  exact scrimlaw18_awake.calls k true w hk
theorem nodup_o (l : List Int) : (orderV l).Nodup := ((orderV_perm l).nodup_iff).2 (places_nodup _)
theorem rng_o (l : List Int) (i : Nat) (h : i < (orderV l).length) : 0 ≤ (orderV l).getD i 0 ∧ (orderV l).getD i 0 < (l.length : Int) := by
  have e : (orderV l).getD i 0 = (orderV l)[i] := by simp [List.getD, h]
  rw [e]
  exact mem_places.1 ((orderV_perm l).mem_iff.1 (List.getElem_mem h))
theorem new_o (l : List Int) (i : Nat) (h : i < (orderV l).length) : (orderV l).getD i 0 ∉ (orderV l).take i := by
  have e : (orderV l).getD i 0 = (orderV l)[i] := by simp [List.getD, h]
  rw [e]
  intro hm
  obtain ⟨j, hj, hje⟩ := List.mem_iff_getElem.1 hm
  rw [List.getElem_take] at hje
  rw [List.length_take] at hj
  have := (List.getElem_inj (nodup_o l)).1 hje
  omega
theorem rel_o (l : List Int) (i : Nat) (h0 : 0 < i) (h : i < (orderV l).length) : R (keyAt l) ((orderV l).getD (i - 1) 0) ((orderV l).getD i 0) := by
  have e : (orderV l).getD i 0 = (orderV l)[i] := by simp [List.getD, h]
  have e1 : (orderV l).getD (i - 1) 0 = (orderV l)[i - 1] := by simp [List.getD, show i - 1 < (orderV l).length by omega]
  rw [e, e1]
  exact List.pairwise_iff_getElem.1 (orderV_sorted l) (i - 1) i (by omega) h (by omega)
/-- what the map says after k rounds -/
def Seen (o : List Int) (k : Nat) (D : DataW Unit) : Prop := IsMap D ∧ ∀ x : Int, D.atKey (.int .i64 x) (.lit (.bool false)) = .lit (.bool (decide (x ∈ o.take k)))
theorem Seen.start (o : List Int) : Seen o 0 (.map []) := ⟨isMap_empty, fun x => by rw [List.take_zero, decide_eq_false (by simp)]; rfl⟩
theorem Seen.step {o : List Int} {k : Nat} {D : DataW Unit} (h : Seen o k D) (hk : k < o.length) : Seen o (k + 1) (D.put (.int .i64 (o.getD k 0)) (.lit (.bool true))) := by
  have e : o.take (k + 1) = o.take k ++ [o.getD k 0] := by rw [List.take_succ_eq_append_getElem hk]; simp [List.getD, hk]
  refine ⟨h.1.put _ _, fun x => ?_⟩
  rw [e]
  by_cases c : x = o.getD k 0
  · subst c
    rw [atKey_put_same h.1 (by trivial), decide_eq_true (by simp)]
  · rw [atKey_put_other (fun q => c (by injection q)), h.2 x]
    congr 2
    have c' : ¬ x = o[k]?.getD 0 := by simpa [List.getD] using c
    simp [c']
set_option maxHeartbeats 4000000 in
set_option maxRecDepth 100000 in
theorem flexOrderC (l : List Int) (A : Option Addr) (c : Nat) (w : World) (hr : Kd.C (Kd.int .i64) w A l.length l) :
    Calls Try.prog 9 #[.slice A l.length c] w fun e w' => e = .returned (.bool true) ∧ Below w.heap.size w w' := by
  have hmm := @run_makeMap Try.prog
  obtain ⟨n, hn⟩ : ∃ n, n = l.length := ⟨_, rfl⟩
  have HR : Aside (n = l.length ∧ Kd.C (Kd.int .i64) w A l.length l) := ⟨hn, hr⟩
  have orderN : ∀ w, ReadsInt w .i64 A l.length l → l.length ≤ 1099511627776 → Calls Try.prog 22 #[.slice A n c] w (OrdPost l w) := fun w h1 h2 => by rw [hn]; exact orderC l A c w h1 h2
  rw [← hn]
  clear hr hn
  by_cases h120 : n ≤ 120
  · have hi : ¬ (n : Int) > 120 := by omega
    obtain ⟨o, ho⟩ : ∃ o, o = orderV l := ⟨_, rfl⟩
    have HO : Aside (o = orderV l ∧ o.length = n) := ⟨ho, by rw [ho, orderV_length, HR.out.1]⟩
    clear ho
    have hlb : l.length ≤ 1099511627776 := by have := HR.out.1; omega
    go_enter Try.func9, Try.ntmps9
    go_wp2_with (first | (go_at_call 14; refine (awk _).mono ?_; rintro e w1 ⟨rfl, hb1⟩) | (go_at_call 22; refine (orderN _ ?rd hlb).mono ?_; (case rd => exact Kd.reads_of_C (d := 0) (Kd.C_below HR.out.2 hb1)); rintro e w2 ⟨v2, rfl, hv2, hb2⟩; obtain ⟨Ao, co, rfl, hoc, hvC⟩ := Kd.R_reads hv2; rw [← HO.out.1, HO.out.2] at hoc hvC; rw [← HO.out.1, HO.out.2]; clear hv2) | go_in)
    have HB : Aside (Below w.heap.size w w2) := below_step hb1 hb2
    have HL : Aside ((Kd.int .i64).C w2 A n l) := by have q := HR.out.2; rw [← HR.out.1] at q; exact Kd.C_below q HB.out
    have HV : Aside ((Kd.int .i64).C w2 Ao n o) := hvC
    have H0 : Aside (∃ D : DataW Unit, (w2.alloc (Obj.map #[] 0)).ownsMap Try.prog 3 (plainElem Try.prog 4) w2.heap.size 0 D ∧ Seen o 0 D ∧ Below w2.heap.size w2 (w2.alloc (Obj.map #[] 0))) := ⟨_, World.ownsMap_made _ _ _ _, Seen.start o, (Below.refl _ _).alloc (Nat.le_refl _) _⟩
    clear hvC hb1 hb2 hi
    go_loopw [17] (fun i wr => ∃ k : Nat, k ≤ n ∧ i = .int .i64 k ∧ Aside (∃ D : DataW Unit, wr.ownsMap Try.prog 3 (plainElem Try.prog 4) w2.heap.size k D ∧ Seen o k D ∧ Below w2.heap.size w2 wr)) (fun i _ => n - (intOf i).toNat)
    case atStart => exact ⟨0, Nat.zero_le _, rfl, H0.out⟩
    case round =>
      clear H0
      obtain ⟨k, hk, rfl, A1⟩ := hrel
      by_cases hlt : k < n
      · have hltz : (k : Int) < (n : Int) := by omega
        obtain ⟨D, hown, hseen, hbel⟩ := A1.out
        clear A1
        have HO2 := HO.out
        obtain ⟨x, hx⟩ : ∃ x, x = o.getD k 0 := ⟨_, rfl⟩
        obtain ⟨y, hy⟩ : ∃ y, y = o.getD (k - 1) 0 := ⟨_, rfl⟩
        have nx : ¬ x ∈ o.take k := by rw [hx, HO2.1]; exact new_o l k (by rw [← HO2.1]; omega)
        have x01 : 0 ≤ x ∧ x < (n : Int) := by rw [hx, HO2.1, HR.out.1]; exact rng_o l k (by rw [← HO2.1]; omega)
        obtain ⟨x0, x1⟩ := x01
        have hlook : ∀ m, (Instr.lookup 51 (.map (some w2.heap.size)) (.int .i64 x) false).run Try.prog (wr.drewN m) = .ok (.bool false) (wr.drewN m) := fun m => by
          have wf : (Lit.int .i64 x).wf = true := WalkArith.wf_i64 (by omega)
          obtain ⟨cb, h1, h2⟩ := lookup_bool (w := wr.drewN m) (H := Unit) (k := 3) (t := 51) (e := 4) (D := D) (n := k) hown law3 Try.underlying51 Try.underlying4 (zero4 _) (keyOf_int_mk Try.underlying3 wf)
          rw [hseen.2 x, decide_eq_false nx] at h2
          injection h2 with h2
          injection h2 with h2
          rw [h1, ← h2]
        have cx : ∃ ad, Ao = some ad ∧ wr.cell? (ad.add k) = some (.int .i64 x) := by
          obtain ⟨ad, e, h⟩ := Kd.at_int (Kd.C_below HV.out hbel) (k : Int) (by omega) (by omega)
          exact ⟨ad, e, by rw [hx]; simpa [rd] using h⟩
        obtain ⟨ad, rfl, hcx⟩ := cx
        have cl : ∀ z : Int, 0 ≤ z → z < (n : Int) → ∃ al, A = some al ∧ wr.cell? (al.add z.toNat) = some (.int .i64 (keyAt l z)) := fun z z0 z1 => by
          obtain ⟨al, e, h⟩ := Kd.at_int (Kd.C_below HL.out hbel) z z0 z1
          exact ⟨al, e, h⟩
        have g0 : decide (x < 0) = false := decide_eq_false (by omega)
        have g1 : decide ((n : Int) ≤ x) = false := decide_eq_false (by omega)
        by_cases hp : (0 : Int) < (k : Int)
        · have y01 : 0 ≤ y ∧ y < (n : Int) := by rw [hy, HO2.1, HR.out.1]; exact rng_o l (k - 1) (by rw [← HO2.1]; omega)
          obtain ⟨y0, y1⟩ := y01
          have hR : keyAt l y < keyAt l x ∨ (keyAt l y = keyAt l x ∧ y < x) := by rw [hy, hx, HO2.1]; exact rel_o l k (by omega) (by rw [← HO2.1]; omega)
          obtain ⟨al, rfl, hcx2⟩ := cl x x0 x1
          obtain ⟨al', e', hcy2⟩ := cl y y0 y1
          cases e'
          clear cl
          have hcy : wr.cell? (ad.add (k - 1)) = some (.int .i64 y) := by
            obtain ⟨ad', e, h⟩ := Kd.at_int (Kd.C_below HV.out hbel) ((k - 1 : Nat) : Int) (by omega) (by omega)
            cases e
            rw [hy]; simpa [rd] using h
          obtain ⟨kx, ekx⟩ : ∃ kx, kx = keyAt l x := ⟨_, rfl⟩
          obtain ⟨ky, eky⟩ : ∃ ky, ky = keyAt l y := ⟨_, rfl⟩
          rw [← ekx] at hcx2 hR
          rw [← eky] at hcy2 hR
          have HX : Aside (x = o.getD k 0) := hx
          clear ekx eky hx hy HO2
          have hd : decide (0 < k) = true := decide_eq_true (by omega)
          have hdz : decide ((0 : Int) < (k : Int)) = true := decide_eq_true hp
          have hw1 : IntKind.i64.wrap ((k : Int) - 1) = (k : Int) - 1 := IntWalk.i64_in _ (by omega)
          have k1a : (1 : Int) ≤ (k : Int) := by omega
          have k1b : (k : Int) - 1 < (n : Int) := by omega
          have k1c : ((k : Int) - 1).toNat = k - 1 := by omega
          go_wp2
          rcases hR with hR | ⟨hR, hR2⟩
          · have r1 : decide (kx < ky) = false := decide_eq_false (by omega)
            have r2 : (ky == kx) = false := by simp; omega
            clear hR
            as_aux_lemma =>
            go_quiet (fail)
            have hown1 : (wr.drewN nq).ownsMap Try.prog 3 (plainElem Try.prog 4) w2.heap.size k D := hown
            have wf : (Lit.int .i64 x).wf = true := WalkArith.wf_i64 (by omega)
            have hkey : keyOf Try.prog 3 (.int .i64 x) = some (.int .i64 x) := keyOf_int_mk Try.underlying3 wf
            have hmx : k < maxLen := by unfold maxLen; omega
            go_wp2_with (at_mapUpdate; refine wpList_mapUpdate_own _ rfl _ _ _ 51 rfl 3 4 law3 Try.underlying51 _ w2.heap.size k D rfl hown1 hmx _ _ _ rfl rfl hkey (.lit (.bool true)) [] (plainElem_bool Try.underlying4 true) ?_; intro w3 hown3 hgrow3)
            refine ⟨⟨k + 1, by omega, by go_num, ⟨_, hown3, ?_, (pw_below_drewN hbel nq).grown hgrow3 (pw_below_drewN hbel nq).size (fun j e => by cases e; exact Nat.le_refl _)⟩⟩, by simp [intOf]; omega⟩
            rw [HX.out]
            exact hseen.step (by rw [HO.out.2]; exact hlt)
          · have r1 : decide (kx < ky) = false := decide_eq_false (by omega)
            have r2 : (ky == kx) = true := by simp; omega
            have r3 : decide (x < y) = false := decide_eq_false (by omega)
            clear hR hR2
            as_aux_lemma =>
            go_quiet (fail)
            have hown1 : (wr.drewN nq).ownsMap Try.prog 3 (plainElem Try.prog 4) w2.heap.size k D := hown
            have wf : (Lit.int .i64 x).wf = true := WalkArith.wf_i64 (by omega)
            have hkey : keyOf Try.prog 3 (.int .i64 x) = some (.int .i64 x) := keyOf_int_mk Try.underlying3 wf
            have hmx : k < maxLen := by unfold maxLen; omega
            go_wp2_with (at_mapUpdate; refine wpList_mapUpdate_own _ rfl _ _ _ 51 rfl 3 4 law3 Try.underlying51 _ w2.heap.size k D rfl hown1 hmx _ _ _ rfl rfl hkey (.lit (.bool true)) [] (plainElem_bool Try.underlying4 true) ?_; intro w3 hown3 hgrow3)
            refine ⟨⟨k + 1, by omega, by go_num, ⟨_, hown3, ?_, (pw_below_drewN hbel nq).grown hgrow3 (pw_below_drewN hbel nq).size (fun j e => by cases e; exact Nat.le_refl _)⟩⟩, by simp [intOf]; omega⟩
            rw [HX.out]
            exact hseen.step (by rw [HO.out.2]; exact hlt)
        · have HX : Aside (x = o.getD k 0) := hx
          clear cl hy HO2 hx
          have hd : decide (0 < k) = false := decide_eq_false (by omega)
          have hdz : decide ((0:Int) < (k:Int)) = false := decide_eq_false (by omega)
          go_wp2
          as_aux_lemma =>
          go_quiet (fail)
          have hown1 : (wr.drewN nq).ownsMap Try.prog 3 (plainElem Try.prog 4) w2.heap.size k D := hown
          have wf : (Lit.int .i64 x).wf = true := WalkArith.wf_i64 (by omega)
          have hkey : keyOf Try.prog 3 (.int .i64 x) = some (.int .i64 x) := keyOf_int_mk Try.underlying3 wf
          have hmx : k < maxLen := by unfold maxLen; omega
          go_wp2_with (at_mapUpdate; refine wpList_mapUpdate_own _ rfl _ _ _ 51 rfl 3 4 law3 Try.underlying51 _ w2.heap.size k D rfl hown1 hmx _ _ _ rfl rfl hkey (.lit (.bool true)) [] (plainElem_bool Try.underlying4 true) ?_; intro w3 hown3 hgrow3)
          refine ⟨⟨k + 1, by omega, by go_num, ⟨_, hown3, ?_, (pw_below_drewN hbel nq).grown hgrow3 (pw_below_drewN hbel nq).size (fun j e => by cases e; exact Nat.le_refl _)⟩⟩, by simp [intOf]; omega⟩
          rw [HX.out]
          exact hseen.step (by rw [HO.out.2]; exact hlt)
      · obtain rfl : k = n := by omega
        have hltz : ¬ (k : Int) < (k : Int) := by omega
        have HO2 := HO.out.2
        go_wp2
        go_ret
        exact ⟨rfl, A1.out.elim fun D h => below_step HB.out h.2.2⟩
  · have hi : (n : Int) > 120 := by omega
    go_enter Try.func9, Try.ntmps9
    go_wp2_with (first | (go_at_call 14; refine (awk _).mono ?_; rintro e w1 ⟨rfl, hb1⟩) | go_in)
    go_ret
    exact ⟨rfl, hb1⟩
end Go.Proofs.OrdL
