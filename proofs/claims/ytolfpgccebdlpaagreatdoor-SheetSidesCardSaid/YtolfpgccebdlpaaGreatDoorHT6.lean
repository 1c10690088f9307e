/- SheetSides in plain words: the texts that the law makes; no condition beside those that each theorem states. -/
import Derived.Test.YtolfpgccebdlpaaGreatDoorHT0
import Derived.Test.YtolfpgccebdlpaaGreatDoorHT4
import Derived.Test.YtolfpgccebdlpaaGreatDoorHT5
import Derived.Test.YtolfpgccebdlpaaGreatDoorVaI
import Derived.Deep.RegionHeld3
import Derived.BigQuiet
namespace Go.Proofs.YtolfpgccebdlpaaGreatDoor.HT
open Go.RowKit Go.Proofs.YtolfpgccebdlpaaGreatDoorW.PrintWords Go.Proofs.YtolfpgccebdlpaaGreatDoorW.PrintLast Go.Proofs.YtolfpgccebdlpaaGreatDoorW.PrintMore
attribute [local go_sem] max2_int min2_int max_two min_two max_three min_three max_four min_four   -- for this text's walks alone
set_option linter.unusedVariables false
set_option linter.unusedSimpArgs false
def scrimlaw10_decls.l0 : Nat → List (S123) → List (S111) → Int → Int → Option ((List (S123)))
 | 0, _, _, _, _ => none
 | k + 1, x3, x7, x8, x9 => if x9 < x8 then (if 0 ≤ x9 then (if x9 < (x7.length : Int) then (if x3.length < 4398046511104 then (scrimlaw10_decls.l0 k (x3 ++ [(⟨(rd_T111 x7 x9).f0, (⟨(rd_T111 x7 x9).f1.f0, (rd_T111 x7 x9).f1.f1⟩ : S109), (rd_T111 x7 x9).f2⟩ : S123)]) x7 x8 (wrap64 (x9 + 1))) else (none)) else (none)) else (none)) else (some x3)
def scrimlaw10_decls.f (k : Nat) (l0 : List (S111)) : Option ((List (S123))) := scrimlaw10_decls.l0 k (([] : List (S123))) l0 (l0.length : Int) 0
theorem scrimlaw10_decls.mono_l : ∀ k, (∀ y0 y1 y2 y3, LeO (scrimlaw10_decls.l0 k y0 y1 y2 y3) (scrimlaw10_decls.l0 (k + 1) y0 y1 y2 y3))
 | 0 => fun _ _ _ _ r h => by simp [scrimlaw10_decls.l0] at h
 | k + 1 => by
  have ih0 := scrimlaw10_decls.mono_l k
  ·intro y0 y1 y2 y3
   unfold scrimlaw10_decls.l0
   repeat' first
   | (with_reducible exact ih0 _ _ _ _)
   | (with_reducible exact LeO.refl _)
   | (with_reducible exact LeO.none _)
   | (with_reducible refine LeO.ite ?_ ?_)
   | (with_reducible refine LeO.bind ?_ (fun _ => ?_))
   | exact ih0 _ _ _ _
   | exact LeO.none _
   | refine LeO.ite ?_ ?_
   | refine LeO.bind ?_ (fun _ => ?_)
theorem scrimlaw10_decls.mono : ∀ a0 k, LeO (scrimlaw10_decls.f k a0) (scrimlaw10_decls.f (k + 1) a0) := by
 intro a0 k
 have ih0 := scrimlaw10_decls.mono_l k
 unfold scrimlaw10_decls.f
 repeat' first
   | (with_reducible exact ih0 _ _ _ _)
   | (with_reducible exact LeO.refl _)
   | (with_reducible exact LeO.none _)
   | (with_reducible refine LeO.ite ?_ ?_)
   | (with_reducible refine LeO.bind ?_ (fun _ => ?_))
   | exact ih0 _ _ _ _
   | exact LeO.none _
   | refine LeO.ite ?_ ?_
   | refine LeO.bind ?_ (fun _ => ?_)
set_option maxHeartbeats 8000000 in
set_option maxRecDepth 100000 in
theorem scrimlaw10_decls.calls (k : Nat) (A0 : Option Addr) (c0 : Nat) (l0 : List (S111)) (r : List (S123)) (w : World) (hr0 : Kd.C k111 w A0 l0.length l0) (hc0 : l0.length ≤ c0) (h : scrimlaw10_decls.f k l0 = some r) :
  Calls Tryz.prog 31 #[.slice A0 l0.length c0] w fun e w' => ∃ v0_ : Value, e = .returned (v0_) ∧ Kd.R k123 123 w' w.heap.size (fun _ => True) v0_ r ∧ Below w.heap.size w w' := by
 have hu111 := Tryz.underlying111
 have HR0 := Aside0.mk hr0
 have HC0 := Aside0.mk hc0
 clear hr0 hc0
 have HB := Aside0.mk (Below.refl w.heap.size w)
 have H : (scrimlaw10_decls.l0 k (([] : List (S123))) l0 (l0.length : Int) 0) = some r := h
 clear h
 obtain ⟨y224, hy224⟩ : ∃ y_ : List (S123), y_ = (([] : List (S123))) := ⟨_, rfl⟩
 replace H : (scrimlaw10_decls.l0 k y224 l0 (l0.length : Int) 0) = some r := by first | (rw [hy224]; with_reducible exact H) | (have H2_ := (Option.bind_some _ _).symm.trans H; rw [hy224]; with_reducible exact H2_) | (have H2_ := (Option.bind_some _ _).symm.trans H; with_reducible exact H2_) | with_reducible exact H | (rw [hy224]; exact H) | exact H
 have Ny224 := Aside0.mk hy224
 clear hy224
 have H' := Aside0.mk H
 clear H
 go_enter Tryz.func31, Tryz.ntmps31
 go_wp2_with (first | ((with_reducible refine gate_dst (N := 6) rfl ?_); refine Kd.R_lit k123 _ 123 ?hg (N := 6) ?hd (xs := ([] : List (S123))) (inner := []) (ok := fun _ => True) (okp := fun _ => True) ?hr ?hp (fun _ hk => hk) trivial (Below.refl _ _) (Nat.le_refl _) (by simp) ?_; (case hd => rfl); (case hg => rfl); (case hr => first | (go_simp; done) | (go_simp; rfl)); (case hp => exact (Reps.none _ _)); intro v225 w2 ho3 hb hg_ hnew_; clear hg_ hnew_; (first | rw [← Ny224.out] at ho3 | (simp only [Int.reduceToNat] at ho3; rw [← Ny224.out] at ho3)); have n0_ := Aside0.mk (Kd.R_lower ho3 (below_size (by repeat (first | (with_reducible first | exact HB.out | apply below_alloc | apply pw_below_drewN | apply below_drew1) | exact HB.out)))); have n1_ := Aside0.mk (below_step (by repeat (first | (with_reducible first | exact HB.out | apply below_alloc | apply pw_below_drewN | apply below_drew1) | exact HB.out)) hb); clear HB; have HO226 := n0_; have HB := n1_; clear n0_ n1_; clear hb ho3))
 go_loopg [3, 9] k (fun kq v3 v9 w' => ∃ (x3_1 : List (S123)) (x9_1 : Int), v9 = .int .i64 x9_1 ∧ Aside0 (scrimlaw10_decls.l0 kq x3_1 l0 (l0.length : Int) x9_1 = some r) ∧ Aside0 (kq ≤ k) ∧ Aside0 (Kd.R k123 123 w' w.heap.size (fun _ => True) v3 x3_1) ∧ Aside0 (Below w.heap.size w w'))
 case atStart => exact ⟨(y224), (0), (by first | rfl | (simp; done) | (simp [*]; done)), H', ⟨Nat.le_refl _⟩, ⟨by (with_reducible repeat (first | apply Kd.R_alloc | apply Kd.R_drewN | apply Kd.R_drew)); exact HO226.out⟩, ⟨by repeat (first | (with_reducible first | exact HB.out | apply below_alloc | apply pw_below_drewN | apply below_drew1) | exact HB.out)⟩⟩
 case round =>
  clear H'
  try clear p2
  try clear c3
  obtain ⟨x3_1, x9_1, rfl, HA, HK1, HO_3, HB⟩ := hrel
  cases gk with
  | zero => exact absurd HA.out (by simp [scrimlaw10_decls.l0])
  | succ k1 =>
   have H := HA.out
   clear HA
   simp only [scrimlaw10_decls.l0] at H
   by_cases c4 : x9_1 < (l0.length : Int)
   ·rw [if_pos c4] at H
    have c4b0 : decide (x9_1 < (l0.length : Int)) = true := decide_eq_true c4
    clear c4
    by_cases c5 : 0 ≤ x9_1
    ·rw [if_pos c5] at H
     have c5b0 : decide (0 ≤ x9_1) = true := decide_eq_true c5
     clear c5
     by_cases c6 : x9_1 < (l0.length : Int)
     ·rw [if_pos c6] at H
      have c6b0 : decide (x9_1 < (l0.length : Int)) = true := decide_eq_true c6
      clear c6
      by_cases c7 : x3_1.length < 4398046511104
      ·rw [if_pos c7] at H
       have LMc7 := Aside0.mk c7
       clear c7
       obtain ⟨y229, hy229⟩ : ∃ y_ : List (S123), y_ = (x3_1 ++ [(⟨(rd_T111 l0 x9_1).f0, (⟨(rd_T111 l0 x9_1).f1.f0, (rd_T111 l0 x9_1).f1.f1⟩ : S109), (rd_T111 l0 x9_1).f2⟩ : S123)]) := ⟨_, rfl⟩
       replace H : (scrimlaw10_decls.l0 k1 y229 l0 (l0.length : Int) (wrap64 (x9_1 + 1))) = some r := by first | (rw [hy229]; with_reducible exact H) | (have H2_ := (Option.bind_some _ _).symm.trans H; rw [hy229]; with_reducible exact H2_) | (have H2_ := (Option.bind_some _ _).symm.trans H; with_reducible exact H2_) | with_reducible exact H | (rw [hy229]; exact H) | exact H
       have Ny229 := Aside0.mk hy229
       clear hy229
       have H' := Aside0.mk H
       clear H
       have p227 : 0 ≤ (x9_1 : Int) := of_decide_eq_true (by first | (with_reducible assumption) | assumption)
       have q227 : x9_1 < (l0.length : Int) := of_decide_eq_true (by first | (with_reducible assumption) | assumption)
       obtain ⟨ad227, e227, hx227_0, hx227_1, hx227_2, hx227_3⟩ := at_T111 HR0.out x9_1 p227 q227
       cases e227
       replace hx227_0 := (HB.out.cell (World.block_lt_of_cell? w _ hx227_0)).trans hx227_0
       replace hx227_1 := (HB.out.cell (World.block_lt_of_cell? w _ hx227_1)).trans hx227_1
       replace hx227_2 := (HB.out.cell (World.block_lt_of_cell? w _ hx227_2)).trans hx227_2
       replace hx227_3 := (HB.out.cell (World.block_lt_of_cell? w _ hx227_3)).trans hx227_3
       replace p227 := eq_true p227
       replace q227 := eq_true q227
       go_wp2_with (first | ((with_reducible refine gate_dst (N := 5) rfl ?_); refine box_event ?hg (N := 5) ?hd (cs := #[.int .i64 0, .int .i64 0, .int .i64 0, .bool false]) (t := 111) ?hr ?_; (case hd => rfl); (case hg => rfl); (case hr => first | (go_simp; done) | (go_simp; rfl)); intro gb228 hg w8 hbox hb; have n0_ := Aside0.mk (Kd.R_below (by (with_reducible repeat (first | apply Kd.R_alloc | apply Kd.R_drewN | apply Kd.R_drew)); exact HO_3.out) hb); have n1_ := Aside0.mk (below_step (by repeat (first | (with_reducible first | exact HB.out | apply below_alloc | apply pw_below_drewN | apply below_drew1) | exact HB.out)) hb); have n2_ := Aside0.mk (hbox); have n3_ := Aside0.mk ((by rw [hg]; exact (below_size (by repeat (first | (with_reducible first | exact HB.out | apply below_alloc | apply pw_below_drewN | apply below_drew1) | exact HB.out))) : w.heap.size ≤ gb228)); have n4_ := Aside0.mk ((by rw [hg]; exact (below_size (by repeat (first | (with_reducible first | exact HB.out | apply below_alloc | apply pw_below_drewN | apply below_drew1) | exact HB.out))) : w.heap.size ≤ gb228)); clear HO_3; clear HB; have HO_3 := n0_; have HB := n1_; have BK228 := n2_; have GW228 := n3_; have GE228 := n4_; clear n0_ n1_ n2_ n3_ n4_; clear hb hbox hg; have hcz9_0 : w8.cell? ⟨gb228, 0, none⟩ = some (.int .i64 0) := (blk_cell BK228.out 0).trans rfl; have hcz9_1 : w8.cell? ⟨gb228, 1, none⟩ = some (.int .i64 0) := (blk_cell BK228.out 1).trans rfl; have hcz9_2 : w8.cell? ⟨gb228, 2, none⟩ = some (.int .i64 0) := (blk_cell BK228.out 2).trans rfl; have hcz9_3 : w8.cell? ⟨gb228, 3, none⟩ = some (.bool false) := (blk_cell BK228.out 3).trans rfl; have hfz9_0 := blk_frozen BK228.out 0; have hfz9_1 := blk_frozen BK228.out 1; have hfz9_2 := blk_frozen BK228.out 2; have hfz9_3 := blk_frozen BK228.out 3) | ((with_reducible refine gate_builtin (b := .append) (xs := #[.tmp 13, .tmp 15]) rfl ?_); at_builtin; refine Kd.R_append k123 (w0 := w) w.heap.size rfl (.tmp 13) (.tmp 15) 61 123 (.agg #[(.int .i64 0), (.int .i64 0), (.int .i64 0), (.bool false)]) 32 rfl Tryz.underlying61 info123 rfl (by decide) (by omega) u3 x3_1 (⟨(rd_T111 l0 x9_1).f0, (⟨(rd_T111 l0 x9_1).f1.f0, (rd_T111 l0 x9_1).f1.f1⟩ : S109), (rd_T111 l0 x9_1).f2⟩ : S123) [.int .i64 ((rd_T111 l0 x9_1).f0), .int .i64 ((rd_T111 l0 x9_1).f1.f0), .int .i64 ((rd_T111 l0 x9_1).f1.f1), .bool ((rd_T111 l0 x9_1).f2)] (fun _ => True) (fun _ => False) rfl (by first | (go_simp; done) | (go_simp; rfl)) ?aP (fun _ hk => hk.elim) ?aF ?aO ?aB ?aS ?aL ?_; (case aP => exact k123_mkM _ _ _ (⟨(rd_T111 l0 x9_1).f0, (⟨(rd_T111 l0 x9_1).f1.f0, (rd_T111 l0 x9_1).f1.f1⟩ : S109), (rd_T111 l0 x9_1).f2⟩ : S123)); (case aB => exact (by repeat (first | (with_reducible first | exact HB.out | apply below_alloc | apply pw_below_drewN | apply below_drew1 | refine below_set ?_ GE228.out) | exact HB.out))); (case aF => exact (fun _ _ => trivial)); (case aO => exact (by (with_reducible repeat (first | apply Kd.R_alloc | apply Kd.R_drewN | apply Kd.R_drew)); exact Kd.R_mono (Kd.R_far (p := ⟨gb228, 3, none⟩) (Kd.R_far (p := ⟨gb228, 2, none⟩) (Kd.R_far (p := ⟨gb228, 1, none⟩) (Kd.R_far (p := ⟨gb228, 0, none⟩) (Kd.R_types HO_3.out BK228.out (by decide)) (fun _ hk => hk.2) (.int .i64 ((rd_T111 l0 x9_1).f0))) (fun _ hk => hk.2) (.int .i64 ((rd_T111 l0 x9_1).f1.f0))) (fun _ hk => hk.2) (.int .i64 ((rd_T111 l0 x9_1).f1.f1))) (fun _ hk => hk.2) (.bool ((rd_T111 l0 x9_1).f2))) (fun _ hk => trivial))); (case aS => exact (below_size (by repeat (first | (with_reducible first | exact HB.out | apply below_alloc | apply pw_below_drewN | apply below_drew1 | refine below_set ?_ GE228.out) | exact HB.out)))); (case aL => have := LMc7.out; omega); intro v230 w10 ho hb hg hat; rw [← Ny229.out] at ho; have n0_ := Aside0.mk (blk_grown (g := gb228) (o := .cells #[.int .i64 ((rd_T111 l0 x9_1).f0), .int .i64 ((rd_T111 l0 x9_1).f1.f0), .int .i64 ((rd_T111 l0 x9_1).f1.f1), .bool ((rd_T111 l0 x9_1).f2)] 111 (0, 0)) (by (with_reducible repeat (first | refine blk_drewN ?_ _ | refine blk_drew ?_ | refine blk_alloc ?_ _)); refine blk_put (cs := #[.int .i64 ((rd_T111 l0 x9_1).f0), .int .i64 ((rd_T111 l0 x9_1).f1.f0), .int .i64 ((rd_T111 l0 x9_1).f1.f1), .bool false]) ?_ 3 _ rfl; (with_reducible repeat (first | refine blk_drewN ?_ _ | refine blk_drew ?_ | refine blk_alloc ?_ _)); refine blk_put (cs := #[.int .i64 ((rd_T111 l0 x9_1).f0), .int .i64 ((rd_T111 l0 x9_1).f1.f0), .int .i64 0, .bool false]) ?_ 2 _ rfl; (with_reducible repeat (first | refine blk_drewN ?_ _ | refine blk_drew ?_ | refine blk_alloc ?_ _)); refine blk_put (cs := #[.int .i64 ((rd_T111 l0 x9_1).f0), .int .i64 0, .int .i64 0, .bool false]) ?_ 1 _ rfl; (with_reducible repeat (first | refine blk_drewN ?_ _ | refine blk_drew ?_ | refine blk_alloc ?_ _)); refine blk_put (cs := #[.int .i64 0, .int .i64 0, .int .i64 0, .bool false]) ?_ 0 _ rfl; (with_reducible repeat (first | refine blk_drewN ?_ _ | refine blk_drew ?_ | refine blk_alloc ?_ _)); exact BK228.out) hg (Kd.R_ne HO_3.out BK228.out (by decide))); have n1_ := Aside0.mk (hb); have n2_ := Aside0.mk (ho); clear BK228; clear HB; clear HO_3; have BK228 := n0_; have HB := n1_; have HO231 := n2_; clear n0_ n1_ n2_; clear ho hb hg hat))
       go_roundg k1
       case measure => have := HK1.out; omega
       case rel => exact ⟨(y229), (wrap64 (x9_1 + 1)), (by first | rfl | (simp; done) | (simp [*]; done)), H', ⟨by have := HK1.out; omega⟩, ⟨by (with_reducible repeat (first | apply Kd.R_alloc | apply Kd.R_drewN | apply Kd.R_drew)); exact HO231.out⟩, ⟨by repeat (first | (with_reducible first | exact HB.out | apply below_alloc | apply pw_below_drewN | apply below_drew1 | refine below_set ?_ GE228.out) | exact HB.out)⟩⟩
      ·rw [if_neg c7] at H
       exact absurd H (by simp)
     ·rw [if_neg c6] at H
      exact absurd H (by simp)
    ·rw [if_neg c5] at H
     exact absurd H (by simp)
   ·rw [if_neg c4] at H
    have c4b0 : decide (x9_1 < (l0.length : Int)) = false := decide_eq_false c4
    clear c4
    obtain rfl := Option.some.inj H
    go_wp2
    go_ret
    exact ⟨_, by first | rfl | (simp [errW_none, errW_some] <;> rfl) | (simp [*, errW_none, errW_some] <;> rfl), by (with_reducible repeat (first | apply Kd.R_alloc | apply Kd.R_drewN | apply Kd.R_drew)); exact HO_3.out, by repeat (first | (with_reducible first | exact HB.out | apply below_alloc | apply pw_below_drewN | apply below_drew1) | exact HB.out)⟩
end Go.Proofs.YtolfpgccebdlpaaGreatDoor.HT
set_option linter.unusedVariables false
set_option linter.unusedSimpArgs false
namespace Go.Proofs.Sht
open Go Go.Lib Go.Proofs.Scn
def nv (n0 n1 n2 n3 : Int) (j : Nat) : Int := if j = 0 then n0 else if j = 1 then n1 else if j = 2 then n2 else n3
def wordN (n : Int) : ByteArray := (⟨#[48, 49, 50, 51, 52, 53, 54, 55, 56, 57]⟩ : ByteArray).extract n.toNat (n + 1).toNat ++ ⟨#[112, 120]⟩
def tx (f : Nat → Int) (k j : Nat) : ByteArray := if j < k then wordN (f j) else ⟨#[]⟩
def tc (f : Nat → Int) (k : Nat) : Array Value := #[.string (tx f k 0), .string (tx f k 1), .string (tx f k 2), .string (tx f k 3)]
def endV (s : Bool) : ByteArray := if s = true then ⟨#[32, 33, 105, 109, 112, 111, 114, 116, 97, 110, 116]⟩ else ⟨#[]⟩
def shN (m : Nat) (f : Nat → Int) : Nat → ByteArray
  | 0 => ⟨#[109, 97, 114, 103, 105, 110, 58]⟩
  | k + 1 => if k < m then shN m f k ++ ((⟨#[32]⟩ : ByteArray) ++ wordN (f k)) else shN m f k
def sideN (j : Nat) : ByteArray := if j = 0 then ⟨#[116, 111, 112]⟩ else if j = 1 then ⟨#[114, 105, 103, 104, 116]⟩ else if j = 2 then ⟨#[98, 111, 116, 116, 111, 109]⟩ else ⟨#[108, 101, 102, 116]⟩
def whN (m j : Nat) : Nat := if m = 1 then 0 else if m = 2 then (if j = 0 then 0 else if j = 1 then 1 else if j = 2 then 0 else 1) else if m = 3 then (if j = 0 then 0 else if j = 1 then 1 else if j = 2 then 2 else 1) else (if j = 0 then 0 else if j = 1 then 1 else if j = 2 then 2 else 3)
def partN (m : Nat) (f : Nat → Int) (e : ByteArray) (j : Nat) : ByteArray := (((((⟨#[109, 97, 114, 103, 105, 110, 45]⟩ : ByteArray) ++ sideN j) ++ (⟨#[58, 32]⟩ : ByteArray)) ++ wordN (f (whN m j))) ++ e) ++ (⟨#[59]⟩ : ByteArray)
def loN (m : Nat) (f : Nat → Int) (e : ByteArray) : Nat → ByteArray
  | 0 => ⟨#[]⟩
  | k + 1 => loN m f e k ++ partN m f e k
theorem word_sz {n : Int} (h0 : 0 ≤ n) (h9 : n ≤ 9) : (wordN n).size = 3 := by
  have h : n.toNat < 10 := by omega
  have e : (n + 1).toNat = n.toNat + 1 := by omega
  unfold wordN
  rw [e]
  have : ∀ j : Fin 10, ((⟨#[48, 49, 50, 51, 52, 53, 54, 55, 56, 57]⟩ : ByteArray).extract j.val (j.val + 1) ++ (⟨#[112, 120]⟩ : ByteArray)).size = 3 := by decide +kernel
  exact this ⟨n.toNat, h⟩
theorem sh_sz (m : Nat) (f : Nat → Int) : ∀ k, (∀ j, j < k → 0 ≤ f j ∧ f j ≤ 9) → (shN m f k).size ≤ 7 + 4 * k
  | 0, _ => by simp [shN, ByteArray.size]
  | k + 1, h => by
    have ih := sh_sz m f k (fun j hj => h j (by omega))
    have hw := word_sz (h k (by omega)).1 (h k (by omega)).2
    rw [shN]
    split
    · simp only [ByteArray.size_append, hw]
      have : ByteArray.size ⟨#[32]⟩ = 1 := rfl
      omega
    · omega
theorem side_sz (j : Nat) : (sideN j).size ≤ 6 := by
  unfold sideN
  repeat (first | (split; exact by decide) | exact by decide)
theorem wh_lt (m j : Nat) : whN m j < 4 := by
  unfold whN
  repeat (first | (split; · decide) | split | decide)
theorem lo_sz (m : Nat) (f : Nat → Int) (e : ByteArray) (he : e.size ≤ 11) (h : ∀ j, j < 4 → 0 ≤ f j ∧ f j ≤ 9) : ∀ k, (loN m f e k).size ≤ 40 * k
  | 0 => by simp [loN, ByteArray.size]
  | k + 1 => by
    have ih := lo_sz m f e he h k
    have hw := word_sz (h _ (wh_lt m k)).1 (h _ (wh_lt m k)).2
    have hs := side_sz k
    have l1 : ByteArray.size ⟨#[109, 97, 114, 103, 105, 110, 45]⟩ = 7 := rfl
    have l2 : ByteArray.size ⟨#[58, 32]⟩ = 2 := rfl
    have l3 : ByteArray.size ⟨#[59]⟩ = 1 := rfl
    rw [loN]
    unfold partN
    simp only [ByteArray.size_append, hw, l1, l2, l3]
    omega
end Go.Proofs.Sht
set_option linter.unusedVariables false
set_option linter.unusedSimpArgs false
namespace Go.Proofs.YtolfpgccebdlpaaGreatDoor.Shw
open Go.RowKit Go.Lib Go.Proofs.Sht Go.Proofs.YtolfpgccebdlpaaGreatDoor.HT Go.Proofs.YtolfpgccebdlpaaGreatDoorW.PrintWords Go.Proofs.YtolfpgccebdlpaaGreatDoorW.PrintLast Go.Proofs.YtolfpgccebdlpaaGreatDoorW.PrintMore
theorem cell_nv {w : World} {b : Nat} {n0 n1 n2 n3 : Int} (h : w.heap[b]? = some (.cells #[.int .i64 n0, .int .i64 n1, .int .i64 n2, .int .i64 n3] 73 (0, 0))) (k : Nat) (hk : k < 4) : w.cell? ⟨b, k, none⟩ = some (.int .i64 (nv n0 n1 n2 n3 k)) := by
 refine (blk_cell h k).trans ?_
 have : k = 0 ∨ k = 1 ∨ k = 2 ∨ k = 3 := by omega
 rcases this with rfl | rfl | rfl | rfl <;> rfl
theorem cell_tc {w : World} {g : Nat} {f : Nat → Int} {m : Nat} (h : w.heap[g]? = some (.cells (tc f m) 74 (0, 0))) (k : Nat) (hk : k < 4) : w.cell? ⟨g, k, none⟩ = some (.string (tx f m k)) := by
 refine (blk_cell h k).trans ?_
 have : k = 0 ∨ k = 1 ∨ k = 2 ∨ k = 3 := by omega
 rcases this with rfl | rfl | rfl | rfl <;> rfl
theorem tc_next (f : Nat → Int) (k : Nat) (hk : k < 4) : (tc f k).setIfInBounds k (.string (wordN (f k))) = tc f (k + 1) := by
 have : k = 0 ∨ k = 1 ∨ k = 2 ∨ k = 3 := by omega
 rcases this with rfl | rfl | rfl | rfl <;> simp [tc, tx]
theorem bt : Tryz.prog.built 75 [(0, .agg #[.int .i64 0, .int .i64 0, .int .i64 0, .int .i64 0]), (1, .agg #[.int .i64 0, .int .i64 1, .int .i64 0, .int .i64 1]), (2, .agg #[.int .i64 0, .int .i64 1, .int .i64 2, .int .i64 1]), (3, .agg #[.int .i64 0, .int .i64 1, .int .i64 2, .int .i64 3])] = some #[.int .i64 0, .int .i64 0, .int .i64 0, .int .i64 0, .int .i64 0, .int .i64 1, .int .i64 0, .int .i64 1, .int .i64 0, .int .i64 1, .int .i64 2, .int .i64 1, .int .i64 0, .int .i64 1, .int .i64 2, .int .i64 3] := by kernel_rfl
theorem bt0 : Tryz.prog.built 73 [(0, .int .i64 0), (1, .int .i64 0), (2, .int .i64 0), (3, .int .i64 0)] = some #[.int .i64 0, .int .i64 0, .int .i64 0, .int .i64 0] := by kernel_rfl
theorem bt1 : Tryz.prog.built 73 [(0, .int .i64 0), (1, .int .i64 1), (2, .int .i64 0), (3, .int .i64 1)] = some #[.int .i64 0, .int .i64 1, .int .i64 0, .int .i64 1] := by kernel_rfl
theorem bt2 : Tryz.prog.built 73 [(0, .int .i64 0), (1, .int .i64 1), (2, .int .i64 2), (3, .int .i64 1)] = some #[.int .i64 0, .int .i64 1, .int .i64 2, .int .i64 1] := by kernel_rfl
theorem bt3 : Tryz.prog.built 73 [(0, .int .i64 0), (1, .int .i64 1), (2, .int .i64 2), (3, .int .i64 3)] = some #[.int .i64 0, .int .i64 1, .int .i64 2, .int .i64 3] := by kernel_rfl
end Go.Proofs.YtolfpgccebdlpaaGreatDoor.Shw
