-- Written by a program of this session (wip/tools/hprint.py), which drives the kit's print; not print.sh's own output.
import Derived.Test.YtolfpgccebdlpaaGreatDoorHT0
namespace Go.Proofs.YtolfpgccebdlpaaGreatDoor.HT
open Go.RowKit Go.Proofs.YtolfpgccebdlpaaGreatDoorW.PrintWords Go.Proofs.YtolfpgccebdlpaaGreatDoorW.PrintLast Go.Proofs.YtolfpgccebdlpaaGreatDoorW.PrintMore
attribute [local go_sem] max2_int min2_int max_two min_two max_three min_three max_four min_four   -- for this text's walks alone
set_option linter.unusedVariables false
set_option linter.unusedSimpArgs false

/-! ### selector_simple: function 42 -/
mutual
def selector_simple.j0 : Nat → List ByteArray → ByteArray → Bool → Bool → Option (ByteArray × List ByteArray × List ByteArray × Bool × Bool × Bool)
 | 0, _, _, _, _ => none
 | k + 1, x5, x110000, x110003, x110004 => selector_simple.l0 k 0 x5 (x5.length : Int) 0 x110000 ([] : List ByteArray) ([] : List ByteArray) x110003 x110004
def selector_simple.l0 : Nat → Int → List ByteArray → Int → Int → ByteArray → List ByteArray → List ByteArray → Bool → Bool → Option (ByteArray × List ByteArray × List ByteArray × Bool × Bool × Bool)
 | 0, _, _, _, _, _, _, _, _, _ => none
 | k + 1, x6, x29, x30, x31, x110000, x110001, x110002, x110003, x110004 => if x31 < x30 then (if 0 ≤ x31 then (if x31 < (x29.length : Int) then (if 1 ≤ ((rdOf ByteArray.empty x29 x31).size : Int) then (if (rdOf ByteArray.empty x29 x31).toList = ([58, 108, 105, 110, 107] : List UInt8) then (selector_simple.l0 k (wrap64 (x6 + 1)) x29 x30 (wrap64 (x31 + 1)) x110000 x110001 x110002 true x110004) else (if (rdOf ByteArray.empty x29 x31).toList = ([58, 118, 105, 115, 105, 116, 101, 100] : List UInt8) then (selector_simple.l0 k (wrap64 (x6 + 1)) x29 x30 (wrap64 (x31 + 1)) x110000 x110001 x110002 x110003 true) else (if 0 < ((rdOf ByteArray.empty x29 x31).size : Int) then (if (bt (rdOf ByteArray.empty x29 x31) 0) = 35 then (if x110001.length < 8796093022208 then (selector_simple.l0 k (wrap64 (x6 + 1)) x29 x30 (wrap64 (x31 + 1)) x110000 (x110001 ++ [(rdOf ByteArray.empty x29 x31).extract 1 (rdOf ByteArray.empty x29 x31).size]) x110002 x110003 x110004) else (none)) else (if (bt (rdOf ByteArray.empty x29 x31) 0) = 46 then (if x110002.length < 8796093022208 then (selector_simple.l0 k (wrap64 (x6 + 1)) x29 x30 (wrap64 (x31 + 1)) x110000 x110001 (x110002 ++ [(rdOf ByteArray.empty x29 x31).extract 1 (rdOf ByteArray.empty x29 x31).size]) x110003 x110004) else (none)) else (some ((⟨#[]⟩ : ByteArray), ([] : List ByteArray), ([] : List ByteArray), false, false, false)))) else (none)))) else (none)) else (none)) else (none)) else (if x6 ≤ 8 then ((selector_Simple_may.f x110000 x110001 x110002 x110003 x110004).bind fun t122 => (some (x110000, x110001, x110002, x110003, x110004, t122))) else (some (x110000, x110001, x110002, x110003, x110004, false)))
end
def selector_simple.f (k : Nat) (a0 : ByteArray) : Option (ByteArray × List ByteArray × List ByteArray × Bool × Bool × Bool) := if a0.toList = ([] : List UInt8) then (some ((⟨#[]⟩ : ByteArray), ([] : List ByteArray), ([] : List ByteArray), false, false, false)) else ((selector_marked.f k a0).bind fun t110 => (if 0 < (a0.size : Int) then ((strings_IndexByte.f (⟨#[35, 46, 58]⟩ : ByteArray) (bt a0 0)).bind fun t113 => (if t113 < 0 then (if 0 < (t110.length : Int) then (if (rdOf ByteArray.empty t110 0).toList = ([42] : List UInt8) then (if 1 ≤ (t110.length : Int) then (selector_simple.j0 k (t110.drop (1 : Int).toNat) (⟨#[]⟩ : ByteArray) false false) else (none)) else (if 1 ≤ (t110.length : Int) then (selector_simple.j0 k (t110.drop (1 : Int).toNat) (rdOf ByteArray.empty t110 0) false false) else (none))) else (none)) else (selector_simple.j0 k t110 (⟨#[]⟩ : ByteArray) false false))) else (none)))
theorem selector_simple.mono_l : ∀ k, (∀ y0 y1 y2 y3, LeO (selector_simple.j0 k y0 y1 y2 y3) (selector_simple.j0 (k + 1) y0 y1 y2 y3)) ∧ (∀ y0 y1 y2 y3 y4 y5 y6 y7 y8, LeO (selector_simple.l0 k y0 y1 y2 y3 y4 y5 y6 y7 y8) (selector_simple.l0 (k + 1) y0 y1 y2 y3 y4 y5 y6 y7 y8))
 | 0 => ⟨fun _ _ _ _ r h => by simp [selector_simple.j0] at h, fun _ _ _ _ _ _ _ _ _ r h => by simp [selector_simple.l0] at h⟩
 | k + 1 => by
  obtain ⟨ih0, ih1⟩ := selector_simple.mono_l k
  refine ⟨?_, ?_⟩
  ·intro y0 y1 y2 y3
   unfold selector_simple.j0
   repeat' first
   | (with_reducible exact ih0 _ _ _ _)
   | (with_reducible exact ih1 _ _ _ _ _ _ _ _ _)
   | (with_reducible exact selector_marked.mono _ _)
   | (with_reducible exact LeO.refl _)
   | (with_reducible exact LeO.none _)
   | (with_reducible refine LeO.ite ?_ ?_)
   | (with_reducible refine LeO.bind ?_ (fun _ => ?_))
   | exact ih0 _ _ _ _
   | exact ih1 _ _ _ _ _ _ _ _ _
   | exact selector_marked.mono _ _
   | exact LeO.none _
   | refine LeO.ite ?_ ?_
   | refine LeO.bind ?_ (fun _ => ?_)
  ·intro y0 y1 y2 y3 y4 y5 y6 y7 y8
   unfold selector_simple.l0
   repeat' first
   | (with_reducible exact ih0 _ _ _ _)
   | (with_reducible exact ih1 _ _ _ _ _ _ _ _ _)
   | (with_reducible exact selector_marked.mono _ _)
   | (with_reducible exact LeO.refl _)
   | (with_reducible exact LeO.none _)
   | (with_reducible refine LeO.ite ?_ ?_)
   | (with_reducible refine LeO.bind ?_ (fun _ => ?_))
   | exact ih0 _ _ _ _
   | exact ih1 _ _ _ _ _ _ _ _ _
   | exact selector_marked.mono _ _
   | exact LeO.none _
   | refine LeO.ite ?_ ?_
   | refine LeO.bind ?_ (fun _ => ?_)
theorem selector_simple.mono : ∀ a0 k, LeO (selector_simple.f k a0) (selector_simple.f (k + 1) a0) := by
 intro a0 k
 obtain ⟨ih0, ih1⟩ := selector_simple.mono_l k
 unfold selector_simple.f
 repeat' first
   | (with_reducible exact ih0 _ _ _ _)
   | (with_reducible exact ih1 _ _ _ _ _ _ _ _ _)
   | (with_reducible exact selector_marked.mono _ _)
   | (with_reducible exact LeO.refl _)
   | (with_reducible exact LeO.none _)
   | (with_reducible refine LeO.ite ?_ ?_)
   | (with_reducible refine LeO.bind ?_ (fun _ => ?_))
   | exact ih0 _ _ _ _
   | exact ih1 _ _ _ _ _ _ _ _ _
   | exact selector_marked.mono _ _
   | exact LeO.none _
   | refine LeO.ite ?_ ?_
   | refine LeO.bind ?_ (fun _ => ?_)
def selector_simple.T25 : Bool × List (List Nat × List Nat) := (true, [([], []), ([], []), ([1], [1]), ([2], [2]), ([3], [3]), ([4, 3, 3], [3, 4]), ([3, 5], [3, 5]), ([0, 5, 0], [0]), ([6, 7, 0, 1, 2, 3, 4, 5, 6, 7], [6])])
def selector_simple.B25 : List Nat := [0, 0, 2, 6, 14, 30, 62, 63, 255]
theorem selector_simple.tab25 : rtab .any (opsOf Tryz.f42 25) = selector_simple.T25 := by kernel_rfl
theorem selector_simple.bits25 : waitsOk selector_simple.T25.2 selector_simple.B25 = true := by kernel_rfl
set_option maxHeartbeats 8000000 in
set_option maxRecDepth 100000 in
theorem selector_simple.calls (k : Nat) (a0 : ByteArray) (r1 : ByteArray) (r2 : List ByteArray) (r3 : List ByteArray) (r4 : Bool) (r5 : Bool) (r6 : Bool) (w : World) (h : selector_simple.f k a0 = some (r1, r2, r3, r4, r5, r6)) :
  Calls Tryz.prog 42 #[.string a0] w fun e w' => ∃ v1_ v2_ : Value, e = .returned (.tuple #[.agg #[.string r1, v1_, v2_, .bool r4, .bool r5], .bool r6]) ∧ Kd.R Kd.string 9 w' w.heap.size (fun k_ => some k_ ≠ (v2_ : Value).ownBlock) v1_ r2 ∧ Kd.R Kd.string 9 w' w.heap.size (fun k_ => some k_ ≠ (v1_ : Value).ownBlock) v2_ r3 ∧ Below w.heap.size w w' := by
 have hu80 := Tryz.underlying80
 have HB := Aside0.mk (Below.refl w.heap.size w)
 have H : (if a0.toList = ([] : List UInt8) then (some ((⟨#[]⟩ : ByteArray), ([] : List ByteArray), ([] : List ByteArray), false, false, false)) else ((selector_marked.f k a0).bind fun t110 => (if 0 < (a0.size : Int) then ((strings_IndexByte.f (⟨#[35, 46, 58]⟩ : ByteArray) (bt a0 0)).bind fun t113 => (if t113 < 0 then (if 0 < (t110.length : Int) then (if (rdOf ByteArray.empty t110 0).toList = ([42] : List UInt8) then (if 1 ≤ (t110.length : Int) then (selector_simple.j0 k (t110.drop (1 : Int).toNat) (⟨#[]⟩ : ByteArray) false false) else (none)) else (if 1 ≤ (t110.length : Int) then (selector_simple.j0 k (t110.drop (1 : Int).toNat) (rdOf ByteArray.empty t110 0) false false) else (none))) else (none)) else (selector_simple.j0 k t110 (⟨#[]⟩ : ByteArray) false false))) else (none)))) = some (r1, r2, r3, r4, r5, r6) := h
 clear h
 by_cases c2 : a0.toList = ([] : List UInt8)
 ·rw [if_pos c2] at H
  have c2b0 : (a0.toList == ([] : List UInt8)) = true := beq_iff_eq.mpr c2
  have c2b1 : (a0.toList != ([] : List UInt8)) = false := bne_eq_false_iff_eq.mpr c2
  clear c2
  simp only [Option.some.injEq, Prod.mk.injEq] at H
  obtain ⟨rfl, rfl, rfl, rfl, rfl, rfl⟩ := H
  go_enter Tryz.func42, Tryz.ntmps42
  go_wp2_with (first | ((with_reducible refine gate_dst (N := 2) rfl ?_); refine box_event ?hg (N := 2) ?hd (cs := #[.string (⟨#[]⟩ : ByteArray), .slice none 0 0, .slice none 0 0, .bool false, .bool false]) (t := 80) ?hr ?_; (case hd => rfl); (case hg => rfl); (case hr => first | (go_simp; done)); intro gb108 hg w3 hbox hb; have n0_ := Aside0.mk (below_step HB.out hb); have n1_ := Aside0.mk (hbox); have n2_ := Aside0.mk ((by rw [hg]; exact (below_size HB.out) : w.heap.size ≤ gb108)); have n3_ := Aside0.mk ((by rw [hg]; exact (below_size HB.out) : w.heap.size ≤ gb108)); clear HB; have HB := n0_; have BK108 := n1_; have GW108 := n2_; have GE108 := n3_; clear n0_ n1_ n2_ n3_; clear hb hbox hg) | ((with_reducible refine gate_dst (N := 4) rfl ?_); refine box_event ?hg (N := 4) ?hd (cs := #[.string (⟨#[]⟩ : ByteArray), .slice none 0 0, .slice none 0 0, .bool false, .bool false]) (t := 80) ?hr ?_; (case hd => rfl); (case hg => rfl); (case hr => first | (go_simp; done)); intro gb109 hg w4 hbox hb; have n0_ := Aside0.mk (blk_below (g := gb108) (o := .cells #[.string (⟨#[]⟩ : ByteArray), .slice none 0 0, .slice none 0 0, .bool false, .bool false] 80 (0, 0)) BK108.out hb); have n1_ := Aside0.mk (below_step HB.out hb); have n2_ := Aside0.mk (hbox); have n3_ := Aside0.mk ((by rw [hg]; exact (below_size HB.out) : w.heap.size ≤ gb109)); have n4_ := Aside0.mk ((by rw [hg]; exact (below_size HB.out) : w.heap.size ≤ gb109)); have n5_ := Aside0.mk ((by rw [hg]; exact Nat.ne_of_lt (blk_lt (g := gb108) (o := .cells #[.string (⟨#[]⟩ : ByteArray), .slice none 0 0, .slice none 0 0, .bool false, .bool false] 80 (0, 0)) BK108.out) : gb108 ≠ gb109)); have n6_ := Aside0.mk ((by rw [hg]; exact Nat.ne_of_gt (blk_lt (g := gb108) (o := .cells #[.string (⟨#[]⟩ : ByteArray), .slice none 0 0, .slice none 0 0, .bool false, .bool false] 80 (0, 0)) BK108.out) : gb109 ≠ gb108)); clear BK108; clear HB; have BK108 := n0_; have HB := n1_; have BK109 := n2_; have GW109 := n3_; have GE109 := n4_; have NB108_109 := n5_; have NB109_108 := n6_; clear n0_ n1_ n2_ n3_ n4_ n5_ n6_; clear hb hbox hg; have hnb5 := NB109_108.out; have hnc5 := NB108_109.out; have hcz6_0 : w4.cell? ⟨gb109, 0, none⟩ = some (.string (⟨#[]⟩ : ByteArray)) := (blk_cell BK109.out 0).trans rfl; have hcz6_1 : w4.cell? ⟨gb109, 1, none⟩ = some (.slice none 0 0) := (blk_cell BK109.out 1).trans rfl; have hcz6_2 : w4.cell? ⟨gb109, 2, none⟩ = some (.slice none 0 0) := (blk_cell BK109.out 2).trans rfl; have hcz6_3 : w4.cell? ⟨gb109, 3, none⟩ = some (.bool false) := (blk_cell BK109.out 3).trans rfl; have hcz6_4 : w4.cell? ⟨gb109, 4, none⟩ = some (.bool false) := (blk_cell BK109.out 4).trans rfl; have hfz6_0 := blk_frozen BK109.out 0; have hfz6_1 := blk_frozen BK109.out 1; have hfz6_2 := blk_frozen BK109.out 2; have hfz6_3 := blk_frozen BK109.out 3; have hfz6_4 := blk_frozen BK109.out 4; have hcz7_0 : w4.cell? ⟨gb108, 0, none⟩ = some (.string (⟨#[]⟩ : ByteArray)) := (blk_cell BK108.out 0).trans rfl; have hcz7_1 : w4.cell? ⟨gb108, 1, none⟩ = some (.slice none 0 0) := (blk_cell BK108.out 1).trans rfl; have hcz7_2 : w4.cell? ⟨gb108, 2, none⟩ = some (.slice none 0 0) := (blk_cell BK108.out 2).trans rfl; have hcz7_3 : w4.cell? ⟨gb108, 3, none⟩ = some (.bool false) := (blk_cell BK108.out 3).trans rfl; have hcz7_4 : w4.cell? ⟨gb108, 4, none⟩ = some (.bool false) := (blk_cell BK108.out 4).trans rfl; have hfz7_0 := blk_frozen BK108.out 0; have hfz7_1 := blk_frozen BK108.out 1; have hfz7_2 := blk_frozen BK108.out 2; have hfz7_3 := blk_frozen BK108.out 3; have hfz7_4 := blk_frozen BK108.out 4))
  refine bodyPost_ret (results_ct rfl _ _ gb108 80 #[.string (⟨#[]⟩ : ByteArray), .slice none 0 0, .slice none 0 0, .bool false, .bool false] (0, 0) _ rfl (by refine blk_put (cs := #[.string (⟨#[]⟩ : ByteArray), .slice none 0 0, .slice none 0 0, .bool false, .bool false]) ?_ 4 _ rfl; refine blk_put (cs := #[.string (⟨#[]⟩ : ByteArray), .slice none 0 0, .slice none 0 0, .bool false, .bool false]) ?_ 3 _ rfl; refine blk_put (cs := #[.string (⟨#[]⟩ : ByteArray), .slice none 0 0, .slice none 0 0, .bool false, .bool false]) ?_ 2 _ rfl; refine blk_put (cs := #[.string (⟨#[]⟩ : ByteArray), .slice none 0 0, .slice none 0 0, .bool false, .bool false]) ?_ 1 _ rfl; refine blk_put (cs := #[.string (⟨#[]⟩ : ByteArray), .slice none 0 0, .slice none 0 0, .bool false, .bool false]) ?_ 0 _ rfl; exact BK108.out) Tryz.underlying80 rfl (by kernel_rfl)) rfl ?_
  exact ⟨_, _, by first | rfl, by exact Kd.R_nil _ _ _ _ _, by exact Kd.R_nil _ _ _ _ _, by repeat (with_reducible first | exact HB.out | refine below_set ?_ GE108.out)⟩
 ·rw [if_neg c2] at H
  have c2b0 : (a0.toList == ([] : List UInt8)) = false := beq_eq_false_iff_ne.mpr c2
  have c2b1 : (a0.toList != ([] : List UInt8)) = true := bne_iff_ne.mpr c2
  replace H := Option.bind_eq_some_iff.mp H
  obtain ⟨t110, A80, H⟩ := H
  replace H : (if 0 < (a0.size : Int) then ((strings_IndexByte.f (⟨#[35, 46, 58]⟩ : ByteArray) (bt a0 0)).bind fun t113 => (if t113 < 0 then (if 0 < (t110.length : Int) then (if (rdOf ByteArray.empty t110 0).toList = ([42] : List UInt8) then (if 1 ≤ (t110.length : Int) then (selector_simple.j0 k (t110.drop (1 : Int).toNat) (⟨#[]⟩ : ByteArray) false false) else (none)) else (if 1 ≤ (t110.length : Int) then (selector_simple.j0 k (t110.drop (1 : Int).toNat) (rdOf ByteArray.empty t110 0) false false) else (none))) else (none)) else (selector_simple.j0 k t110 (⟨#[]⟩ : ByteArray) false false))) else (none)) = some (r1, r2, r3, r4, r5, r6) := H
  have A8 := Aside0.mk A80
  clear A80
  by_cases c9 : 0 < (a0.size : Int)
  ·rw [if_pos c9] at H
   have c9b0 : decide (0 < (a0.size : Int)) = true := decide_eq_true c9
   have c9b1 : decide (0 < a0.size) = true := decide_eq_true (by omega)
   clear c9
   replace H := Option.bind_eq_some_iff.mp H
   obtain ⟨t113, A110, H⟩ := H
   replace H : (if t113 < 0 then (if 0 < (t110.length : Int) then (if (rdOf ByteArray.empty t110 0).toList = ([42] : List UInt8) then (if 1 ≤ (t110.length : Int) then (selector_simple.j0 k (t110.drop (1 : Int).toNat) (⟨#[]⟩ : ByteArray) false false) else (none)) else (if 1 ≤ (t110.length : Int) then (selector_simple.j0 k (t110.drop (1 : Int).toNat) (rdOf ByteArray.empty t110 0) false false) else (none))) else (none)) else (selector_simple.j0 k t110 (⟨#[]⟩ : ByteArray) false false)) = some (r1, r2, r3, r4, r5, r6) := H
   have A11 := Aside0.mk A110
   clear A110
   have HC12 := Aside0.mk H
   clear H
   go_enter Tryz.func42, Tryz.ntmps42
   go_upto_if 18 with (first | ((with_reducible refine gate_dst (N := 2) rfl ?_); refine box_event ?hg (N := 2) ?hd (cs := #[.string (⟨#[]⟩ : ByteArray), .slice none 0 0, .slice none 0 0, .bool false, .bool false]) (t := 80) ?hr ?_; (case hd => rfl); (case hg => rfl); (case hr => first | (go_simp; done)); intro gb108 hg w13 hbox hb; have n0_ := Aside0.mk (below_step HB.out hb); have n1_ := Aside0.mk (hbox); have n2_ := Aside0.mk ((by rw [hg]; exact (below_size HB.out) : w.heap.size ≤ gb108)); have n3_ := Aside0.mk ((by rw [hg]; exact (below_size HB.out) : w.heap.size ≤ gb108)); clear HB; have HB := n0_; have BK108 := n1_; have GW108 := n2_; have GE108 := n3_; clear n0_ n1_ n2_ n3_; clear hb hbox hg) | ((with_reducible refine gate_dst (N := 4) rfl ?_); refine box_event ?hg (N := 4) ?hd (cs := #[.string (⟨#[]⟩ : ByteArray), .slice none 0 0, .slice none 0 0, .bool false, .bool false]) (t := 80) ?hr ?_; (case hd => rfl); (case hg => rfl); (case hr => first | (go_simp; done)); intro gb109 hg w14 hbox hb; have n0_ := Aside0.mk (blk_below (g := gb108) (o := .cells #[.string (⟨#[]⟩ : ByteArray), .slice none 0 0, .slice none 0 0, .bool false, .bool false] 80 (0, 0)) BK108.out hb); have n1_ := Aside0.mk (below_step HB.out hb); have n2_ := Aside0.mk (hbox); have n3_ := Aside0.mk ((by rw [hg]; exact (below_size HB.out) : w.heap.size ≤ gb109)); have n4_ := Aside0.mk ((by rw [hg]; exact (below_size HB.out) : w.heap.size ≤ gb109)); have n5_ := Aside0.mk ((by rw [hg]; exact Nat.ne_of_lt (blk_lt (g := gb108) (o := .cells #[.string (⟨#[]⟩ : ByteArray), .slice none 0 0, .slice none 0 0, .bool false, .bool false] 80 (0, 0)) BK108.out) : gb108 ≠ gb109)); have n6_ := Aside0.mk ((by rw [hg]; exact Nat.ne_of_gt (blk_lt (g := gb108) (o := .cells #[.string (⟨#[]⟩ : ByteArray), .slice none 0 0, .slice none 0 0, .bool false, .bool false] 80 (0, 0)) BK108.out) : gb109 ≠ gb108)); clear BK108; clear HB; have BK108 := n0_; have HB := n1_; have BK109 := n2_; have GW109 := n3_; have GE109 := n4_; have NB108_109 := n5_; have NB109_108 := n6_; clear n0_ n1_ n2_ n3_ n4_ n5_ n6_; clear hb hbox hg) | ((with_reducible refine gate_callee (f := 86) rfl ?_); refine goesL_ (some 14) rfl rfl Tryz.func86 (by kernel_rfl) rfl #[.string a0] rfl (by (try simp only [List.map_toArray, List.map_cons, List.map_nil]); first | rfl) ?_; (with_reducible refine (selector_marked.calls k a0 t110 _ A8.out).mono ?_); rintro e w15 ⟨v111, rfl, ho0, hb⟩; refine ⟨_, rfl, ?_⟩; have n0_ := Aside0.mk (Kd.R_lower ho0 (below_size HB.out)); have n1_ := Aside0.mk (blk_below (g := gb108) (o := .cells #[.string (⟨#[]⟩ : ByteArray), .slice none 0 0, .slice none 0 0, .bool false, .bool false] 80 (0, 0)) BK108.out hb); have n2_ := Aside0.mk (blk_below (g := gb109) (o := .cells #[.string (⟨#[]⟩ : ByteArray), .slice none 0 0, .slice none 0 0, .bool false, .bool false] 80 (0, 0)) BK109.out hb); have n3_ := Aside0.mk (below_step HB.out hb); clear BK108; clear BK109; clear HB; have HO112 := n0_; have BK108 := n1_; have BK109 := n2_; have HB := n3_; clear n0_ n1_ n2_ n3_; (try clear hb); (try clear hb2); (try clear hk); (try clear hi); (try clear ho0); have p10 : 0 ≤ (0 : Int) := (by omega); have q10 : 0 < a0.size := (by have : (0 : Int) < (a0.size : Int) := of_decide_eq_true (by first | (with_reducible assumption)); omega); have hx10 : ∀ h : 0 < a0.size, ((a0[0]'h).toNat : Int) = bt a0 0 := bt_at a0 0; clear p10; have qi10 : (0 < (a0.size : Int)) = True := eq_true (of_decide_eq_true (by first | (with_reducible assumption))); replace q10 := eq_true q10) | ((with_reducible refine gate_callee (f := 87) rfl ?_); refine goesL_ (some 17) rfl rfl Tryz.func87 (by kernel_rfl) rfl #[.string (⟨#[35, 46, 58]⟩ : ByteArray), .int .u8 (bt a0 0)] rfl (by (try simp only [List.map_toArray, List.map_cons, List.map_nil]); first | rfl) ?_; (with_reducible refine (strings_IndexByte.calls (⟨#[35, 46, 58]⟩ : ByteArray) (bt a0 0) t113 _ A11.out).mono ?_); rintro e w16 ⟨rfl, hb⟩; refine ⟨_, rfl, ?_⟩; have n0_ := Aside0.mk (Kd.R_below HO112.out hb); have n1_ := Aside0.mk (blk_below (g := gb108) (o := .cells #[.string (⟨#[]⟩ : ByteArray), .slice none 0 0, .slice none 0 0, .bool false, .bool false] 80 (0, 0)) BK108.out hb); have n2_ := Aside0.mk (blk_below (g := gb109) (o := .cells #[.string (⟨#[]⟩ : ByteArray), .slice none 0 0, .slice none 0 0, .bool false, .bool false] 80 (0, 0)) BK109.out hb); have n3_ := Aside0.mk (below_step HB.out hb); clear HO112; clear BK108; clear BK109; clear HB; have HO112 := n0_; have BK108 := n1_; have BK109 := n2_; have HB := n3_; clear n0_ n1_ n2_ n3_; (try clear hb); (try clear hb2); (try clear hk); (try clear hi)))
   (try simp only [Act.put, List.setIfInBounds_toArray, List.set_cons_zero, List.set_cons_succ])
   go_cut [5] (fun v5 wc => ∃ (kq : Nat) (x5_11 : List ByteArray) (x110000_11 : ByteArray), Aside0 (selector_simple.j0 kq x5_11 x110000_11 false false = some (r1, r2, r3, r4, r5, r6)) ∧ Aside0 (kq ≤ k) ∧ Aside0 (Kd.Q Kd.string 9 wc w.heap.size (fun _ => True) v5 x5_11) ∧ Aside0 (wc.heap[gb108]? = some (.cells #[.string (⟨#[]⟩ : ByteArray), (.slice none 0 0), (.slice none 0 0), .bool false, .bool false] 80 (0, 0))) ∧ Aside0 (wc.heap[gb109]? = some (.cells #[.string x110000_11, (.slice none 0 0), (.slice none 0 0), .bool false, .bool false] 80 (0, 0))) ∧ Aside0 (Below w.heap.size w wc))
   case first =>
    have H := HC12.out
    clear HC12
    by_cases c17 : t113 < 0
    ·rw [if_pos c17] at H
     have c17b0 : decide (t113 < 0) = true := decide_eq_true c17
     clear c17
     (first | rw [c17b0])
     by_cases c18 : 0 < (t110.length : Int)
     ·rw [if_pos c18] at H
      have c18b0 : decide (0 < (t110.length : Int)) = true := decide_eq_true c18
      have c18b1 : decide (0 < t110.length) = true := decide_eq_true (by omega)
      clear c18
      by_cases c19 : (rdOf ByteArray.empty t110 0).toList = ([42] : List UInt8)
      ·rw [if_pos c19] at H
       have c19b0 : ((rdOf ByteArray.empty t110 0).toList == ([42] : List UInt8)) = true := beq_iff_eq.mpr c19
       have c19b1 : ((rdOf ByteArray.empty t110 0).toList != ([42] : List UInt8)) = false := bne_eq_false_iff_eq.mpr c19
       clear c19
       by_cases c20 : 1 ≤ (t110.length : Int)
       ·rw [if_pos c20] at H
        have c20b0 := eq_true c20
        have c20b1 : decide (1 ≤ (t110.length : Int)) = true := decide_eq_true c20
        clear c20
        obtain ⟨y115, hy115⟩ : ∃ y_ : List ByteArray, y_ = (t110.drop (1 : Int).toNat) := ⟨_, rfl⟩
        replace H : (selector_simple.j0 k y115 (⟨#[]⟩ : ByteArray) false false) = some (r1, r2, r3, r4, r5, r6) := by first | (rw [hy115]; with_reducible exact H)
        have Ny115 := Aside0.mk hy115
        clear hy115
        have H' := Aside0.mk H
        clear H
        obtain ⟨Ao21, co21, eo21⟩ := Kd.R_slice HO112.out
        subst eo21
        have p114 : 0 ≤ (0 : Int) := (by omega)
        have q114 : 0 < (t110.length : Int) := of_decide_eq_true (by first | (with_reducible assumption))
        obtain ⟨ad114, e114, hx114_0⟩ := Kd.at_string (Kd.R_reads' HO112.out).2.2 0 p114 q114
        cases e114
        have qi114 : (0 < t110.length) = True := eq_true (by omega)
        (try rw [show ((0 : Int)).toNat = 0 from rfl] at hx114_0)
        (try rw [Addr.add_zero'] at hx114_0)
        replace p114 := eq_true p114
        replace q114 := eq_true q114
        have q22 : (1 : Int) ≤ ((t110.length : Int) : Int) := of_decide_eq_true (by first | (with_reducible assumption))
        obtain ⟨i022, hi022, _, hsz22, _⟩ := info_parts info9
        have hcut22 := cut_from (P := Tryz.prog) 76 9 .i64 Tryz.underlying76 hi022 1 hsz22 (some ad114) t110.length co21 1 (by omega) q22
        have hr22 := Kd.Q_drop (k := (1 : Int).toNat) (Kd.Q_of_R HO112.out) (by omega)
        obtain ⟨A22, hA22⟩ : ∃ A1, A1 = (if co21 = (1 : Int).toNat then (some ad114) else ((some ad114) : Option Addr).map (·.add ((1 : Int).toNat * 1))) := ⟨_, rfl⟩
        obtain ⟨c22, hc22⟩ : ∃ c1, c1 = co21 - (1 : Int).toNat := ⟨_, rfl⟩
        have hy22 : y115.length = t110.length - (1 : Int).toNat := (by rw [Ny115.out, List.length_drop])
        rw [← Ny115.out] at hr22
        rw [← hy22, ← hA22, ← hc22] at hcut22
        replace hr22 : Kd.Q Kd.string 9 w16 w.heap.size (fun _ => True) (.slice A22 y115.length c22) y115 := (by rw [hA22, hc22, hy22]; exact hr22)
        have HE22 : Aside0 ((Value.slice A22 y115.length c22).ownBlock = (.slice (some ad114) t110.length co21 : Value).ownBlock) := ⟨by rw [hA22]; split <;> (cases ((some ad114) : Option Addr) <;> rfl)⟩
        clear hy22 hi022 hsz22 HO112 hA22 hc22
        have HO117 := Aside0.mk hr22
        clear hr22
        replace q22 := eq_true q22
        go_wp2
        go_meet
        case rel => exact ⟨_, (y115), ((⟨#[]⟩ : ByteArray)), H', ⟨by first | omega⟩, ⟨by exact HO117.out⟩, ⟨by exact BK108.out⟩, ⟨by exact BK109.out⟩, ⟨by exact HB.out⟩⟩
       ·rw [if_neg c20] at H
        exact absurd H (by simp)
      ·rw [if_neg c19] at H
       have c19b0 : ((rdOf ByteArray.empty t110 0).toList == ([42] : List UInt8)) = false := beq_eq_false_iff_ne.mpr c19
       have c19b1 : ((rdOf ByteArray.empty t110 0).toList != ([42] : List UInt8)) = true := bne_iff_ne.mpr c19
       by_cases c23 : 1 ≤ (t110.length : Int)
       ·rw [if_pos c23] at H
        have c23b0 := eq_true c23
        have c23b1 : decide (1 ≤ (t110.length : Int)) = true := decide_eq_true c23
        clear c23
        obtain ⟨y119, hy119⟩ : ∃ y_ : List ByteArray, y_ = (t110.drop (1 : Int).toNat) := ⟨_, rfl⟩
        replace H : (selector_simple.j0 k y119 (rdOf ByteArray.empty t110 0) false false) = some (r1, r2, r3, r4, r5, r6) := by first | (rw [hy119]; with_reducible exact H)
        have Ny119 := Aside0.mk hy119
        clear hy119
        have H' := Aside0.mk H
        clear H
        obtain ⟨Ao24, co24, eo24⟩ := Kd.R_slice HO112.out
        subst eo24
        have p114 : 0 ≤ (0 : Int) := (by omega)
        have q114 : 0 < (t110.length : Int) := of_decide_eq_true (by first | (with_reducible assumption))
        obtain ⟨ad114, e114, hx114_0⟩ := Kd.at_string (Kd.R_reads' HO112.out).2.2 0 p114 q114
        cases e114
        have qi114 : (0 < t110.length) = True := eq_true (by omega)
        (try rw [show ((0 : Int)).toNat = 0 from rfl] at hx114_0)
        (try rw [Addr.add_zero'] at hx114_0)
        replace p114 := eq_true p114
        replace q114 := eq_true q114
        have p118 : 0 ≤ (0 : Int) := (by omega)
        have q118 : 0 < (t110.length : Int) := of_decide_eq_true (by first | (with_reducible assumption))
        obtain ⟨ad118, e118, hx118_0⟩ := Kd.at_string (Kd.R_reads' HO112.out).2.2 0 p118 q118
        obtain rfl : ad114 = ad118 := (by injection e118)
        have qi118 : (0 < t110.length) = True := eq_true (by omega)
        (try rw [show ((0 : Int)).toNat = 0 from rfl] at hx118_0)
        (try rw [Addr.add_zero'] at hx118_0)
        replace p118 := eq_true p118
        replace q118 := eq_true q118
        have hnb25 := NB109_108.out
        have hnc25 := NB108_109.out
        have hcz26_0 : w16.cell? ⟨gb109, 0, none⟩ = some (.string (⟨#[]⟩ : ByteArray)) := (blk_cell BK109.out 0).trans rfl
        have hcz26_1 : w16.cell? ⟨gb109, 1, none⟩ = some (.slice none 0 0) := (blk_cell BK109.out 1).trans rfl
        have hcz26_2 : w16.cell? ⟨gb109, 2, none⟩ = some (.slice none 0 0) := (blk_cell BK109.out 2).trans rfl
        have hcz26_3 : w16.cell? ⟨gb109, 3, none⟩ = some (.bool false) := (blk_cell BK109.out 3).trans rfl
        have hcz26_4 : w16.cell? ⟨gb109, 4, none⟩ = some (.bool false) := (blk_cell BK109.out 4).trans rfl
        have hfz26_0 := blk_frozen BK109.out 0
        have hfz26_1 := blk_frozen BK109.out 1
        have hfz26_2 := blk_frozen BK109.out 2
        have hfz26_3 := blk_frozen BK109.out 3
        have hfz26_4 := blk_frozen BK109.out 4
        go_wp2_with (first | ((with_reducible refine gate_store (t := 9) (p := 26) rfl ?_); refine store_event (t := 9) (p := 26) (v := ?vo_w27) (w1 := (w16.setCell ⟨gb109, 0, none⟩ (.string (rdOf ByteArray.empty t110 0)))) ?hg ?ho ?hn ?hr ?_; (case ho => rfl); (case hg => rfl); (case hn => rfl); (case hr => first | (go_simp; done)); intro w27 hw; have n0_ : Aside0 (Kd.R Kd.string 9 w27 w.heap.size (fun _ => True) (.slice (some ad114) t110.length co24) t110) := ⟨(by rw [hw]; exact (by exact Kd.R_mono (Kd.R_far (p := ⟨gb109, 0, none⟩) (Kd.R_types HO112.out BK109.out (by decide)) (fun _ hk => hk.2) (.string (rdOf ByteArray.empty t110 0))) (fun _ hk => trivial)))⟩; have n1_ : Aside0 (w27.heap[gb108]? = some (.cells #[.string (⟨#[]⟩ : ByteArray), .slice none 0 0, .slice none 0 0, .bool false, .bool false] 80 (0, 0))) := ⟨(by rw [hw]; exact (by refine blk_far ?_ NB108_109.out _; exact BK108.out))⟩; have n2_ : Aside0 (w27.heap[gb109]? = some (.cells #[.string (rdOf ByteArray.empty t110 0), .slice none 0 0, .slice none 0 0, .bool false, .bool false] 80 (0, 0))) := ⟨(by rw [hw]; exact (by refine blk_put (cs := #[.string (⟨#[]⟩ : ByteArray), .slice none 0 0, .slice none 0 0, .bool false, .bool false]) ?_ 0 _ rfl; exact BK109.out))⟩; have n3_ : Aside0 (Below w.heap.size w w27) := ⟨(by rw [hw]; exact (by repeat (with_reducible first | exact HB.out | refine below_set ?_ GE109.out)))⟩; clear hw; clear HO112; clear BK108; clear BK109; clear HB; have HO112 := n0_; have BK108 := n1_; have BK109 := n2_; have HB := n3_; clear n0_ n1_ n2_ n3_; have q28 : (1 : Int) ≤ ((t110.length : Int) : Int) := of_decide_eq_true (by first | (with_reducible assumption)); obtain ⟨i028, hi028, _, hsz28, _⟩ := info_parts info9; have hcut28 := cut_from (P := Tryz.prog) 76 9 .i64 Tryz.underlying76 hi028 1 hsz28 (some ad114) t110.length co24 1 (by omega) q28; have hr28 := Kd.Q_drop (k := (1 : Int).toNat) (Kd.Q_of_R HO112.out) (by omega); obtain ⟨A28, hA28⟩ : ∃ A1, A1 = (if co24 = (1 : Int).toNat then (some ad114) else ((some ad114) : Option Addr).map (·.add ((1 : Int).toNat * 1))) := ⟨_, rfl⟩; obtain ⟨c28, hc28⟩ : ∃ c1, c1 = co24 - (1 : Int).toNat := ⟨_, rfl⟩; have hy28 : y119.length = t110.length - (1 : Int).toNat := (by rw [Ny119.out, List.length_drop]); rw [← Ny119.out] at hr28; rw [← hy28, ← hA28, ← hc28] at hcut28; replace hr28 : Kd.Q Kd.string 9 w27 w.heap.size (fun _ => True) (.slice A28 y119.length c28) y119 := (by rw [hA28, hc28, hy28]; exact hr28); have HE28 : Aside0 ((Value.slice A28 y119.length c28).ownBlock = (.slice (some ad114) t110.length co24 : Value).ownBlock) := ⟨by rw [hA28]; split <;> (cases ((some ad114) : Option Addr) <;> rfl)⟩; clear hy28 hi028 hsz28 HO112 hA28 hc28; have HO121 := Aside0.mk hr28; clear hr28; replace q28 := eq_true q28))
        go_meet
        case rel => exact ⟨_, (y119), (rdOf ByteArray.empty t110 0), H', ⟨by first | omega⟩, ⟨by exact HO121.out⟩, ⟨by exact BK108.out⟩, ⟨by exact BK109.out⟩, ⟨by exact HB.out⟩⟩
       ·rw [if_neg c23] at H
        exact absurd H (by simp)
     ·rw [if_neg c18] at H
      exact absurd H (by simp)
    ·rw [if_neg c17] at H
     have c17b0 : decide (t113 < 0) = false := decide_eq_false c17
     clear c17
     (first | rw [c17b0])
     have H' := Aside0.mk H
     clear H
     go_wp2
     go_meet
     case rel => exact ⟨_, (t110), ((⟨#[]⟩ : ByteArray)), H', ⟨by first | omega⟩, ⟨Kd.Q_of_R HO112.out⟩, ⟨by exact BK108.out⟩, ⟨by exact BK109.out⟩, ⟨by exact HB.out⟩⟩
   case rest =>
    clear HC12
    try clear c1
    try clear p1
    try clear q1
    try clear hx1
    try clear qi1
    try clear c2
    try clear c2b0
    try clear c2b1
    try clear p2
    try clear q2
    try clear c4
    try clear c5
    try clear c8
    try clear c9
    try clear c9b0
    try clear c9b1
    try clear p10
    try clear q10
    try clear hx10
    try clear qi10
    try clear p11
    try clear q11
    try clear hx11
    try clear qi11
    try clear c17
    try clear c17b0
    try clear c18
    try clear c18b0
    try clear c18b1
    try clear c19
    try clear c19b0
    try clear c19b1
    try clear c20
    try clear c20b0
    try clear c20b1
    try clear c22
    try clear q22
    try clear c23
    try clear c23b0
    try clear c23b1
    try clear c25
    try clear c28
    try clear q28
    try clear hcz26_0
    try clear hcz26_1
    try clear hcz26_2
    try clear hcz26_3
    try clear hcz26_4
    try clear hcz6_0
    try clear hcz6_1
    try clear hcz6_2
    try clear hcz6_3
    try clear hcz6_4
    try clear hcz7_0
    try clear hcz7_1
    try clear hcz7_2
    try clear hcz7_3
    try clear hcz7_4
    try clear hfz26_0
    try clear hfz26_1
    try clear hfz26_2
    try clear hfz26_3
    try clear hfz26_4
    try clear hfz6_0
    try clear hfz6_1
    try clear hfz6_2
    try clear hfz6_3
    try clear hfz6_4
    try clear hfz7_0
    try clear hfz7_1
    try clear hfz7_2
    try clear hfz7_3
    try clear hfz7_4
    try clear hx114_0
    try clear hx118_0
    try clear p10
    try clear p114
    try clear p118
    try clear q10
    try clear q114
    try clear q118
    try clear q22
    try clear q28
    obtain ⟨kq, x5_11, x110000_11, HA, HJ11, HO_5, BK108, BK109, HB⟩ := hcut
    cases kq with
    | zero => exact absurd HA.out (by simp [selector_simple.j0])
    | succ kj11 =>
     have H := HA.out
     clear HA
     simp only [selector_simple.j0] at H
     have H' := Aside0.mk H
     clear H
     obtain ⟨Ao29, co29, eo29, _⟩ := Kd.Q_slice HO_5.out
     subst eo29
     go_wp2
     go_loopg [6, 31] kj11 (fun kq v6 v31 w' => ∃ (x6_2 : Int) (x31_2 : Int) (x109000_2 : ByteArray) (x109003_2 : Bool) (x109004_2 : Bool) (x110001_2 : List ByteArray) (x110002_2 : List ByteArray) (x110003_2 : Bool) (x110004_2 : Bool) (u110001 : Value) (u110002 : Value), v6 = .int .i64 x6_2 ∧ v31 = .int .i64 x31_2 ∧ Aside0 (selector_simple.l0 kq x6_2 x5_11 (x5_11.length : Int) x31_2 x110000_11 x110001_2 x110002_2 x110003_2 x110004_2 = some (r1, r2, r3, r4, r5, r6)) ∧ Aside0 (kq ≤ kj11) ∧ Aside0 (Kd.Q Kd.string 9 w' w.heap.size (fun k_ => some k_ ≠ (u110001 : Value).ownBlock ∧ some k_ ≠ (u110002 : Value).ownBlock) (.slice Ao29 x5_11.length co29) x5_11) ∧ Aside0 (Kd.R Kd.string 9 w' w.heap.size (fun k_ => some k_ ≠ ((.slice Ao29 x5_11.length co29) : Value).ownBlock ∧ some k_ ≠ (u110002 : Value).ownBlock) u110001 x110001_2) ∧ Aside0 (Kd.R Kd.string 9 w' w.heap.size (fun k_ => some k_ ≠ ((.slice Ao29 x5_11.length co29) : Value).ownBlock ∧ some k_ ≠ (u110001 : Value).ownBlock) u110002 x110002_2) ∧ Aside0 (w'.heap[gb108]? = some (.cells #[.string x109000_2, (.slice none 0 0), (.slice none 0 0), .bool x109003_2, .bool x109004_2] 80 (0, 0))) ∧ Aside0 (w'.heap[gb109]? = some (.cells #[.string x110000_11, u110001, u110002, .bool x110003_2, .bool x110004_2] 80 (0, 0))) ∧ Aside0 (Below w.heap.size w w'))
     case atStart => exact ⟨(0), (0), ((⟨#[]⟩ : ByteArray)), (false), (false), (([] : List ByteArray)), (([] : List ByteArray)), (false), (false), (.slice none 0 0), (.slice none 0 0), (by first | rfl), (by first | rfl), H', ⟨Nat.le_refl _⟩, ⟨by exact Kd.Q_mono HO_5.out (fun _ hk => ⟨(by simp [Value.ownBlock]), (by simp [Value.ownBlock])⟩)⟩, ⟨by exact Kd.R_nil _ _ _ _ _⟩, ⟨by exact Kd.R_nil _ _ _ _ _⟩, ⟨by exact BK108.out⟩, ⟨by exact BK109.out⟩, ⟨by exact HB.out⟩⟩
     case round =>
      clear H'
      try clear c1
      try clear p1
      try clear q1
      try clear hx1
      try clear qi1
      try clear c2
      try clear c2b0
      try clear c2b1
      try clear p2
      try clear q2
      try clear c4
      try clear c5
      try clear c8
      try clear c9
      try clear c9b0
      try clear c9b1
      try clear p10
      try clear q10
      try clear hx10
      try clear qi10
      try clear p11
      try clear q11
      try clear hx11
      try clear qi11
      try clear c17
      try clear c17b0
      try clear c18
      try clear c18b0
      try clear c18b1
      try clear c19
      try clear c19b0
      try clear c19b1
      try clear c20
      try clear c20b0
      try clear c20b1
      try clear c22
      try clear q22
      try clear c23
      try clear c23b0
      try clear c23b1
      try clear c25
      try clear c28
      try clear q28
      try clear hcz26_0
      try clear hcz26_1
      try clear hcz26_2
      try clear hcz26_3
      try clear hcz26_4
      try clear hcz6_0
      try clear hcz6_1
      try clear hcz6_2
      try clear hcz6_3
      try clear hcz6_4
      try clear hcz7_0
      try clear hcz7_1
      try clear hcz7_2
      try clear hcz7_3
      try clear hcz7_4
      try clear hfz26_0
      try clear hfz26_1
      try clear hfz26_2
      try clear hfz26_3
      try clear hfz26_4
      try clear hfz6_0
      try clear hfz6_1
      try clear hfz6_2
      try clear hfz6_3
      try clear hfz6_4
      try clear hfz7_0
      try clear hfz7_1
      try clear hfz7_2
      try clear hfz7_3
      try clear hfz7_4
      try clear hx114_0
      try clear hx118_0
      try clear p1
      try clear p10
      try clear p11
      try clear p114
      try clear p118
      try clear p2
      try clear q1
      try clear q10
      try clear q11
      try clear q114
      try clear q118
      try clear q2
      try clear q22
      try clear q28
      obtain ⟨x6_2, x31_2, x109000_2, x109003_2, x109004_2, x110001_2, x110002_2, x110003_2, x110004_2, u110001, u110002, rfl, rfl, HA, HK2, HO_29, HO_110001, HO_110002, BK108, BK109, HB⟩ := hrel
      cases gk with
      | zero => exact absurd HA.out (by simp [selector_simple.l0])
      | succ k2 =>
       have H := HA.out
       clear HA
       simp only [selector_simple.l0] at H
       by_cases c30 : x31_2 < (x5_11.length : Int)
       ·rw [if_pos c30] at H
        have c30b0 : decide (x31_2 < (x5_11.length : Int)) = true := decide_eq_true c30
        clear c30
        by_cases c31 : 0 ≤ x31_2
        ·rw [if_pos c31] at H
         have c31b0 : decide (0 ≤ x31_2) = true := decide_eq_true c31
         clear c31
         by_cases c32 : x31_2 < (x5_11.length : Int)
         ·rw [if_pos c32] at H
          have c32b0 : decide (x31_2 < (x5_11.length : Int)) = true := decide_eq_true c32
          clear c32
          by_cases c33 : 1 ≤ ((rdOf ByteArray.empty x5_11 x31_2).size : Int)
          ·rw [if_pos c33] at H
           have c33b0 := eq_true c33
           have c33b1 : decide (1 ≤ ((rdOf ByteArray.empty x5_11 x31_2).size : Int)) = true := decide_eq_true c33
           clear c33
           by_cases c34 : (rdOf ByteArray.empty x5_11 x31_2).toList = ([58, 108, 105, 110, 107] : List UInt8)
           ·rw [if_pos c34] at H
            have c34b0 : ((rdOf ByteArray.empty x5_11 x31_2).toList == ([58, 108, 105, 110, 107] : List UInt8)) = true := beq_iff_eq.mpr c34
            have c34b1 : ((rdOf ByteArray.empty x5_11 x31_2).toList != ([58, 108, 105, 110, 107] : List UInt8)) = false := bne_eq_false_iff_eq.mpr c34
            clear c34
            have H' := Aside0.mk H
            clear H
            have p123 : 0 ≤ (x31_2 : Int) := of_decide_eq_true (by first | (with_reducible assumption))
            have q123 : x31_2 < (x5_11.length : Int) := of_decide_eq_true (by first | (with_reducible assumption))
            obtain ⟨ad123, e123, hx123_0⟩ := Kd.at_string (Kd.Q_reads' HO_29.out).2.2 x31_2 p123 q123
            cases e123
            replace p123 := eq_true p123
            replace q123 := eq_true q123
            have hnb35 := NB109_108.out
            have hnc35 := NB108_109.out
            have hcz36_0 : wr.cell? ⟨gb109, 0, none⟩ = some (.string x110000_11) := (blk_cell BK109.out 0).trans rfl
            have hcz36_1 : wr.cell? ⟨gb109, 1, none⟩ = some (u110001) := (blk_cell BK109.out 1).trans rfl
            have hcz36_2 : wr.cell? ⟨gb109, 2, none⟩ = some (u110002) := (blk_cell BK109.out 2).trans rfl
            have hcz36_3 : wr.cell? ⟨gb109, 3, none⟩ = some (.bool x110003_2) := (blk_cell BK109.out 3).trans rfl
            have hcz36_4 : wr.cell? ⟨gb109, 4, none⟩ = some (.bool x110004_2) := (blk_cell BK109.out 4).trans rfl
            have hfz36_0 := blk_frozen BK109.out 0
            have hfz36_1 := blk_frozen BK109.out 1
            have hfz36_2 := blk_frozen BK109.out 2
            have hfz36_3 := blk_frozen BK109.out 3
            have hfz36_4 := blk_frozen BK109.out 4
            go_wp2
            go_roundg k2
            case measure => have := HJ11.out; have := HK2.out; omega
            case rel => exact ⟨(wrap64 (x6_2 + 1)), (wrap64 (x31_2 + 1)), (x109000_2), (x109003_2), (x109004_2), (x110001_2), (x110002_2), (true), (x110004_2), (u110001), (u110002), (by first | rfl), (by first | rfl), H', ⟨by have := HJ11.out; have := HK2.out; omega⟩, ⟨by exact Kd.Q_mono (Kd.Q_far (p := ⟨gb109, 3, none⟩) (Kd.Q_types HO_29.out BK109.out (by decide)) (fun _ hk => hk.2) (.bool true)) (fun _ hk => ⟨hk.1.1, hk.1.2⟩)⟩, ⟨by exact Kd.R_mono (Kd.R_far (p := ⟨gb109, 3, none⟩) (Kd.R_types HO_110001.out BK109.out (by decide)) (fun _ hk => hk.2) (.bool true)) (fun _ hk => ⟨hk.1.1, hk.1.2⟩)⟩, ⟨by exact Kd.R_mono (Kd.R_far (p := ⟨gb109, 3, none⟩) (Kd.R_types HO_110002.out BK109.out (by decide)) (fun _ hk => hk.2) (.bool true)) (fun _ hk => ⟨hk.1.1, hk.1.2⟩)⟩, ⟨by refine blk_far ?_ NB108_109.out _; exact BK108.out⟩, ⟨by refine blk_put (cs := #[.string x110000_11, u110001, u110002, .bool x110003_2, .bool x110004_2]) ?_ 3 _ rfl; exact BK109.out⟩, ⟨by repeat (with_reducible first | exact HB.out | refine below_set ?_ GE109.out)⟩⟩
           ·rw [if_neg c34] at H
            have c34b0 : ((rdOf ByteArray.empty x5_11 x31_2).toList == ([58, 108, 105, 110, 107] : List UInt8)) = false := beq_eq_false_iff_ne.mpr c34
            have c34b1 : ((rdOf ByteArray.empty x5_11 x31_2).toList != ([58, 108, 105, 110, 107] : List UInt8)) = true := bne_iff_ne.mpr c34
            by_cases c37 : (rdOf ByteArray.empty x5_11 x31_2).toList = ([58, 118, 105, 115, 105, 116, 101, 100] : List UInt8)
            ·rw [if_pos c37] at H
             have c37b0 : ((rdOf ByteArray.empty x5_11 x31_2).toList == ([58, 118, 105, 115, 105, 116, 101, 100] : List UInt8)) = true := beq_iff_eq.mpr c37
             have c37b1 : ((rdOf ByteArray.empty x5_11 x31_2).toList != ([58, 118, 105, 115, 105, 116, 101, 100] : List UInt8)) = false := bne_eq_false_iff_eq.mpr c37
             clear c37
             have H' := Aside0.mk H
             clear H
             have p123 : 0 ≤ (x31_2 : Int) := of_decide_eq_true (by first | (with_reducible assumption))
             have q123 : x31_2 < (x5_11.length : Int) := of_decide_eq_true (by first | (with_reducible assumption))
             obtain ⟨ad123, e123, hx123_0⟩ := Kd.at_string (Kd.Q_reads' HO_29.out).2.2 x31_2 p123 q123
             cases e123
             replace p123 := eq_true p123
             replace q123 := eq_true q123
             have hnb38 := NB109_108.out
             have hnc38 := NB108_109.out
             have hcz39_0 : wr.cell? ⟨gb109, 0, none⟩ = some (.string x110000_11) := (blk_cell BK109.out 0).trans rfl
             have hcz39_1 : wr.cell? ⟨gb109, 1, none⟩ = some (u110001) := (blk_cell BK109.out 1).trans rfl
             have hcz39_2 : wr.cell? ⟨gb109, 2, none⟩ = some (u110002) := (blk_cell BK109.out 2).trans rfl
             have hcz39_3 : wr.cell? ⟨gb109, 3, none⟩ = some (.bool x110003_2) := (blk_cell BK109.out 3).trans rfl
             have hcz39_4 : wr.cell? ⟨gb109, 4, none⟩ = some (.bool x110004_2) := (blk_cell BK109.out 4).trans rfl
             have hfz39_0 := blk_frozen BK109.out 0
             have hfz39_1 := blk_frozen BK109.out 1
             have hfz39_2 := blk_frozen BK109.out 2
             have hfz39_3 := blk_frozen BK109.out 3
             have hfz39_4 := blk_frozen BK109.out 4
             go_wp2
             go_roundg k2
             case measure => have := HJ11.out; have := HK2.out; omega
             case rel => exact ⟨(wrap64 (x6_2 + 1)), (wrap64 (x31_2 + 1)), (x109000_2), (x109003_2), (x109004_2), (x110001_2), (x110002_2), (x110003_2), (true), (u110001), (u110002), (by first | rfl), (by first | rfl), H', ⟨by have := HJ11.out; have := HK2.out; omega⟩, ⟨by exact Kd.Q_mono (Kd.Q_far (p := ⟨gb109, 4, none⟩) (Kd.Q_types HO_29.out BK109.out (by decide)) (fun _ hk => hk.2) (.bool true)) (fun _ hk => ⟨hk.1.1, hk.1.2⟩)⟩, ⟨by exact Kd.R_mono (Kd.R_far (p := ⟨gb109, 4, none⟩) (Kd.R_types HO_110001.out BK109.out (by decide)) (fun _ hk => hk.2) (.bool true)) (fun _ hk => ⟨hk.1.1, hk.1.2⟩)⟩, ⟨by exact Kd.R_mono (Kd.R_far (p := ⟨gb109, 4, none⟩) (Kd.R_types HO_110002.out BK109.out (by decide)) (fun _ hk => hk.2) (.bool true)) (fun _ hk => ⟨hk.1.1, hk.1.2⟩)⟩, ⟨by refine blk_far ?_ NB108_109.out _; exact BK108.out⟩, ⟨by refine blk_put (cs := #[.string x110000_11, u110001, u110002, .bool x110003_2, .bool x110004_2]) ?_ 4 _ rfl; exact BK109.out⟩, ⟨by repeat (with_reducible first | exact HB.out | refine below_set ?_ GE109.out)⟩⟩
            ·rw [if_neg c37] at H
             have c37b0 : ((rdOf ByteArray.empty x5_11 x31_2).toList == ([58, 118, 105, 115, 105, 116, 101, 100] : List UInt8)) = false := beq_eq_false_iff_ne.mpr c37
             have c37b1 : ((rdOf ByteArray.empty x5_11 x31_2).toList != ([58, 118, 105, 115, 105, 116, 101, 100] : List UInt8)) = true := bne_iff_ne.mpr c37
             by_cases c40 : 0 < ((rdOf ByteArray.empty x5_11 x31_2).size : Int)
             ·rw [if_pos c40] at H
              have c40b0 : decide (0 < ((rdOf ByteArray.empty x5_11 x31_2).size : Int)) = true := decide_eq_true c40
              have c40b1 : decide (0 < (rdOf ByteArray.empty x5_11 x31_2).size) = true := decide_eq_true (by omega)
              clear c40
              by_cases c42 : (bt (rdOf ByteArray.empty x5_11 x31_2) 0) = 35
              ·rw [if_pos c42] at H
               have c42b0 : ((bt (rdOf ByteArray.empty x5_11 x31_2) 0) == 35) = true := beq_iff_eq.mpr c42
               have c42b1 : ((bt (rdOf ByteArray.empty x5_11 x31_2) 0) != 35) = false := bne_eq_false_iff_eq.mpr c42
               clear c42
               by_cases c43 : x110001_2.length < 8796093022208
               ·rw [if_pos c43] at H
                have LMc43 := Aside0.mk c43
                clear c43
                obtain ⟨y124, hy124⟩ : ∃ y_ : List ByteArray, y_ = (x110001_2 ++ [(rdOf ByteArray.empty x5_11 x31_2).extract 1 (rdOf ByteArray.empty x5_11 x31_2).size]) := ⟨_, rfl⟩
                replace H : (selector_simple.l0 k2 (wrap64 (x6_2 + 1)) x5_11 (x5_11.length : Int) (wrap64 (x31_2 + 1)) x110000_11 y124 x110002_2 x110003_2 x110004_2) = some (r1, r2, r3, r4, r5, r6) := by first | (rw [hy124]; with_reducible exact H)
                have Ny124 := Aside0.mk hy124
                clear hy124
                have H' := Aside0.mk H
                clear H
                have p123 : 0 ≤ (x31_2 : Int) := of_decide_eq_true (by first | (with_reducible assumption))
                have q123 : x31_2 < (x5_11.length : Int) := of_decide_eq_true (by first | (with_reducible assumption))
                obtain ⟨ad123, e123, hx123_0⟩ := Kd.at_string (Kd.Q_reads' HO_29.out).2.2 x31_2 p123 q123
                cases e123
                replace p123 := eq_true p123
                replace q123 := eq_true q123
                have p41 : 0 ≤ (0 : Int) := (by omega)
                have q41 : 0 < (rdOf ByteArray.empty x5_11 x31_2).size := (by have : (0 : Int) < ((rdOf ByteArray.empty x5_11 x31_2).size : Int) := of_decide_eq_true (by first | (with_reducible assumption)); omega)
                have hx41 : ∀ h : 0 < (rdOf ByteArray.empty x5_11 x31_2).size, (((rdOf ByteArray.empty x5_11 x31_2)[0]'h).toNat : Int) = bt (rdOf ByteArray.empty x5_11 x31_2) 0 := bt_at (rdOf ByteArray.empty x5_11 x31_2) 0
                clear p41
                have qi41 : (0 < ((rdOf ByteArray.empty x5_11 x31_2).size : Int)) = True := eq_true (of_decide_eq_true (by first | (with_reducible assumption)))
                replace q41 := eq_true q41
                have hnb44 := NB109_108.out
                have hnc44 := NB108_109.out
                have hcz45_0 : wr.cell? ⟨gb109, 0, none⟩ = some (.string x110000_11) := (blk_cell BK109.out 0).trans rfl
                have hcz45_1 : wr.cell? ⟨gb109, 1, none⟩ = some (u110001) := (blk_cell BK109.out 1).trans rfl
                have hcz45_2 : wr.cell? ⟨gb109, 2, none⟩ = some (u110002) := (blk_cell BK109.out 2).trans rfl
                have hcz45_3 : wr.cell? ⟨gb109, 3, none⟩ = some (.bool x110003_2) := (blk_cell BK109.out 3).trans rfl
                have hcz45_4 : wr.cell? ⟨gb109, 4, none⟩ = some (.bool x110004_2) := (blk_cell BK109.out 4).trans rfl
                have hfz45_0 := blk_frozen BK109.out 0
                have hfz45_1 := blk_frozen BK109.out 1
                have hfz45_2 := blk_frozen BK109.out 2
                have hfz45_3 := blk_frozen BK109.out 3
                have hfz45_4 := blk_frozen BK109.out 4
                go_wp2_with (first | ((with_reducible refine gate_builtin (b := .append) (xs := #[.tmp 53, .tmp 55]) rfl ?_); at_builtin; refine Kd.R_append Kd.string (w0 := w) w.heap.size rfl (.tmp 53) (.tmp 55) 76 9 (.string ⟨#[]⟩) 16 rfl Tryz.underlying76 info9 rfl (by decide) (by omega) u110001 x110001_2 ((rdOf ByteArray.empty x5_11 x31_2).extract 1 (rdOf ByteArray.empty x5_11 x31_2).size) [.string ((rdOf ByteArray.empty x5_11 x31_2).extract 1 (rdOf ByteArray.empty x5_11 x31_2).size)] (fun k_ => some k_ ≠ (.slice (some ad123) x5_11.length co29 : Value).ownBlock ∧ some k_ ≠ (u110002 : Value).ownBlock) (fun _ => False) rfl rfl ?aP (fun _ hk => hk.elim) ?aF ?aO ?aB ?aS ?aL ?_; (case aP => exact rfl); (case aB => exact HB.out); (case aF => exact (fun k_ hk => ⟨Kd.fresh' (Kd.Q_lt HO_29.out) k_ hk, Kd.fresh' (Kd.R_lt HO_110002.out) k_ hk⟩)); (case aO => exact HO_110001.out); (case aS => exact (below_size HB.out)); (case aL => have := LMc43.out; omega); intro v125 w46 ho hb hg hat; rw [← Ny124.out] at ho; have n0_ := Aside0.mk (Kd.Q_after (ok := (fun k_ => some k_ ≠ (u110002 : Value).ownBlock)) (by exact Kd.Q_mono HO_29.out (fun _ hk => ⟨hk.2, hk.1⟩)) hg hat); have n1_ := Aside0.mk (Kd.R_after (ok := (fun k_ => some k_ ≠ (.slice (some ad123) x5_11.length co29 : Value).ownBlock)) HO_110002.out hg hat); have n2_ := Aside0.mk (blk_grown (g := gb108) (o := .cells #[.string x109000_2, .slice none 0 0, .slice none 0 0, .bool x109003_2, .bool x109004_2] 80 (0, 0)) BK108.out hg (Kd.R_ne HO_110001.out BK108.out (by decide))); have n3_ := Aside0.mk (blk_grown (g := gb109) (o := .cells #[.string x110000_11, u110001, u110002, .bool x110003_2, .bool x110004_2] 80 (0, 0)) BK109.out hg (Kd.R_ne HO_110001.out BK109.out (by decide))); have n4_ := Aside0.mk (hb); have n5_ := Aside0.mk (ho); clear HO_29; clear HO_110002; clear BK108; clear BK109; clear HB; clear HO_110001; have HO_29 := n0_; have HO_110002 := n1_; have BK108 := n2_; have BK109 := n3_; have HB := n4_; have HO126 := n5_; clear n0_ n1_ n2_ n3_ n4_ n5_; clear ho hb hg hat; obtain ⟨Ao47, co47, eo47⟩ := Kd.R_slice HO126.out; subst eo47; have hcz48_0 : w46.cell? ⟨gb109, 0, none⟩ = some (.string x110000_11) := (blk_cell BK109.out 0).trans rfl; have hcz48_1 : w46.cell? ⟨gb109, 1, none⟩ = some (u110001) := (blk_cell BK109.out 1).trans rfl; have hcz48_2 : w46.cell? ⟨gb109, 2, none⟩ = some (u110002) := (blk_cell BK109.out 2).trans rfl; have hcz48_3 : w46.cell? ⟨gb109, 3, none⟩ = some (.bool x110003_2) := (blk_cell BK109.out 3).trans rfl; have hcz48_4 : w46.cell? ⟨gb109, 4, none⟩ = some (.bool x110004_2) := (blk_cell BK109.out 4).trans rfl; have hfz48_0 := blk_frozen BK109.out 0; have hfz48_1 := blk_frozen BK109.out 1; have hfz48_2 := blk_frozen BK109.out 2; have hfz48_3 := blk_frozen BK109.out 3; have hfz48_4 := blk_frozen BK109.out 4))
                go_roundg k2
                case measure => have := HJ11.out; have := HK2.out; omega
                case rel => exact ⟨(wrap64 (x6_2 + 1)), (wrap64 (x31_2 + 1)), (x109000_2), (x109003_2), (x109004_2), (y124), (x110002_2), (x110003_2), (x110004_2), (.slice Ao47 y124.length co47), (u110002), (by first | rfl), (by first | rfl), H', ⟨by have := HJ11.out; have := HK2.out; omega⟩, ⟨by exact Kd.Q_mono (Kd.Q_far (p := ⟨gb109, 1, none⟩) (Kd.Q_types HO_29.out BK109.out (by decide)) (fun _ hk => hk.2) (.slice Ao47 y124.length co47)) (fun _ hk => ⟨hk.1.2, hk.1.1⟩)⟩, ⟨by exact Kd.R_mono (Kd.R_far (p := ⟨gb109, 1, none⟩) (Kd.R_types HO126.out BK109.out (by decide)) (fun _ hk => hk.2) (.slice Ao47 y124.length co47)) (fun _ hk => ⟨hk.1.1, hk.1.2⟩)⟩, ⟨by exact Kd.R_mono (Kd.R_far (p := ⟨gb109, 1, none⟩) (Kd.R_types HO_110002.out BK109.out (by decide)) (fun _ hk => hk.2) (.slice Ao47 y124.length co47)) (fun _ hk => ⟨hk.1.1, hk.1.2⟩)⟩, ⟨by refine blk_far ?_ NB108_109.out _; exact BK108.out⟩, ⟨by refine blk_put (cs := #[.string x110000_11, u110001, u110002, .bool x110003_2, .bool x110004_2]) ?_ 1 _ rfl; exact BK109.out⟩, ⟨by repeat (with_reducible first | exact HB.out | refine below_set ?_ GE109.out)⟩⟩
               ·rw [if_neg c43] at H
                exact absurd H (by simp)
              ·rw [if_neg c42] at H
               have c42b0 : ((bt (rdOf ByteArray.empty x5_11 x31_2) 0) == 35) = false := beq_eq_false_iff_ne.mpr c42
               have c42b1 : ((bt (rdOf ByteArray.empty x5_11 x31_2) 0) != 35) = true := bne_iff_ne.mpr c42
               by_cases c50 : (bt (rdOf ByteArray.empty x5_11 x31_2) 0) = 46
               ·rw [if_pos c50] at H
                have c50b0 : ((bt (rdOf ByteArray.empty x5_11 x31_2) 0) == 46) = true := beq_iff_eq.mpr c50
                have c50b1 : ((bt (rdOf ByteArray.empty x5_11 x31_2) 0) != 46) = false := bne_eq_false_iff_eq.mpr c50
                clear c50
                by_cases c51 : x110002_2.length < 8796093022208
                ·rw [if_pos c51] at H
                 have LMc51 := Aside0.mk c51
                 clear c51
                 obtain ⟨y127, hy127⟩ : ∃ y_ : List ByteArray, y_ = (x110002_2 ++ [(rdOf ByteArray.empty x5_11 x31_2).extract 1 (rdOf ByteArray.empty x5_11 x31_2).size]) := ⟨_, rfl⟩
                 replace H : (selector_simple.l0 k2 (wrap64 (x6_2 + 1)) x5_11 (x5_11.length : Int) (wrap64 (x31_2 + 1)) x110000_11 x110001_2 y127 x110003_2 x110004_2) = some (r1, r2, r3, r4, r5, r6) := by first | (rw [hy127]; with_reducible exact H)
                 have Ny127 := Aside0.mk hy127
                 clear hy127
                 have H' := Aside0.mk H
                 clear H
                 have p123 : 0 ≤ (x31_2 : Int) := of_decide_eq_true (by first | (with_reducible assumption))
                 have q123 : x31_2 < (x5_11.length : Int) := of_decide_eq_true (by first | (with_reducible assumption))
                 obtain ⟨ad123, e123, hx123_0⟩ := Kd.at_string (Kd.Q_reads' HO_29.out).2.2 x31_2 p123 q123
                 cases e123
                 replace p123 := eq_true p123
                 replace q123 := eq_true q123
                 have p41 : 0 ≤ (0 : Int) := (by omega)
                 have q41 : 0 < (rdOf ByteArray.empty x5_11 x31_2).size := (by have : (0 : Int) < ((rdOf ByteArray.empty x5_11 x31_2).size : Int) := of_decide_eq_true (by first | (with_reducible assumption)); omega)
                 have hx41 : ∀ h : 0 < (rdOf ByteArray.empty x5_11 x31_2).size, (((rdOf ByteArray.empty x5_11 x31_2)[0]'h).toNat : Int) = bt (rdOf ByteArray.empty x5_11 x31_2) 0 := bt_at (rdOf ByteArray.empty x5_11 x31_2) 0
                 clear p41
                 have qi41 : (0 < ((rdOf ByteArray.empty x5_11 x31_2).size : Int)) = True := eq_true (of_decide_eq_true (by first | (with_reducible assumption)))
                 replace q41 := eq_true q41
                 have p49 : 0 ≤ (0 : Int) := (by omega)
                 have q49 : 0 < (rdOf ByteArray.empty x5_11 x31_2).size := (by have : (0 : Int) < ((rdOf ByteArray.empty x5_11 x31_2).size : Int) := of_decide_eq_true (by first | (with_reducible assumption)); omega)
                 have hx49 : ∀ h : 0 < (rdOf ByteArray.empty x5_11 x31_2).size, (((rdOf ByteArray.empty x5_11 x31_2)[0]'h).toNat : Int) = bt (rdOf ByteArray.empty x5_11 x31_2) 0 := bt_at (rdOf ByteArray.empty x5_11 x31_2) 0
                 clear p49
                 have qi49 : (0 < ((rdOf ByteArray.empty x5_11 x31_2).size : Int)) = True := eq_true (of_decide_eq_true (by first | (with_reducible assumption)))
                 replace q49 := eq_true q49
                 have hnb52 := NB109_108.out
                 have hnc52 := NB108_109.out
                 have hcz53_0 : wr.cell? ⟨gb109, 0, none⟩ = some (.string x110000_11) := (blk_cell BK109.out 0).trans rfl
                 have hcz53_1 : wr.cell? ⟨gb109, 1, none⟩ = some (u110001) := (blk_cell BK109.out 1).trans rfl
                 have hcz53_2 : wr.cell? ⟨gb109, 2, none⟩ = some (u110002) := (blk_cell BK109.out 2).trans rfl
                 have hcz53_3 : wr.cell? ⟨gb109, 3, none⟩ = some (.bool x110003_2) := (blk_cell BK109.out 3).trans rfl
                 have hcz53_4 : wr.cell? ⟨gb109, 4, none⟩ = some (.bool x110004_2) := (blk_cell BK109.out 4).trans rfl
                 have hfz53_0 := blk_frozen BK109.out 0
                 have hfz53_1 := blk_frozen BK109.out 1
                 have hfz53_2 := blk_frozen BK109.out 2
                 have hfz53_3 := blk_frozen BK109.out 3
                 have hfz53_4 := blk_frozen BK109.out 4
                 go_wp2_with (first | ((with_reducible refine gate_builtin (b := .append) (xs := #[.tmp 63, .tmp 65]) rfl ?_); at_builtin; refine Kd.R_append Kd.string (w0 := w) w.heap.size rfl (.tmp 63) (.tmp 65) 76 9 (.string ⟨#[]⟩) 16 rfl Tryz.underlying76 info9 rfl (by decide) (by omega) u110002 x110002_2 ((rdOf ByteArray.empty x5_11 x31_2).extract 1 (rdOf ByteArray.empty x5_11 x31_2).size) [.string ((rdOf ByteArray.empty x5_11 x31_2).extract 1 (rdOf ByteArray.empty x5_11 x31_2).size)] (fun k_ => some k_ ≠ (.slice (some ad123) x5_11.length co29 : Value).ownBlock ∧ some k_ ≠ (u110001 : Value).ownBlock) (fun _ => False) rfl rfl ?aP (fun _ hk => hk.elim) ?aF ?aO ?aB ?aS ?aL ?_; (case aP => exact rfl); (case aB => exact HB.out); (case aF => exact (fun k_ hk => ⟨Kd.fresh' (Kd.Q_lt HO_29.out) k_ hk, Kd.fresh' (Kd.R_lt HO_110001.out) k_ hk⟩)); (case aO => exact HO_110002.out); (case aS => exact (below_size HB.out)); (case aL => have := LMc51.out; omega); intro v128 w54 ho hb hg hat; rw [← Ny127.out] at ho; have n0_ := Aside0.mk (Kd.Q_after (ok := (fun k_ => some k_ ≠ (u110001 : Value).ownBlock)) HO_29.out hg hat); have n1_ := Aside0.mk (Kd.R_after (ok := (fun k_ => some k_ ≠ (.slice (some ad123) x5_11.length co29 : Value).ownBlock)) HO_110001.out hg hat); have n2_ := Aside0.mk (blk_grown (g := gb108) (o := .cells #[.string x109000_2, .slice none 0 0, .slice none 0 0, .bool x109003_2, .bool x109004_2] 80 (0, 0)) BK108.out hg (Kd.R_ne HO_110002.out BK108.out (by decide))); have n3_ := Aside0.mk (blk_grown (g := gb109) (o := .cells #[.string x110000_11, u110001, u110002, .bool x110003_2, .bool x110004_2] 80 (0, 0)) BK109.out hg (Kd.R_ne HO_110002.out BK109.out (by decide))); have n4_ := Aside0.mk (hb); have n5_ := Aside0.mk (ho); clear HO_29; clear HO_110001; clear BK108; clear BK109; clear HB; clear HO_110002; have HO_29 := n0_; have HO_110001 := n1_; have BK108 := n2_; have BK109 := n3_; have HB := n4_; have HO129 := n5_; clear n0_ n1_ n2_ n3_ n4_ n5_; clear ho hb hg hat; obtain ⟨Ao55, co55, eo55⟩ := Kd.R_slice HO129.out; subst eo55; have hcz56_0 : w54.cell? ⟨gb109, 0, none⟩ = some (.string x110000_11) := (blk_cell BK109.out 0).trans rfl; have hcz56_1 : w54.cell? ⟨gb109, 1, none⟩ = some (u110001) := (blk_cell BK109.out 1).trans rfl; have hcz56_2 : w54.cell? ⟨gb109, 2, none⟩ = some (u110002) := (blk_cell BK109.out 2).trans rfl; have hcz56_3 : w54.cell? ⟨gb109, 3, none⟩ = some (.bool x110003_2) := (blk_cell BK109.out 3).trans rfl; have hcz56_4 : w54.cell? ⟨gb109, 4, none⟩ = some (.bool x110004_2) := (blk_cell BK109.out 4).trans rfl; have hfz56_0 := blk_frozen BK109.out 0; have hfz56_1 := blk_frozen BK109.out 1; have hfz56_2 := blk_frozen BK109.out 2; have hfz56_3 := blk_frozen BK109.out 3; have hfz56_4 := blk_frozen BK109.out 4))
                 go_roundg k2
                 case measure => have := HJ11.out; have := HK2.out; omega
                 case rel => exact ⟨(wrap64 (x6_2 + 1)), (wrap64 (x31_2 + 1)), (x109000_2), (x109003_2), (x109004_2), (x110001_2), (y127), (x110003_2), (x110004_2), (u110001), (.slice Ao55 y127.length co55), (by first | rfl), (by first | rfl), H', ⟨by have := HJ11.out; have := HK2.out; omega⟩, ⟨by exact Kd.Q_mono (Kd.Q_far (p := ⟨gb109, 2, none⟩) (Kd.Q_types HO_29.out BK109.out (by decide)) (fun _ hk => hk.2) (.slice Ao55 y127.length co55)) (fun _ hk => ⟨hk.1.1, hk.1.2⟩)⟩, ⟨by exact Kd.R_mono (Kd.R_far (p := ⟨gb109, 2, none⟩) (Kd.R_types HO_110001.out BK109.out (by decide)) (fun _ hk => hk.2) (.slice Ao55 y127.length co55)) (fun _ hk => ⟨hk.1.1, hk.1.2⟩)⟩, ⟨by exact Kd.R_mono (Kd.R_far (p := ⟨gb109, 2, none⟩) (Kd.R_types HO129.out BK109.out (by decide)) (fun _ hk => hk.2) (.slice Ao55 y127.length co55)) (fun _ hk => ⟨hk.1.1, hk.1.2⟩)⟩, ⟨by refine blk_far ?_ NB108_109.out _; exact BK108.out⟩, ⟨by refine blk_put (cs := #[.string x110000_11, u110001, u110002, .bool x110003_2, .bool x110004_2]) ?_ 2 _ rfl; exact BK109.out⟩, ⟨by repeat (with_reducible first | exact HB.out | refine below_set ?_ GE109.out)⟩⟩
                ·rw [if_neg c51] at H
                 exact absurd H (by simp)
               ·rw [if_neg c50] at H
                have c50b0 : ((bt (rdOf ByteArray.empty x5_11 x31_2) 0) == 46) = false := beq_eq_false_iff_ne.mpr c50
                have c50b1 : ((bt (rdOf ByteArray.empty x5_11 x31_2) 0) != 46) = true := bne_iff_ne.mpr c50
                simp only [Option.some.injEq, Prod.mk.injEq] at H
                obtain ⟨rfl, rfl, rfl, rfl, rfl, rfl⟩ := H
                have p123 : 0 ≤ (x31_2 : Int) := of_decide_eq_true (by first | (with_reducible assumption))
                have q123 : x31_2 < (x5_11.length : Int) := of_decide_eq_true (by first | (with_reducible assumption))
                obtain ⟨ad123, e123, hx123_0⟩ := Kd.at_string (Kd.Q_reads' HO_29.out).2.2 x31_2 p123 q123
                cases e123
                replace p123 := eq_true p123
                replace q123 := eq_true q123
                have p41 : 0 ≤ (0 : Int) := (by omega)
                have q41 : 0 < (rdOf ByteArray.empty x5_11 x31_2).size := (by have : (0 : Int) < ((rdOf ByteArray.empty x5_11 x31_2).size : Int) := of_decide_eq_true (by first | (with_reducible assumption)); omega)
                have hx41 : ∀ h : 0 < (rdOf ByteArray.empty x5_11 x31_2).size, (((rdOf ByteArray.empty x5_11 x31_2)[0]'h).toNat : Int) = bt (rdOf ByteArray.empty x5_11 x31_2) 0 := bt_at (rdOf ByteArray.empty x5_11 x31_2) 0
                clear p41
                have qi41 : (0 < ((rdOf ByteArray.empty x5_11 x31_2).size : Int)) = True := eq_true (of_decide_eq_true (by first | (with_reducible assumption)))
                replace q41 := eq_true q41
                have p49 : 0 ≤ (0 : Int) := (by omega)
                have q49 : 0 < (rdOf ByteArray.empty x5_11 x31_2).size := (by have : (0 : Int) < ((rdOf ByteArray.empty x5_11 x31_2).size : Int) := of_decide_eq_true (by first | (with_reducible assumption)); omega)
                have hx49 : ∀ h : 0 < (rdOf ByteArray.empty x5_11 x31_2).size, (((rdOf ByteArray.empty x5_11 x31_2)[0]'h).toNat : Int) = bt (rdOf ByteArray.empty x5_11 x31_2) 0 := bt_at (rdOf ByteArray.empty x5_11 x31_2) 0
                clear p49
                have qi49 : (0 < ((rdOf ByteArray.empty x5_11 x31_2).size : Int)) = True := eq_true (of_decide_eq_true (by first | (with_reducible assumption)))
                replace q49 := eq_true q49
                have hnb57 := NB108_109.out
                have hnc57 := NB109_108.out
                have hcz58_0 : wr.cell? ⟨gb108, 0, none⟩ = some (.string x109000_2) := (blk_cell BK108.out 0).trans rfl
                have hcz58_1 : wr.cell? ⟨gb108, 1, none⟩ = some (.slice none 0 0) := (blk_cell BK108.out 1).trans rfl
                have hcz58_2 : wr.cell? ⟨gb108, 2, none⟩ = some (.slice none 0 0) := (blk_cell BK108.out 2).trans rfl
                have hcz58_3 : wr.cell? ⟨gb108, 3, none⟩ = some (.bool x109003_2) := (blk_cell BK108.out 3).trans rfl
                have hcz58_4 : wr.cell? ⟨gb108, 4, none⟩ = some (.bool x109004_2) := (blk_cell BK108.out 4).trans rfl
                have hfz58_0 := blk_frozen BK108.out 0
                have hfz58_1 := blk_frozen BK108.out 1
                have hfz58_2 := blk_frozen BK108.out 2
                have hfz58_3 := blk_frozen BK108.out 3
                have hfz58_4 := blk_frozen BK108.out 4
                go_wp2
                refine bodyPost_ret (results_ct rfl _ _ gb108 80 #[.string (⟨#[]⟩ : ByteArray), .slice none 0 0, .slice none 0 0, .bool false, .bool false] (0, 0) _ rfl (by refine blk_put (cs := #[.string (⟨#[]⟩ : ByteArray), .slice none 0 0, .slice none 0 0, .bool false, .bool x109004_2]) ?_ 4 _ rfl; refine blk_put (cs := #[.string (⟨#[]⟩ : ByteArray), .slice none 0 0, .slice none 0 0, .bool x109003_2, .bool x109004_2]) ?_ 3 _ rfl; refine blk_put (cs := #[.string (⟨#[]⟩ : ByteArray), .slice none 0 0, .slice none 0 0, .bool x109003_2, .bool x109004_2]) ?_ 2 _ rfl; refine blk_put (cs := #[.string (⟨#[]⟩ : ByteArray), .slice none 0 0, .slice none 0 0, .bool x109003_2, .bool x109004_2]) ?_ 1 _ rfl; refine blk_put (cs := #[.string x109000_2, .slice none 0 0, .slice none 0 0, .bool x109003_2, .bool x109004_2]) ?_ 0 _ rfl; exact BK108.out) Tryz.underlying80 rfl (by kernel_rfl)) rfl ?_
                exact ⟨_, _, by first | rfl, by exact Kd.R_nil _ _ _ _ _, by exact Kd.R_nil _ _ _ _ _, by repeat (with_reducible first | exact HB.out | refine below_set ?_ GE108.out)⟩
             ·rw [if_neg c40] at H
              exact absurd H (by simp)
          ·rw [if_neg c33] at H
           exact absurd H (by simp)
         ·rw [if_neg c32] at H
          exact absurd H (by simp)
        ·rw [if_neg c31] at H
         exact absurd H (by simp)
       ·rw [if_neg c30] at H
        have c30b0 : decide (x31_2 < (x5_11.length : Int)) = false := decide_eq_false c30
        clear c30
        by_cases c59 : x6_2 ≤ 8
        ·rw [if_pos c59] at H
         have c59b0 : decide (x6_2 ≤ 8) = true := decide_eq_true c59
         clear c59
         replace H := Option.bind_eq_some_iff.mp H
         obtain ⟨t122, A600, H⟩ := H
         replace H : (some (x110000_11, x110001_2, x110002_2, x110003_2, x110004_2, t122)) = some (r1, r2, r3, r4, r5, r6) := H
         have A60 := Aside0.mk A600
         clear A600
         simp only [Option.some.injEq, Prod.mk.injEq] at H
         obtain ⟨rfl, rfl, rfl, rfl, rfl, rfl⟩ := H
         try go_wp2
         have n0_ := Aside0.mk (Kd.Q_drew HO_29.out)
         have n1_ := Aside0.mk (Kd.R_drew HO_110001.out)
         have n2_ := Aside0.mk (Kd.R_drew HO_110002.out)
         have n3_ := Aside0.mk (blk_drew BK108.out)
         have n4_ := Aside0.mk (blk_drew BK109.out)
         have n5_ := Aside0.mk (below_drew1 HB.out)
         clear HO_29
         clear HO_110001
         clear HO_110002
         clear BK108
         clear BK109
         clear HB
         have HO_29 := n0_
         have HO_110001 := n1_
         have HO_110002 := n2_
         have BK108 := n3_
         have BK109 := n4_
         have HB := n5_
         clear n0_ n1_ n2_ n3_ n4_ n5_
         obtain ⟨Ao62, co62, eo62⟩ := Kd.R_slice HO_110001.out
         (first | subst eo62)
         obtain ⟨Ao63, co63, eo63⟩ := Kd.R_slice HO_110002.out
         (first | subst eo63)
         refine start_ (n := 9) (S := fun w' => w'.cell? ⟨gb109, 0, none⟩ = some (.string x110000_11) ∧ w'.cell? ⟨gb109, 1, none⟩ = some (.slice Ao62 x110001_2.length co62) ∧ w'.cell? ⟨gb109, 2, none⟩ = some (.slice Ao63 x110002_2.length co63) ∧ w'.cell? ⟨gb109, 3, none⟩ = some (.bool x110003_2) ∧ w'.cell? ⟨gb109, 4, none⟩ = some (.bool x110004_2)) (ds := []) #[false, false, false, false, false, false, false, false, false] (by kernel_rfl) rfl rfl ⟨(blk_cell BK109.out 0).trans rfl, (blk_cell BK109.out 1).trans rfl, (blk_cell BK109.out 2).trans rfl, (blk_cell BK109.out 3).trans rfl, (blk_cell BK109.out 4).trans rfl⟩ (fun hHeld => ?_); refine with_tabW selector_simple.tab25 selector_simple.bits25 (fun HT_ HW_ => ?_)
         generalize wr.drew = w61 at HO_29 HO_110001 HO_110002 BK108 BK109 HB hHeld ⊢
         refine pure_ (i := 1) (N := some 70) (v := ?_) (a' := ?_) #[false, true, false, false, false, false, false, false, false] rfl rfl (any_of HT_.out (by kernel_rfl)) (fun _ _ _ h => h) (Or.inl ⟨by rfl, ?_⟩) ?_ ?_
         rotate_left
         ·intro w'
          go_simp
          with_reducible rfl
         rotate_left
         ·simp only [Act.put, List.setIfInBounds_toArray, List.set_cons_zero, List.set_cons_succ, i64_w, i32_w]
          rfl
         refine pure_ (i := 2) (N := some 71) (v := ?_) (a' := ?_) #[false, true, true, false, false, false, false, false, false] rfl rfl (any_of HT_.out (by kernel_rfl)) (fun _ _ _ h => h) (Or.inl ⟨by rfl, ?_⟩) ?_ ?_
         rotate_left
         ·intro w'
          go_simp
          with_reducible rfl
         rotate_left
         ·simp only [Act.put, List.setIfInBounds_toArray, List.set_cons_zero, List.set_cons_succ, i64_w, i32_w]
          rfl
         refine pure_ (i := 3) (N := some 72) (v := ?_) (a' := ?_) #[false, true, true, true, false, false, false, false, false] rfl rfl (any_of HT_.out (by kernel_rfl)) (fun _ _ _ h => h) (Or.inl ⟨by rfl, ?_⟩) ?_ ?_
         rotate_left
         ·intro w'
          go_simp
          with_reducible rfl
         rotate_left
         ·simp only [Act.put, List.setIfInBounds_toArray, List.set_cons_zero, List.set_cons_succ, i64_w, i32_w]
          rfl
         refine take_ (i := 0) (N := some 69) (v := ?_) (a' := ?_) #[true, true, true, true, false, false, false, false, false] rfl rfl (take_ofW HT_.out HW_.out (by kernel_rfl)) (fun _ _ _ h => h) (Or.inl ⟨by rfl, ?_⟩) hHeld ?_ ?_
         rotate_left
         ·rintro w' ⟨s0, s1, s2, s3, s4⟩
          go_simp
          with_reducible rfl
         rotate_left
         ·simp only [Act.put, List.setIfInBounds_toArray, List.set_cons_zero, List.set_cons_succ, i64_w, i32_w]
          rfl
         refine take_ (i := 4) (N := some 73) (v := ?_) (a' := ?_) #[true, true, true, true, true, false, false, false, false] rfl rfl (take_ofW HT_.out HW_.out (by kernel_rfl)) (fun _ _ _ h => h) (Or.inl ⟨by rfl, ?_⟩) hHeld ?_ ?_
         rotate_left
         ·rintro w' ⟨s0, s1, s2, s3, s4⟩
          go_simp
          with_reducible rfl
         rotate_left
         ·simp only [Act.put, List.setIfInBounds_toArray, List.set_cons_zero, List.set_cons_succ, i64_w, i32_w]
          rfl
         refine one_ (i := 5) (N := some 74) #[true, true, true, true, true, true, false, false, false] rfl rfl (one_of HT_.out (by kernel_rfl)) (by decide) (fun K hK => ?_)
         refine goes_ Tryz.func52 (by kernel_rfl) rfl #[.agg #[.string x110000_11, .slice Ao62 x110001_2.length co62, .slice Ao63 x110002_2.length co63, .bool x110003_2, .bool x110004_2]] (by rfl) rfl rfl (by (try simp only [List.map_toArray, List.map_cons, List.map_nil]); first | rfl) ?_
         with_reducible refine (selector_Simple_may.calls x110000_11 _ _ x110001_2 _ _ x110002_2 x110003_2 x110004_2 t122 _ ?side1 ?side2 ?side3 ?side4 A60.out).mono ?_
         (case side1 => repeat (first | exact (Kd.R_reads' HO_110001.out).2.2))
         (case side2 => exact (Kd.R_reads' HO_110001.out).2.1)
         (case side3 => repeat (first | exact (Kd.R_reads' HO_110002.out).2.2))
         (case side4 => exact (Kd.R_reads' HO_110002.out).2.1)
         rintro e w64 ⟨rfl, hb⟩
         refine ⟨_, rfl, ?_⟩
         have n0_ := Aside0.mk (Kd.Q_below HO_29.out hb)
         have n1_ := Aside0.mk (Kd.R_below HO_110001.out hb)
         have n2_ := Aside0.mk (Kd.R_below HO_110002.out hb)
         have n3_ := Aside0.mk (blk_below (g := gb108) (o := .cells #[.string x109000_2, .slice none 0 0, .slice none 0 0, .bool x109003_2, .bool x109004_2] 80 (0, 0)) BK108.out hb)
         have n4_ := Aside0.mk (blk_below (g := gb109) (o := .cells #[.string x110000_11, .slice Ao62 x110001_2.length co62, .slice Ao63 x110002_2.length co63, .bool x110003_2, .bool x110004_2] 80 (0, 0)) BK109.out hb)
         have n5_ := Aside0.mk (below_step HB.out hb)
         clear HO_29
         clear HO_110001
         clear HO_110002
         clear BK108
         clear BK109
         clear HB
         have HO_29 := n0_
         have HO_110001 := n1_
         have HO_110002 := n2_
         have BK108 := n3_
         have BK109 := n4_
         have HB := n5_
         clear n0_ n1_ n2_ n3_ n4_ n5_
         (try clear hb)
         (try clear hb2)
         (try clear hk)
         (try clear hi)
         refine hK.out _ _ ⟨(blk_cell BK109.out 0).trans rfl, (blk_cell BK109.out 1).trans rfl, (blk_cell BK109.out 2).trans rfl, (blk_cell BK109.out 3).trans rfl, (blk_cell BK109.out 4).trans rfl⟩ (fun hHeld => ?_)
         clear hK K
         refine norm_ (a' := ?_) ?_ ?_
         rotate_left
         ·show Act.put _ (some 74) _ = _
          simp only [Act.put, List.setIfInBounds_toArray, List.set_cons_zero, List.set_cons_succ, i64_w, i32_w]
          rfl
         refine pure_ (i := 6) (N := some 75) (v := ?_) (a' := ?_) #[true, true, true, true, true, true, true, false, false] rfl rfl (any_of HT_.out (by kernel_rfl)) (fun _ _ _ h => h) (Or.inl ⟨by rfl, ?_⟩) ?_ ?_
         rotate_left
         ·intro w'
          go_simp
          with_reducible rfl
         rotate_left
         ·simp only [Act.put, List.setIfInBounds_toArray, List.set_cons_zero, List.set_cons_succ, i64_w, i32_w]
          rfl
         refine one_ (i := 7) (N := none) #[true, true, true, true, true, true, true, true, false] rfl rfl (one_of HT_.out (by kernel_rfl)) (by decide) (fun K hK => ?_)
         have hs65 : w64.cell? ⟨gb108, 0, none⟩ = some (.string x109000_2) := (blk_cell BK108.out 0).trans rfl
         have hfs65 := blk_frozen BK108.out 0
         have hns65_1 := NB109_108.out
         have hms65_1 := NB108_109.out
         have hs66 : w64.cell? ⟨gb108, 1, none⟩ = some (.slice none 0 0) := (blk_cell BK108.out 1).trans rfl
         have hfs66 := blk_frozen BK108.out 1
         have hns66_1 := NB109_108.out
         have hms66_1 := NB108_109.out
         have hs67 : w64.cell? ⟨gb108, 2, none⟩ = some (.slice none 0 0) := (blk_cell BK108.out 2).trans rfl
         have hfs67 := blk_frozen BK108.out 2
         have hns67_1 := NB109_108.out
         have hms67_1 := NB108_109.out
         have hs68 : w64.cell? ⟨gb108, 3, none⟩ = some (.bool x109003_2) := (blk_cell BK108.out 3).trans rfl
         have hfs68 := blk_frozen BK108.out 3
         have hns68_1 := NB109_108.out
         have hms68_1 := NB108_109.out
         have hs69 : w64.cell? ⟨gb108, 4, none⟩ = some (.bool x109004_2) := (blk_cell BK108.out 4).trans rfl
         have hfs69 := blk_frozen BK108.out 4
         have hns69_1 := NB109_108.out
         have hms69_1 := NB108_109.out
         refine skip_ (w1 := ?_) (by rfl) rfl ?_ ?_
         rotate_left
         ·go_simp
          rfl
         refine hK.out _ _ ⟨((cell_far (p := ⟨gb108, _, none⟩) NB109_108.out _).trans (((cell_far (p := ⟨gb108, _, none⟩) NB109_108.out _).trans (((cell_far (p := ⟨gb108, _, none⟩) NB109_108.out _).trans (((cell_far (p := ⟨gb108, _, none⟩) NB109_108.out _).trans (((cell_far (p := ⟨gb108, _, none⟩) NB109_108.out _).trans (hHeld.1)))))))))), ((cell_far (p := ⟨gb108, _, none⟩) NB109_108.out _).trans (((cell_far (p := ⟨gb108, _, none⟩) NB109_108.out _).trans (((cell_far (p := ⟨gb108, _, none⟩) NB109_108.out _).trans (((cell_far (p := ⟨gb108, _, none⟩) NB109_108.out _).trans (((cell_far (p := ⟨gb108, _, none⟩) NB109_108.out _).trans (hHeld.2.1)))))))))), ((cell_far (p := ⟨gb108, _, none⟩) NB109_108.out _).trans (((cell_far (p := ⟨gb108, _, none⟩) NB109_108.out _).trans (((cell_far (p := ⟨gb108, _, none⟩) NB109_108.out _).trans (((cell_far (p := ⟨gb108, _, none⟩) NB109_108.out _).trans (((cell_far (p := ⟨gb108, _, none⟩) NB109_108.out _).trans (hHeld.2.2.1)))))))))), ((cell_far (p := ⟨gb108, _, none⟩) NB109_108.out _).trans (((cell_far (p := ⟨gb108, _, none⟩) NB109_108.out _).trans (((cell_far (p := ⟨gb108, _, none⟩) NB109_108.out _).trans (((cell_far (p := ⟨gb108, _, none⟩) NB109_108.out _).trans (((cell_far (p := ⟨gb108, _, none⟩) NB109_108.out _).trans (hHeld.2.2.2.1)))))))))), ((cell_far (p := ⟨gb108, _, none⟩) NB109_108.out _).trans (((cell_far (p := ⟨gb108, _, none⟩) NB109_108.out _).trans (((cell_far (p := ⟨gb108, _, none⟩) NB109_108.out _).trans (((cell_far (p := ⟨gb108, _, none⟩) NB109_108.out _).trans (((cell_far (p := ⟨gb108, _, none⟩) NB109_108.out _).trans (hHeld.2.2.2.2))))))))))⟩ (fun hHeld => ?_)
         clear hK K
         refine pure_ (i := 8) (N := some 3) (v := ?_) (a' := ?_) #[true, true, true, true, true, true, true, true, true] rfl rfl (any_of HT_.out (by kernel_rfl)) (fun _ _ _ h => h) (Or.inl ⟨by rfl, ?_⟩) ?_ ?_
         rotate_left
         ·intro w'
          go_simp
          with_reducible rfl
         rotate_left
         ·simp only [Act.put, List.setIfInBounds_toArray, List.set_cons_zero, List.set_cons_succ, i64_w, i32_w]
          rfl
         refine done_ (done_of HT_.out (by kernel_rfl)) ?_
         try go_wp2
         refine bodyPost_ret (results_ct rfl _ _ gb108 80 #[.string x110000_11, .slice Ao62 x110001_2.length co62, .slice Ao63 x110002_2.length co63, .bool x110003_2, .bool x110004_2] (0, 0) _ rfl (by refine blk_put (cs := #[.string x110000_11, .slice Ao62 x110001_2.length co62, .slice Ao63 x110002_2.length co63, .bool x110003_2, .bool x109004_2]) ?_ 4 _ rfl; refine blk_put (cs := #[.string x110000_11, .slice Ao62 x110001_2.length co62, .slice Ao63 x110002_2.length co63, .bool x109003_2, .bool x109004_2]) ?_ 3 _ rfl; refine blk_put (cs := #[.string x110000_11, .slice Ao62 x110001_2.length co62, .slice none 0 0, .bool x109003_2, .bool x109004_2]) ?_ 2 _ rfl; refine blk_put (cs := #[.string x110000_11, .slice none 0 0, .slice none 0 0, .bool x109003_2, .bool x109004_2]) ?_ 1 _ rfl; refine blk_put (cs := #[.string x109000_2, .slice none 0 0, .slice none 0 0, .bool x109003_2, .bool x109004_2]) ?_ 0 _ rfl; exact BK108.out) Tryz.underlying80 rfl (by kernel_rfl)) rfl ?_
         exact ⟨_, _, by first | rfl, by exact Kd.R_mono (Kd.R_far (p := ⟨gb108, 4, none⟩) (Kd.R_far (p := ⟨gb108, 3, none⟩) (Kd.R_far (p := ⟨gb108, 2, none⟩) (Kd.R_far (p := ⟨gb108, 1, none⟩) (Kd.R_far (p := ⟨gb108, 0, none⟩) (Kd.R_types HO_110001.out BK108.out (by decide)) (fun _ hk => hk.2) (.string x110000_11)) (fun _ hk => hk.2) (.slice Ao62 x110001_2.length co62)) (fun _ hk => hk.2) (.slice Ao63 x110002_2.length co63)) (fun _ hk => hk.2) (.bool x110003_2)) (fun _ hk => hk.2) (.bool x110004_2)) (fun _ hk => hk.1.2), by exact Kd.R_mono (Kd.R_far (p := ⟨gb108, 4, none⟩) (Kd.R_far (p := ⟨gb108, 3, none⟩) (Kd.R_far (p := ⟨gb108, 2, none⟩) (Kd.R_far (p := ⟨gb108, 1, none⟩) (Kd.R_far (p := ⟨gb108, 0, none⟩) (Kd.R_types HO_110002.out BK108.out (by decide)) (fun _ hk => hk.2) (.string x110000_11)) (fun _ hk => hk.2) (.slice Ao62 x110001_2.length co62)) (fun _ hk => hk.2) (.slice Ao63 x110002_2.length co63)) (fun _ hk => hk.2) (.bool x110003_2)) (fun _ hk => hk.2) (.bool x110004_2)) (fun _ hk => hk.1.2), by repeat (with_reducible first | exact HB.out | refine below_set ?_ GE108.out)⟩
        ·rw [if_neg c59] at H
         have c59b0 : decide (x6_2 ≤ 8) = false := decide_eq_false c59
         clear c59
         simp only [Option.some.injEq, Prod.mk.injEq] at H
         obtain ⟨rfl, rfl, rfl, rfl, rfl, rfl⟩ := H
         try go_wp2
         have n0_ := Aside0.mk (Kd.Q_drew HO_29.out)
         have n1_ := Aside0.mk (Kd.R_drew HO_110001.out)
         have n2_ := Aside0.mk (Kd.R_drew HO_110002.out)
         have n3_ := Aside0.mk (blk_drew BK108.out)
         have n4_ := Aside0.mk (blk_drew BK109.out)
         have n5_ := Aside0.mk (below_drew1 HB.out)
         clear HO_29
         clear HO_110001
         clear HO_110002
         clear BK108
         clear BK109
         clear HB
         have HO_29 := n0_
         have HO_110001 := n1_
         have HO_110002 := n2_
         have BK108 := n3_
         have BK109 := n4_
         have HB := n5_
         clear n0_ n1_ n2_ n3_ n4_ n5_
         obtain ⟨Ao72, co72, eo72⟩ := Kd.R_slice HO_110001.out
         (first | subst eo72)
         obtain ⟨Ao74, co74, eo74⟩ := Kd.R_slice HO_110002.out
         (first | subst eo74)
         refine start_ (n := 9) (S := fun w' => w'.cell? ⟨gb109, 0, none⟩ = some (.string x110000_11) ∧ w'.cell? ⟨gb109, 1, none⟩ = some (.slice Ao72 x110001_2.length co72) ∧ w'.cell? ⟨gb109, 2, none⟩ = some (.slice Ao74 x110002_2.length co74) ∧ w'.cell? ⟨gb109, 3, none⟩ = some (.bool x110003_2) ∧ w'.cell? ⟨gb109, 4, none⟩ = some (.bool x110004_2)) (ds := []) #[false, false, false, false, false, false, false, false, false] (by kernel_rfl) rfl rfl ⟨(blk_cell BK109.out 0).trans rfl, (blk_cell BK109.out 1).trans rfl, (blk_cell BK109.out 2).trans rfl, (blk_cell BK109.out 3).trans rfl, (blk_cell BK109.out 4).trans rfl⟩ (fun hHeld => ?_); refine with_tabW selector_simple.tab25 selector_simple.bits25 (fun HT_ HW_ => ?_)
         generalize wr.drew = w70 at HO_29 HO_110001 HO_110002 BK108 BK109 HB hHeld ⊢
         refine pure_ (i := 1) (N := some 70) (v := ?_) (a' := ?_) #[false, true, false, false, false, false, false, false, false] rfl rfl (any_of HT_.out (by kernel_rfl)) (fun _ _ _ h => h) (Or.inl ⟨by rfl, ?_⟩) ?_ ?_
         rotate_left
         ·intro w'
          go_simp
          with_reducible rfl
         rotate_left
         ·simp only [Act.put, List.setIfInBounds_toArray, List.set_cons_zero, List.set_cons_succ, i64_w, i32_w]
          rfl
         refine pure_ (i := 2) (N := some 71) (v := ?_) (a' := ?_) #[false, true, true, false, false, false, false, false, false] rfl rfl (any_of HT_.out (by kernel_rfl)) (fun _ _ _ h => h) (Or.inl ⟨by rfl, ?_⟩) ?_ ?_
         rotate_left
         ·intro w'
          go_simp
          with_reducible rfl
         rotate_left
         ·simp only [Act.put, List.setIfInBounds_toArray, List.set_cons_zero, List.set_cons_succ, i64_w, i32_w]
          rfl
         refine pure_ (i := 3) (N := some 72) (v := ?_) (a' := ?_) #[false, true, true, true, false, false, false, false, false] rfl rfl (any_of HT_.out (by kernel_rfl)) (fun _ _ _ h => h) (Or.inl ⟨by rfl, ?_⟩) ?_ ?_
         rotate_left
         ·intro w'
          go_simp
          with_reducible rfl
         rotate_left
         ·simp only [Act.put, List.setIfInBounds_toArray, List.set_cons_zero, List.set_cons_succ, i64_w, i32_w]
          rfl
         refine pure_ (i := 4) (N := some 73) (v := undef) (a' := ?_) #[false, true, true, true, true, false, false, false, false] rfl rfl (any_of HT_.out (by kernel_rfl)) (fun _ _ _ h => h) (Or.inr ⟨by rfl, rfl⟩) ?_ ?_
         rotate_left
         ·simp only [Act.put, List.setIfInBounds_toArray, List.set_cons_zero, List.set_cons_succ, i64_w, i32_w]
          rfl
         refine pure_ (i := 5) (N := some 74) (v := undef) (a' := ?_) #[false, true, true, true, true, true, false, false, false] rfl rfl (any_of HT_.out (by kernel_rfl)) (fun _ _ _ h => h) (Or.inr ⟨by rfl, rfl⟩) ?_ ?_
         rotate_left
         ·simp only [Act.put, List.setIfInBounds_toArray, List.set_cons_zero, List.set_cons_succ, i64_w, i32_w]
          rfl
         refine pure_ (i := 6) (N := some 75) (v := ?_) (a' := ?_) #[false, true, true, true, true, true, true, false, false] rfl rfl (any_of HT_.out (by kernel_rfl)) (fun _ _ _ h => h) (Or.inl ⟨by rfl, ?_⟩) ?_ ?_
         rotate_left
         ·intro w'
          go_simp
          with_reducible rfl
         rotate_left
         ·simp only [Act.put, List.setIfInBounds_toArray, List.set_cons_zero, List.set_cons_succ, i64_w, i32_w]
          rfl
         refine take_ (i := 0) (N := some 69) (v := ?_) (a' := ?_) #[true, true, true, true, true, true, true, false, false] rfl rfl (take_ofW HT_.out HW_.out (by kernel_rfl)) (fun _ _ _ h => h) (Or.inl ⟨by rfl, ?_⟩) hHeld ?_ ?_
         rotate_left
         ·rintro w' ⟨s0, s1, s2, s3, s4⟩
          go_simp
          with_reducible rfl
         rotate_left
         ·simp only [Act.put, List.setIfInBounds_toArray, List.set_cons_zero, List.set_cons_succ, i64_w, i32_w]
          rfl
         refine one_ (i := 7) (N := none) #[true, true, true, true, true, true, true, true, false] rfl rfl (one_of HT_.out (by kernel_rfl)) (by decide) (fun K hK => ?_)
         have hs71 : w70.cell? ⟨gb108, 0, none⟩ = some (.string x109000_2) := (blk_cell BK108.out 0).trans rfl
         have hfs71 := blk_frozen BK108.out 0
         have hns71_1 := NB109_108.out
         have hms71_1 := NB108_109.out
         have hs73 : w70.cell? ⟨gb108, 1, none⟩ = some (.slice none 0 0) := (blk_cell BK108.out 1).trans rfl
         have hfs73 := blk_frozen BK108.out 1
         have hns73_1 := NB109_108.out
         have hms73_1 := NB108_109.out
         have hs75 : w70.cell? ⟨gb108, 2, none⟩ = some (.slice none 0 0) := (blk_cell BK108.out 2).trans rfl
         have hfs75 := blk_frozen BK108.out 2
         have hns75_1 := NB109_108.out
         have hms75_1 := NB108_109.out
         have hs76 : w70.cell? ⟨gb108, 3, none⟩ = some (.bool x109003_2) := (blk_cell BK108.out 3).trans rfl
         have hfs76 := blk_frozen BK108.out 3
         have hns76_1 := NB109_108.out
         have hms76_1 := NB108_109.out
         have hs77 : w70.cell? ⟨gb108, 4, none⟩ = some (.bool x109004_2) := (blk_cell BK108.out 4).trans rfl
         have hfs77 := blk_frozen BK108.out 4
         have hns77_1 := NB109_108.out
         have hms77_1 := NB108_109.out
         refine skip_ (w1 := ?_) (by rfl) rfl ?_ ?_
         rotate_left
         ·go_simp
          rfl
         refine hK.out _ _ ⟨((cell_far (p := ⟨gb108, _, none⟩) NB109_108.out _).trans (((cell_far (p := ⟨gb108, _, none⟩) NB109_108.out _).trans (((cell_far (p := ⟨gb108, _, none⟩) NB109_108.out _).trans (((cell_far (p := ⟨gb108, _, none⟩) NB109_108.out _).trans (((cell_far (p := ⟨gb108, _, none⟩) NB109_108.out _).trans (hHeld.1)))))))))), ((cell_far (p := ⟨gb108, _, none⟩) NB109_108.out _).trans (((cell_far (p := ⟨gb108, _, none⟩) NB109_108.out _).trans (((cell_far (p := ⟨gb108, _, none⟩) NB109_108.out _).trans (((cell_far (p := ⟨gb108, _, none⟩) NB109_108.out _).trans (((cell_far (p := ⟨gb108, _, none⟩) NB109_108.out _).trans (hHeld.2.1)))))))))), ((cell_far (p := ⟨gb108, _, none⟩) NB109_108.out _).trans (((cell_far (p := ⟨gb108, _, none⟩) NB109_108.out _).trans (((cell_far (p := ⟨gb108, _, none⟩) NB109_108.out _).trans (((cell_far (p := ⟨gb108, _, none⟩) NB109_108.out _).trans (((cell_far (p := ⟨gb108, _, none⟩) NB109_108.out _).trans (hHeld.2.2.1)))))))))), ((cell_far (p := ⟨gb108, _, none⟩) NB109_108.out _).trans (((cell_far (p := ⟨gb108, _, none⟩) NB109_108.out _).trans (((cell_far (p := ⟨gb108, _, none⟩) NB109_108.out _).trans (((cell_far (p := ⟨gb108, _, none⟩) NB109_108.out _).trans (((cell_far (p := ⟨gb108, _, none⟩) NB109_108.out _).trans (hHeld.2.2.2.1)))))))))), ((cell_far (p := ⟨gb108, _, none⟩) NB109_108.out _).trans (((cell_far (p := ⟨gb108, _, none⟩) NB109_108.out _).trans (((cell_far (p := ⟨gb108, _, none⟩) NB109_108.out _).trans (((cell_far (p := ⟨gb108, _, none⟩) NB109_108.out _).trans (((cell_far (p := ⟨gb108, _, none⟩) NB109_108.out _).trans (hHeld.2.2.2.2))))))))))⟩ (fun hHeld => ?_)
         clear hK K
         refine pure_ (i := 8) (N := some 3) (v := ?_) (a' := ?_) #[true, true, true, true, true, true, true, true, true] rfl rfl (any_of HT_.out (by kernel_rfl)) (fun _ _ _ h => h) (Or.inl ⟨by rfl, ?_⟩) ?_ ?_
         rotate_left
         ·intro w'
          go_simp
          with_reducible rfl
         rotate_left
         ·simp only [Act.put, List.setIfInBounds_toArray, List.set_cons_zero, List.set_cons_succ, i64_w, i32_w]
          rfl
         refine done_ (done_of HT_.out (by kernel_rfl)) ?_
         try go_wp2
         refine bodyPost_ret (results_ct rfl _ _ gb108 80 #[.string x110000_11, .slice Ao72 x110001_2.length co72, .slice Ao74 x110002_2.length co74, .bool x110003_2, .bool x110004_2] (0, 0) _ rfl (by refine blk_put (cs := #[.string x110000_11, .slice Ao72 x110001_2.length co72, .slice Ao74 x110002_2.length co74, .bool x110003_2, .bool x109004_2]) ?_ 4 _ rfl; refine blk_put (cs := #[.string x110000_11, .slice Ao72 x110001_2.length co72, .slice Ao74 x110002_2.length co74, .bool x109003_2, .bool x109004_2]) ?_ 3 _ rfl; refine blk_put (cs := #[.string x110000_11, .slice Ao72 x110001_2.length co72, .slice none 0 0, .bool x109003_2, .bool x109004_2]) ?_ 2 _ rfl; refine blk_put (cs := #[.string x110000_11, .slice none 0 0, .slice none 0 0, .bool x109003_2, .bool x109004_2]) ?_ 1 _ rfl; refine blk_put (cs := #[.string x109000_2, .slice none 0 0, .slice none 0 0, .bool x109003_2, .bool x109004_2]) ?_ 0 _ rfl; exact BK108.out) Tryz.underlying80 rfl (by kernel_rfl)) rfl ?_
         exact ⟨_, _, by first | rfl, by exact Kd.R_mono (Kd.R_far (p := ⟨gb108, 4, none⟩) (Kd.R_far (p := ⟨gb108, 3, none⟩) (Kd.R_far (p := ⟨gb108, 2, none⟩) (Kd.R_far (p := ⟨gb108, 1, none⟩) (Kd.R_far (p := ⟨gb108, 0, none⟩) (Kd.R_types HO_110001.out BK108.out (by decide)) (fun _ hk => hk.2) (.string x110000_11)) (fun _ hk => hk.2) (.slice Ao72 x110001_2.length co72)) (fun _ hk => hk.2) (.slice Ao74 x110002_2.length co74)) (fun _ hk => hk.2) (.bool x110003_2)) (fun _ hk => hk.2) (.bool x110004_2)) (fun _ hk => hk.1.2), by exact Kd.R_mono (Kd.R_far (p := ⟨gb108, 4, none⟩) (Kd.R_far (p := ⟨gb108, 3, none⟩) (Kd.R_far (p := ⟨gb108, 2, none⟩) (Kd.R_far (p := ⟨gb108, 1, none⟩) (Kd.R_far (p := ⟨gb108, 0, none⟩) (Kd.R_types HO_110002.out BK108.out (by decide)) (fun _ hk => hk.2) (.string x110000_11)) (fun _ hk => hk.2) (.slice Ao72 x110001_2.length co72)) (fun _ hk => hk.2) (.slice Ao74 x110002_2.length co74)) (fun _ hk => hk.2) (.bool x110003_2)) (fun _ hk => hk.2) (.bool x110004_2)) (fun _ hk => hk.1.2), by repeat (with_reducible first | exact HB.out | refine below_set ?_ GE108.out)⟩
  ·rw [if_neg c9] at H
   exact absurd H (by simp)

end Go.Proofs.YtolfpgccebdlpaaGreatDoor.HT
