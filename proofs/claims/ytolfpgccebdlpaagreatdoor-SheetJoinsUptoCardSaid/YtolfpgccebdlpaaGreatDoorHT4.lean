-- Written by a program of this session (wip/tools/hprint.py), which drives the kit's print; not print.sh's own output.
import Derived.Test.YtolfpgccebdlpaaGreatDoorHT0
import Derived.Test.YtolfpgccebdlpaaGreatDoorHT3
namespace Go.Proofs.YtolfpgccebdlpaaGreatDoor.HT
open Go.RowKit Go.Proofs.YtolfpgccebdlpaaGreatDoorW.PrintWords Go.Proofs.YtolfpgccebdlpaaGreatDoorW.PrintLast Go.Proofs.YtolfpgccebdlpaaGreatDoorW.PrintMore
attribute [local go_sem] max2_int min2_int max_two min_two max_three min_three max_four min_four   -- for this text's walks alone
set_option linter.unusedVariables false
set_option linter.unusedSimpArgs false

/-! ### selector_Read: function 12 -/
mutual
def selector_Read.l0 : Nat → Bool → Bool → List ByteArray → Int → Int → List (S80) → List Bool → Option ((List (S80)) × List Bool × Bool)
 | 0, _, _, _, _, _, _, _ => none
 | k + 1, x5, x6, x14, x15, x16, x132000, x132001 => if x16 < x15 then (if 0 ≤ x16 then (if x16 < (x14.length : Int) then (if (rdOf ByteArray.empty x14 x16).toList = ([62] : List UInt8) then (if x5 = true then (some (([] : List (S80)), ([] : List Bool), false)) else (if x6 = true then (some (([] : List (S80)), ([] : List Bool), false)) else (selector_Read.l0 k true x6 x14 x15 (wrap64 (x16 + 1)) x132000 x132001))) else ((selector_simple.f k (rdOf ByteArray.empty x14 x16)).bind fun bt138 => (if bt138.2.2.2.2.2 = true then (selector_Read.j1 k x5 x6 x14 x15 x16 ((x132000.length : Int) == 8) x132000 x132001 bt138.1 bt138.2.1 bt138.2.2.1 bt138.2.2.2.1 bt138.2.2.2.2.1) else (selector_Read.j1 k x5 x6 x14 x15 x16 true x132000 x132001 bt138.1 bt138.2.1 bt138.2.2.1 bt138.2.2.2.1 bt138.2.2.2.2.1)))) else (none)) else (none)) else (if x6 = true then (some (([] : List (S80)), ([] : List Bool), false)) else (if x5 = true then (some (([] : List (S80)), ([] : List Bool), false)) else (some (x132000, x132001, true))))
def selector_Read.j1 : Nat → Bool → Bool → List ByteArray → Int → Int → Bool → List (S80) → List Bool → ByteArray → List ByteArray → List ByteArray → Bool → Bool → Option ((List (S80)) × List Bool × Bool)
 | 0, _, _, _, _, _, _, _, _, _, _, _, _, _ => none
 | k + 1, x5, x6, x14, x15, x16, x39, x132000, x132001, x149000, x149001, x149002, x149003, x149004 => if x39 = true then (some (([] : List (S80)), ([] : List Bool), false)) else (if x6 = true then (if x132000.length < 1954687338268 then (selector_Read.l0 k false false x14 x15 (wrap64 (x16 + 1)) (x132000 ++ [(⟨x149000, x149001, x149002, x149003, x149004⟩ : S80)]) x132001) else (none)) else (if x132001.length < 140737488355328 then (if x132000.length < 1954687338268 then (selector_Read.l0 k false false x14 x15 (wrap64 (x16 + 1)) (x132000 ++ [(⟨x149000, x149001, x149002, x149003, x149004⟩ : S80)]) (x132001 ++ [x5])) else (none)) else (none)))
end
def selector_Read.f (k : Nat) (a0 : ByteArray) : Option ((List (S80)) × List Bool × Bool) := (scan_Lower.f a0).bind fun t132 => ((strings_ReplaceAll.f t132 (⟨#[62]⟩ : ByteArray) (⟨#[32, 62, 32]⟩ : ByteArray)).bind fun t133 => ((scan_Words.f t133).bind fun t134 => (selector_Read.l0 k false true t134 (t134.length : Int) 0 ([] : List (S80)) ([] : List Bool))))
theorem selector_Read.mono_l : ∀ k, (∀ y0 y1 y2 y3 y4 y5 y6, LeO (selector_Read.l0 k y0 y1 y2 y3 y4 y5 y6) (selector_Read.l0 (k + 1) y0 y1 y2 y3 y4 y5 y6)) ∧ (∀ y0 y1 y2 y3 y4 y5 y6 y7 y8 y9 y10 y11 y12, LeO (selector_Read.j1 k y0 y1 y2 y3 y4 y5 y6 y7 y8 y9 y10 y11 y12) (selector_Read.j1 (k + 1) y0 y1 y2 y3 y4 y5 y6 y7 y8 y9 y10 y11 y12))
 | 0 => ⟨fun _ _ _ _ _ _ _ r h => by simp [selector_Read.l0] at h, fun _ _ _ _ _ _ _ _ _ _ _ _ _ r h => by simp [selector_Read.j1] at h⟩
 | k + 1 => by
  obtain ⟨ih0, ih1⟩ := selector_Read.mono_l k
  refine ⟨?_, ?_⟩
  ·intro y0 y1 y2 y3 y4 y5 y6
   unfold selector_Read.l0
   repeat' first
   | (with_reducible exact ih0 _ _ _ _ _ _ _)
   | (with_reducible exact ih1 _ _ _ _ _ _ _ _ _ _ _ _ _)
   | (with_reducible exact selector_simple.mono _ _)
   | (with_reducible exact LeO.refl _)
   | (with_reducible exact LeO.none _)
   | (with_reducible refine LeO.ite ?_ ?_)
   | (with_reducible refine LeO.bind ?_ (fun _ => ?_))
   | exact ih0 _ _ _ _ _ _ _
   | exact ih1 _ _ _ _ _ _ _ _ _ _ _ _ _
   | exact selector_simple.mono _ _
   | exact LeO.none _
   | refine LeO.ite ?_ ?_
   | refine LeO.bind ?_ (fun _ => ?_)
  ·intro y0 y1 y2 y3 y4 y5 y6 y7 y8 y9 y10 y11 y12
   unfold selector_Read.j1
   repeat' first
   | (with_reducible exact ih0 _ _ _ _ _ _ _)
   | (with_reducible exact ih1 _ _ _ _ _ _ _ _ _ _ _ _ _)
   | (with_reducible exact selector_simple.mono _ _)
   | (with_reducible exact LeO.refl _)
   | (with_reducible exact LeO.none _)
   | (with_reducible refine LeO.ite ?_ ?_)
   | (with_reducible refine LeO.bind ?_ (fun _ => ?_))
   | exact ih0 _ _ _ _ _ _ _
   | exact ih1 _ _ _ _ _ _ _ _ _ _ _ _ _
   | exact selector_simple.mono _ _
   | exact LeO.none _
   | refine LeO.ite ?_ ?_
   | refine LeO.bind ?_ (fun _ => ?_)
theorem selector_Read.mono : ∀ a0 k, LeO (selector_Read.f k a0) (selector_Read.f (k + 1) a0) := by
 intro a0 k
 obtain ⟨ih0, ih1⟩ := selector_Read.mono_l k
 unfold selector_Read.f
 repeat' first
   | (with_reducible exact ih0 _ _ _ _ _ _ _)
   | (with_reducible exact ih1 _ _ _ _ _ _ _ _ _ _ _ _ _)
   | (with_reducible exact selector_simple.mono _ _)
   | (with_reducible exact LeO.refl _)
   | (with_reducible exact LeO.none _)
   | (with_reducible refine LeO.ite ?_ ?_)
   | (with_reducible refine LeO.bind ?_ (fun _ => ?_))
   | exact ih0 _ _ _ _ _ _ _
   | exact ih1 _ _ _ _ _ _ _ _ _ _ _ _ _
   | exact selector_simple.mono _ _
   | exact LeO.none _
   | refine LeO.ite ?_ ?_
   | refine LeO.bind ?_ (fun _ => ?_)
set_option maxHeartbeats 8000000 in
set_option maxRecDepth 100000 in
theorem selector_Read.calls (k : Nat) (a0 : ByteArray) (r1 : List (S80)) (r2 : List Bool) (r3 : Bool) (w : World) (h : selector_Read.f k a0 = some (r1, r2, r3)) (hmx : Go.Proofs.Sht.Env w) :
  Calls Tryz.prog 12 #[.string a0] w fun e w' => ∃ v0_ v1_ : Value, e = .returned (.tuple #[.agg #[v0_, v1_], .bool r3]) ∧ Kd.S k80 80 w' w.heap.size (fun _ => True) v0_ r1 ∧ Kd.R Kd.bool 4 w' w.heap.size (fun _ => True) v1_ r2 ∧ Below w.heap.size w w' := by
 have HMX := Aside0.mk hmx
 clear hmx
 have hu25 := Tryz.underlying25
 have hu80 := Tryz.underlying80
 have HB := Aside0.mk (Below.refl w.heap.size w)
 have H : ((scan_Lower.f a0).bind fun t132 => ((strings_ReplaceAll.f t132 (⟨#[62]⟩ : ByteArray) (⟨#[32, 62, 32]⟩ : ByteArray)).bind fun t133 => ((scan_Words.f t133).bind fun t134 => (selector_Read.l0 k false true t134 (t134.length : Int) 0 ([] : List (S80)) ([] : List Bool))))) = some (r1, r2, r3) := h
 clear h
 replace H := Option.bind_eq_some_iff.mp H
 obtain ⟨t132, A20, H⟩ := H
 replace H : ((strings_ReplaceAll.f t132 (⟨#[62]⟩ : ByteArray) (⟨#[32, 62, 32]⟩ : ByteArray)).bind fun t133 => ((scan_Words.f t133).bind fun t134 => (selector_Read.l0 k false true t134 (t134.length : Int) 0 ([] : List (S80)) ([] : List Bool)))) = some (r1, r2, r3) := H
 have A2 := Aside0.mk A20
 clear A20
 replace H := Option.bind_eq_some_iff.mp H
 obtain ⟨t133, A30, H⟩ := H
 replace H : ((scan_Words.f t133).bind fun t134 => (selector_Read.l0 k false true t134 (t134.length : Int) 0 ([] : List (S80)) ([] : List Bool))) = some (r1, r2, r3) := H
 have A3 := Aside0.mk A30
 clear A30
 replace H := Option.bind_eq_some_iff.mp H
 obtain ⟨t134, A40, H⟩ := H
 replace H : (selector_Read.l0 k false true t134 (t134.length : Int) 0 ([] : List (S80)) ([] : List Bool)) = some (r1, r2, r3) := H
 have A4 := Aside0.mk A40
 clear A40
 have H' := Aside0.mk H
 clear H
 go_enter Tryz.func12, Tryz.ntmps12
 go_wp2_with (first | ((with_reducible refine gate_dst (N := 2) rfl ?_); (try (refine gate_guard (by rfl) ?_; dsimp only)); refine box_event ?hg (N := 2) ?hd (cs := #[.slice none 0 0, .slice none 0 0]) (t := 25) ?hr ?_; (case hd => rfl); (case hg => rfl); (case hr => first | (go_simp; done)); intro gb130 hg w5 hbox hb; have n0_ := Aside0.mk (below_step HB.out hb); have n1_ := Aside0.mk (hbox); have n2_ := Aside0.mk ((by rw [hg]; exact (below_size HB.out) : w.heap.size ≤ gb130)); have n3_ := Aside0.mk ((by rw [hg]; exact (below_size HB.out) : w.heap.size ≤ gb130)); clear HB; have HB := n0_; have BK130 := n1_; have GW130 := n2_; have GE130 := n3_; clear n0_ n1_ n2_ n3_; clear hb hbox hg))
 go_step3
 go_wp2_with (first | ((with_reducible refine gate_dst (N := 4) rfl ?_); (try (refine gate_guard (by rfl) ?_; dsimp only)); refine box_event ?hg (N := 4) ?hd (cs := #[.slice none 0 0, .slice none 0 0]) (t := 25) ?hr ?_; (case hd => rfl); (case hg => rfl); (case hr => first | (go_simp; done)); intro gb131 hg w6 hbox hb; have n0_ := Aside0.mk (blk_below (g := gb130) (o := .cells #[.slice none 0 0, .slice none 0 0] 25 (0, 0)) BK130.out hb); have n1_ := Aside0.mk (below_step HB.out hb); have n2_ := Aside0.mk (hbox); have n3_ := Aside0.mk ((by rw [hg]; exact (below_size HB.out) : w.heap.size ≤ gb131)); have n4_ := Aside0.mk ((by rw [hg]; exact (below_size HB.out) : w.heap.size ≤ gb131)); have n5_ := Aside0.mk ((by rw [hg]; exact Nat.ne_of_lt (blk_lt (g := gb130) (o := .cells #[.slice none 0 0, .slice none 0 0] 25 (0, 0)) BK130.out) : gb130 ≠ gb131)); have n6_ := Aside0.mk ((by rw [hg]; exact Nat.ne_of_gt (blk_lt (g := gb130) (o := .cells #[.slice none 0 0, .slice none 0 0] 25 (0, 0)) BK130.out) : gb131 ≠ gb130)); clear BK130; clear HB; have BK130 := n0_; have HB := n1_; have BK131 := n2_; have GW131 := n3_; have GE131 := n4_; have NB130_131 := n5_; have NB131_130 := n6_; clear n0_ n1_ n2_ n3_ n4_ n5_ n6_; clear hb hbox hg))
 go_step3
 go_wp2_with (first | ((with_reducible refine gate_callee (f := 41) rfl ?_); refine goesL_ (some 12) rfl rfl Tryz.func41 (by kernel_rfl) rfl #[.string a0] rfl (by (try simp only [List.map_toArray, List.map_cons, List.map_nil]); first | rfl) ?_; (with_reducible refine (scan_Lower.calls a0 t132 _ A2.out).mono ?_); rintro e w7 ⟨rfl, hb⟩; refine ⟨_, rfl, ?_⟩; have n0_ := Aside0.mk (blk_below (g := gb130) (o := .cells #[.slice none 0 0, .slice none 0 0] 25 (0, 0)) BK130.out hb); have n1_ := Aside0.mk (blk_below (g := gb131) (o := .cells #[.slice none 0 0, .slice none 0 0] 25 (0, 0)) BK131.out hb); have n2_ := Aside0.mk (below_step HB.out hb); clear BK130; clear BK131; clear HB; have BK130 := n0_; have BK131 := n1_; have HB := n2_; clear n0_ n1_ n2_; (try clear hb); (try clear hb2); (try clear hk); (try clear hi)) | ((with_reducible refine gate_callee (f := 40) rfl ?_); refine goesL_ (some 13) rfl rfl Tryz.func40 (by kernel_rfl) rfl #[.string t132, .string (⟨#[62]⟩ : ByteArray), .string (⟨#[32, 62, 32]⟩ : ByteArray)] rfl (by (try simp only [List.map_toArray, List.map_cons, List.map_nil]); first | rfl) ?_; (with_reducible refine (strings_ReplaceAll.calls t132 (⟨#[62]⟩ : ByteArray) (⟨#[32, 62, 32]⟩ : ByteArray) t133 _ A3.out (HMX.out.below HB.out)).mono ?_); rintro e w8 ⟨rfl, hb⟩; refine ⟨_, rfl, ?_⟩; have n0_ := Aside0.mk (blk_below (g := gb130) (o := .cells #[.slice none 0 0, .slice none 0 0] 25 (0, 0)) BK130.out hb); have n1_ := Aside0.mk (blk_below (g := gb131) (o := .cells #[.slice none 0 0, .slice none 0 0] 25 (0, 0)) BK131.out hb); have n2_ := Aside0.mk (below_step HB.out hb); clear BK130; clear BK131; clear HB; have BK130 := n0_; have BK131 := n1_; have HB := n2_; clear n0_ n1_ n2_; (try clear hb); (try clear hb2); (try clear hk); (try clear hi)) | ((with_reducible refine gate_callee (f := 39) rfl ?_); refine goesL_ (some 14) rfl rfl Tryz.func39 (by kernel_rfl) rfl #[.string t133] rfl (by (try simp only [List.map_toArray, List.map_cons, List.map_nil]); first | rfl) ?_; (with_reducible refine (scan_Words.calls t133 t134 _ A4.out).mono ?_); rintro e w9 ⟨v135, rfl, ho0, hb⟩; refine ⟨_, rfl, ?_⟩; have n0_ := Aside0.mk (Kd.R_lower ho0 (below_size HB.out)); have n1_ := Aside0.mk (blk_below (g := gb130) (o := .cells #[.slice none 0 0, .slice none 0 0] 25 (0, 0)) BK130.out hb); have n2_ := Aside0.mk (blk_below (g := gb131) (o := .cells #[.slice none 0 0, .slice none 0 0] 25 (0, 0)) BK131.out hb); have n3_ := Aside0.mk (below_step HB.out hb); clear BK130; clear BK131; clear HB; have HO136 := n0_; have BK130 := n1_; have BK131 := n2_; have HB := n3_; clear n0_ n1_ n2_ n3_; (try clear hb); (try clear hb2); (try clear hk); (try clear hi); (try clear ho0); obtain ⟨Ao10, co10, eo10⟩ := Kd.R_slice HO136.out; subst eo10))
 go_loopg [5, 6, 16] k (fun kq v5 v6 v16 w' => ∃ (x5_1 : Bool) (x6_1 : Bool) (x16_1 : Int) (x132000_1 : List (S80)) (x132001_1 : List Bool) (u132000 : Value) (u132001 : Value), v5 = .bool x5_1 ∧ v6 = .bool x6_1 ∧ v16 = .int .i64 x16_1 ∧ Aside0 (selector_Read.l0 kq x5_1 x6_1 t134 (t134.length : Int) x16_1 x132000_1 x132001_1 = some (r1, r2, r3)) ∧ Aside0 (kq ≤ k) ∧ Aside0 (Kd.R Kd.string 9 w' w.heap.size (fun _ => True) (.slice Ao10 t134.length co10) t134) ∧ Aside0 (Kd.S k80 80 w' w.heap.size (fun k_ => some k_ ≠ ((.slice Ao10 t134.length co10) : Value).ownBlock) u132000 x132000_1) ∧ Aside0 (Kd.R Kd.bool 4 w' w.heap.size (fun _ => True) u132001 x132001_1) ∧ Aside0 (w'.heap[gb130]? = some (.cells #[(.slice none 0 0), (.slice none 0 0)] 25 (0, 0))) ∧ Aside0 (w'.heap[gb131]? = some (.cells #[u132000, u132001] 25 (0, 0))) ∧ Aside0 (Below w.heap.size w w'))
 case atStart => exact ⟨(false), (true), (0), (([] : List (S80))), (([] : List Bool)), (.slice none 0 0), (.slice none 0 0), (by first | rfl), (by first | rfl), (by first | rfl), H', ⟨Nat.le_refl _⟩, ⟨by exact HO136.out⟩, ⟨by exact Kd.S_nil _ _ _ _ _⟩, ⟨by exact Kd.R_nil _ _ _ _ _⟩, ⟨by exact BK130.out⟩, ⟨by exact BK131.out⟩, ⟨by exact HB.out⟩⟩
 case round =>
  clear H'
  try clear c1
  try clear p2
  try clear c3
  try clear c4
  obtain ⟨x5_1, x6_1, x16_1, x132000_1, x132001_1, u132000, u132001, rfl, rfl, rfl, HA, HK1, HO_14, HO_132000, HO_132001, BK130, BK131, HB⟩ := hrel
  cases gk with
  | zero => exact absurd HA.out (by simp [selector_Read.l0])
  | succ k1 =>
   have H := HA.out
   clear HA
   simp only [selector_Read.l0] at H
   by_cases c11 : x16_1 < (t134.length : Int)
   ·rw [if_pos c11] at H
    have c11b0 : decide (x16_1 < (t134.length : Int)) = true := decide_eq_true c11
    clear c11
    by_cases c12 : 0 ≤ x16_1
    ·rw [if_pos c12] at H
     have c12b0 : decide (0 ≤ x16_1) = true := decide_eq_true c12
     clear c12
     by_cases c13 : x16_1 < (t134.length : Int)
     ·rw [if_pos c13] at H
      have c13b0 : decide (x16_1 < (t134.length : Int)) = true := decide_eq_true c13
      clear c13
      by_cases c14 : (rdOf ByteArray.empty t134 x16_1).toList = ([62] : List UInt8)
      ·rw [if_pos c14] at H
       have c14b0 : ((rdOf ByteArray.empty t134 x16_1).toList == ([62] : List UInt8)) = true := beq_iff_eq.mpr c14
       have c14b1 : ((rdOf ByteArray.empty t134 x16_1).toList != ([62] : List UInt8)) = false := bne_eq_false_iff_eq.mpr c14
       clear c14
       by_cases c15 : x5_1 = true
       ·subst c15
        have H1 : (some (([] : List (S80)), ([] : List Bool), false)) = some (r1, r2, r3) := by rw [if_pos rfl] at H; exact H
        clear H
        have H := H1
        clear H1
        simp only [Option.some.injEq, Prod.mk.injEq] at H
        obtain ⟨rfl, rfl, rfl⟩ := H
        have p137 : 0 ≤ (x16_1 : Int) := of_decide_eq_true (by first | (with_reducible assumption))
        have q137 : x16_1 < (t134.length : Int) := of_decide_eq_true (by first | (with_reducible assumption))
        obtain ⟨ad137, e137, hx137_0⟩ := Kd.at_string (Kd.R_reads' HO_14.out).2.2 x16_1 p137 q137
        cases e137
        replace p137 := eq_true p137
        replace q137 := eq_true q137
        have hnb16 := NB130_131.out
        have hnc16 := NB131_130.out
        have hcz17_0 : wr.cell? ⟨gb130, 0, none⟩ = some (.slice none 0 0) := (blk_cell BK130.out 0).trans rfl
        have hcz17_1 : wr.cell? ⟨gb130, 1, none⟩ = some (.slice none 0 0) := (blk_cell BK130.out 1).trans rfl
        have hfz17_0 := blk_frozen BK130.out 0
        have hfz17_1 := blk_frozen BK130.out 1
        go_wp2
        refine bodyPost_ret (results_ct rfl _ _ gb130 25 #[.slice none 0 0, .slice none 0 0] (0, 0) _ rfl (by refine blk_put (cs := #[.slice none 0 0, .slice none 0 0]) ?_ 1 _ rfl; refine blk_put (cs := #[.slice none 0 0, .slice none 0 0]) ?_ 0 _ rfl; exact BK130.out) Tryz.underlying25 rfl (by kernel_rfl)) rfl ?_
        exact ⟨_, _, by first | rfl, by exact Kd.S_nil _ _ _ _ _, by exact Kd.R_nil _ _ _ _ _, by repeat (with_reducible first | exact HB.out | refine below_set ?_ GE130.out)⟩
       ·replace c15 := Bool.eq_false_iff.mpr c15
        subst c15
        have H1 : (if x6_1 = true then (some (([] : List (S80)), ([] : List Bool), false)) else (selector_Read.l0 k1 true x6_1 t134 (t134.length : Int) (wrap64 (x16_1 + 1)) x132000_1 x132001_1)) = some (r1, r2, r3) := by rw [if_neg (show ¬ (false = true) by decide)] at H; exact H
        clear H
        have H := H1
        clear H1
        by_cases c18 : x6_1 = true
        ·subst c18
         have H1 : (some (([] : List (S80)), ([] : List Bool), false)) = some (r1, r2, r3) := by rw [if_pos rfl] at H; exact H
         clear H
         have H := H1
         clear H1
         simp only [Option.some.injEq, Prod.mk.injEq] at H
         obtain ⟨rfl, rfl, rfl⟩ := H
         have p137 : 0 ≤ (x16_1 : Int) := of_decide_eq_true (by first | (with_reducible assumption))
         have q137 : x16_1 < (t134.length : Int) := of_decide_eq_true (by first | (with_reducible assumption))
         obtain ⟨ad137, e137, hx137_0⟩ := Kd.at_string (Kd.R_reads' HO_14.out).2.2 x16_1 p137 q137
         cases e137
         replace p137 := eq_true p137
         replace q137 := eq_true q137
         have hnb19 := NB130_131.out
         have hnc19 := NB131_130.out
         have hcz20_0 : wr.cell? ⟨gb130, 0, none⟩ = some (.slice none 0 0) := (blk_cell BK130.out 0).trans rfl
         have hcz20_1 : wr.cell? ⟨gb130, 1, none⟩ = some (.slice none 0 0) := (blk_cell BK130.out 1).trans rfl
         have hfz20_0 := blk_frozen BK130.out 0
         have hfz20_1 := blk_frozen BK130.out 1
         go_wp2
         refine bodyPost_ret (results_ct rfl _ _ gb130 25 #[.slice none 0 0, .slice none 0 0] (0, 0) _ rfl (by refine blk_put (cs := #[.slice none 0 0, .slice none 0 0]) ?_ 1 _ rfl; refine blk_put (cs := #[.slice none 0 0, .slice none 0 0]) ?_ 0 _ rfl; exact BK130.out) Tryz.underlying25 rfl (by kernel_rfl)) rfl ?_
         exact ⟨_, _, by first | rfl, by exact Kd.S_nil _ _ _ _ _, by exact Kd.R_nil _ _ _ _ _, by repeat (with_reducible first | exact HB.out | refine below_set ?_ GE130.out)⟩
        ·replace c18 := Bool.eq_false_iff.mpr c18
         subst c18
         have H1 : (selector_Read.l0 k1 true false t134 (t134.length : Int) (wrap64 (x16_1 + 1)) x132000_1 x132001_1) = some (r1, r2, r3) := by rw [if_neg (show ¬ (false = true) by decide)] at H; exact H
         clear H
         have H := H1
         clear H1
         have H' := Aside0.mk H
         clear H
         have p137 : 0 ≤ (x16_1 : Int) := of_decide_eq_true (by first | (with_reducible assumption))
         have q137 : x16_1 < (t134.length : Int) := of_decide_eq_true (by first | (with_reducible assumption))
         obtain ⟨ad137, e137, hx137_0⟩ := Kd.at_string (Kd.R_reads' HO_14.out).2.2 x16_1 p137 q137
         cases e137
         replace p137 := eq_true p137
         replace q137 := eq_true q137
         go_wp2
         go_roundg k1
         case measure => have := HK1.out; omega
         case rel => exact ⟨(true), (false), (wrap64 (x16_1 + 1)), (x132000_1), (x132001_1), (u132000), (u132001), (by first | rfl), (by first | rfl), (by first | rfl), H', ⟨by have := HK1.out; omega⟩, ⟨by exact HO_14.out⟩, ⟨by exact HO_132000.out⟩, ⟨by exact HO_132001.out⟩, ⟨by exact BK130.out⟩, ⟨by exact BK131.out⟩, ⟨by exact HB.out⟩⟩
      ·rw [if_neg c14] at H
       have c14b0 : ((rdOf ByteArray.empty t134 x16_1).toList == ([62] : List UInt8)) = false := beq_eq_false_iff_ne.mpr c14
       have c14b1 : ((rdOf ByteArray.empty t134 x16_1).toList != ([62] : List UInt8)) = true := bne_iff_ne.mpr c14
       replace H := Option.bind_eq_some_iff.mp H
       obtain ⟨⟨t138, t139, t142, t145, t146, t147⟩, A210, H⟩ := H
       replace H : (if t147 = true then (selector_Read.j1 k1 x5_1 x6_1 t134 (t134.length : Int) x16_1 ((x132000_1.length : Int) == 8) x132000_1 x132001_1 t138 t139 t142 t145 t146) else (selector_Read.j1 k1 x5_1 x6_1 t134 (t134.length : Int) x16_1 true x132000_1 x132001_1 t138 t139 t142 t145 t146)) = some (r1, r2, r3) := H
       have A21 := Aside0.mk A210
       clear A210
       have HC22 := Aside0.mk H
       clear H
       have p137 : 0 ≤ (x16_1 : Int) := of_decide_eq_true (by first | (with_reducible assumption))
       have q137 : x16_1 < (t134.length : Int) := of_decide_eq_true (by first | (with_reducible assumption))
       obtain ⟨ad137, e137, hx137_0⟩ := Kd.at_string (Kd.R_reads' HO_14.out).2.2 x16_1 p137 q137
       cases e137
       replace p137 := eq_true p137
       replace q137 := eq_true q137
       go_upto_region 11 with (first | ((with_reducible refine gate_callee (f := 42) rfl ?_); refine goesL_ (some 29) rfl rfl Tryz.func42 (by kernel_rfl) rfl #[.string (rdOf ByteArray.empty t134 x16_1)] rfl (by (try simp only [List.map_toArray, List.map_cons, List.map_nil]); first | rfl) ?_; (with_reducible refine (selector_simple.calls k1 (rdOf ByteArray.empty t134 x16_1) t138 t139 t142 t145 t146 t147 _ A21.out).mono ?_); rintro e w23 ⟨v140, v143, rfl, ho0, ho1, hb⟩; refine ⟨_, rfl, ?_⟩; have n0_ := Aside0.mk (Kd.R_mono (Kd.R_told (Kd.R_told (Kd.R_old HO_14.out hb) (Kd.R_base ho0)) (Kd.R_base ho1)) (fun _ h_ => h_.1)); have n1_ := Aside0.mk (Kd.S_mono (Kd.S_told (Kd.S_told (Kd.S_old HO_132000.out hb) (Kd.R_base ho0)) (Kd.R_base ho1)) (fun _ h_ => h_.1)); have n2_ := Aside0.mk (Kd.R_below HO_132001.out hb); have n3_ := Aside0.mk (Kd.R_lower (Kd.R_new' ho0 (Kd.R_lt HO_14.out)) (below_size HB.out)); have n4_ := Aside0.mk (Kd.R_lower (Kd.R_new' ho1 (Kd.R_lt HO_14.out)) (below_size HB.out)); have n5_ := Aside0.mk (blk_below (g := gb130) (o := .cells #[.slice none 0 0, .slice none 0 0] 25 (0, 0)) BK130.out hb); have n6_ := Aside0.mk (blk_below (g := gb131) (o := .cells #[u132000, u132001] 25 (0, 0)) BK131.out hb); have n7_ := Aside0.mk (below_step HB.out hb); clear HO_14; clear HO_132000; clear HO_132001; clear BK130; clear BK131; clear HB; have HO_14 := n0_; have HO_132000 := n1_; have HO_132001 := n2_; have HO141 := n3_; have HO144 := n4_; have BK130 := n5_; have BK131 := n6_; have HB := n7_; clear n0_ n1_ n2_ n3_ n4_ n5_ n6_ n7_; (try clear hb); (try clear hb2); (try clear hk); (try clear hi); (try clear ho0); (try clear ho1)) | ((with_reducible refine gate_dst (N := 9) rfl ?_); (try (refine gate_guard (by rfl) ?_; dsimp only)); refine box_event ?hg (N := 9) ?hd (cs := #[.string (⟨#[]⟩ : ByteArray), .slice none 0 0, .slice none 0 0, .bool false, .bool false]) (t := 80) ?hr ?_; (case hd => rfl); (case hg => rfl); (case hr => first | (go_simp; done)); intro gb148 hg w24 hbox hb; have n0_ := Aside0.mk (Kd.R_below HO_14.out hb); have n1_ := Aside0.mk (Kd.S_below (Kd.S_elderB HO_132000.out gb148 (Nat.le_of_eq hg.symm)) hb); have n2_ := Aside0.mk (Kd.R_below HO_132001.out hb); have n3_ := Aside0.mk (Kd.R_below HO141.out hb); have n4_ := Aside0.mk (Kd.R_below HO144.out hb); have n5_ := Aside0.mk (blk_below (g := gb130) (o := .cells #[.slice none 0 0, .slice none 0 0] 25 (0, 0)) BK130.out hb); have n6_ := Aside0.mk (blk_below (g := gb131) (o := .cells #[u132000, u132001] 25 (0, 0)) BK131.out hb); have n7_ := Aside0.mk (below_step HB.out hb); have n8_ := Aside0.mk (hbox); have n9_ := Aside0.mk ((by rw [hg]; exact (below_size HB.out) : w.heap.size ≤ gb148)); have n10_ := Aside0.mk ((by rw [hg]; exact (below_size HB.out) : w.heap.size ≤ gb148)); have n11_ := Aside0.mk ((by rw [hg]; exact Nat.ne_of_lt (blk_lt (g := gb130) (o := .cells #[.slice none 0 0, .slice none 0 0] 25 (0, 0)) BK130.out) : gb130 ≠ gb148)); have n12_ := Aside0.mk ((by rw [hg]; exact Nat.ne_of_gt (blk_lt (g := gb130) (o := .cells #[.slice none 0 0, .slice none 0 0] 25 (0, 0)) BK130.out) : gb148 ≠ gb130)); have n13_ := Aside0.mk ((by rw [hg]; exact Nat.ne_of_lt (blk_lt (g := gb131) (o := .cells #[u132000, u132001] 25 (0, 0)) BK131.out) : gb131 ≠ gb148)); have n14_ := Aside0.mk ((by rw [hg]; exact Nat.ne_of_gt (blk_lt (g := gb131) (o := .cells #[u132000, u132001] 25 (0, 0)) BK131.out) : gb148 ≠ gb131)); clear HO_14; clear HO_132000; clear HO_132001; clear HO141; clear HO144; clear BK130; clear BK131; clear HB; have HO_14 := n0_; have HO_132000 := n1_; have HO_132001 := n2_; have HO141 := n3_; have HO144 := n4_; have BK130 := n5_; have BK131 := n6_; have HB := n7_; have BK148 := n8_; have GW148 := n9_; have GE148 := n10_; have NB130_148 := n11_; have NB148_130 := n12_; have NB131_148 := n13_; have NB148_131 := n14_; clear n0_ n1_ n2_ n3_ n4_ n5_ n6_ n7_ n8_ n9_ n10_ n11_ n12_ n13_ n14_; clear hb hbox hg; have hnb25 := NB148_130.out; have hnc25 := NB130_148.out; have hnb26 := NB148_131.out; have hnc26 := NB131_148.out; have hcz27_0 : w24.cell? ⟨gb148, 0, none⟩ = some (.string (⟨#[]⟩ : ByteArray)) := (blk_cell BK148.out 0).trans rfl; have hcz27_1 : w24.cell? ⟨gb148, 1, none⟩ = some (.slice none 0 0) := (blk_cell BK148.out 1).trans rfl; have hcz27_2 : w24.cell? ⟨gb148, 2, none⟩ = some (.slice none 0 0) := (blk_cell BK148.out 2).trans rfl; have hcz27_3 : w24.cell? ⟨gb148, 3, none⟩ = some (.bool false) := (blk_cell BK148.out 3).trans rfl; have hcz27_4 : w24.cell? ⟨gb148, 4, none⟩ = some (.bool false) := (blk_cell BK148.out 4).trans rfl; have hfz27_0 := blk_frozen BK148.out 0; have hfz27_1 := blk_frozen BK148.out 1; have hfz27_2 := blk_frozen BK148.out 2; have hfz27_3 := blk_frozen BK148.out 3; have hfz27_4 := blk_frozen BK148.out 4; obtain ⟨Ao28, co28, eo28⟩ := Kd.R_slice HO141.out; subst eo28; obtain ⟨Ao29, co29, eo29⟩ := Kd.R_slice HO144.out; subst eo29))
       (try simp only [Act.put, List.setIfInBounds_toArray, List.set_cons_zero, List.set_cons_succ])
       go_cut [39] (fun v39 wc => ∃ (kq : Nat) (x39_21 : Bool), v39 = .bool x39_21 ∧ Aside0 (selector_Read.j1 kq x5_1 x6_1 t134 (t134.length : Int) x16_1 x39_21 x132000_1 x132001_1 t138 t139 t142 t145 t146 = some (r1, r2, r3)) ∧ Aside0 (kq ≤ k1) ∧ Aside0 (Kd.R Kd.string 9 wc w.heap.size (fun k_ => some k_ ≠ ((.slice Ao28 t139.length co28) : Value).ownBlock ∧ some k_ ≠ ((.slice Ao29 t142.length co29) : Value).ownBlock) (.slice (some ad137) t134.length co10) t134) ∧ Aside0 (Kd.S k80 80 wc w.heap.size (fun k_ => some k_ ≠ ((.slice (some ad137) t134.length co10) : Value).ownBlock ∧ some k_ ≠ ((.slice Ao28 t139.length co28) : Value).ownBlock ∧ some k_ ≠ ((.slice Ao29 t142.length co29) : Value).ownBlock ∧ k_ ≠ gb148) u132000 x132000_1) ∧ Aside0 (Kd.R Kd.bool 4 wc w.heap.size (fun _ => True) u132001 x132001_1) ∧ Aside0 (Kd.R Kd.string 9 wc w.heap.size (fun k_ => some k_ ≠ ((.slice (some ad137) t134.length co10) : Value).ownBlock ∧ some k_ ≠ ((.slice Ao29 t142.length co29) : Value).ownBlock) (.slice Ao28 t139.length co28) t139) ∧ Aside0 (Kd.R Kd.string 9 wc w.heap.size (fun k_ => some k_ ≠ ((.slice (some ad137) t134.length co10) : Value).ownBlock ∧ some k_ ≠ ((.slice Ao28 t139.length co28) : Value).ownBlock) (.slice Ao29 t142.length co29) t142) ∧ Aside0 (wc.heap[gb130]? = some (.cells #[(.slice none 0 0), (.slice none 0 0)] 25 (0, 0))) ∧ Aside0 (wc.heap[gb131]? = some (.cells #[u132000, u132001] 25 (0, 0))) ∧ Aside0 (wc.heap[gb148]? = some (.cells #[.string t138, (.slice Ao28 t139.length co28), (.slice Ao29 t142.length co29), .bool t145, .bool t146] 80 (0, 0))) ∧ Aside0 (Below w.heap.size w wc))
       case first =>
        have H := HC22.out
        clear HC22
        by_cases c30 : t147 = true
        ·subst c30
         have H1 : (selector_Read.j1 k1 x5_1 x6_1 t134 (t134.length : Int) x16_1 ((x132000_1.length : Int) == 8) x132000_1 x132001_1 t138 t139 t142 t145 t146) = some (r1, r2, r3) := by rw [if_pos rfl] at H; exact H
         clear H
         have H := H1
         clear H1
         have H' := Aside0.mk H
         clear H
         have hnb31 := NB131_130.out
         have hnc31 := NB130_131.out
         have hnb32 := NB131_148.out
         have hnc32 := NB148_131.out
         have hcz33_0 : w24.cell? ⟨gb131, 0, none⟩ = some (u132000) := (blk_cell BK131.out 0).trans rfl
         have hcz33_1 : w24.cell? ⟨gb131, 1, none⟩ = some (u132001) := (blk_cell BK131.out 1).trans rfl
         have hfz33_0 := blk_frozen BK131.out 0
         have hfz33_1 := blk_frozen BK131.out 1
         obtain ⟨Ao34, co34, eo34⟩ := Kd.S_slice HO_132000.out
         subst eo34
         go_wp2
         go_meet
         case rel => exact ⟨_, (((x132000_1.length : Int) == 8)), (by first | rfl), H', ⟨by have := HK1.out; first | omega⟩, ⟨by exact Kd.R_mono (Kd.R_far (p := ⟨gb148, 4, none⟩) (Kd.R_far (p := ⟨gb148, 3, none⟩) (Kd.R_far (p := ⟨gb148, 2, none⟩) (Kd.R_far (p := ⟨gb148, 1, none⟩) (Kd.R_far (p := ⟨gb148, 0, none⟩) (Kd.R_types HO_14.out BK148.out (by decide)) (fun _ hk => hk.2) (.string t138)) (fun _ hk => hk.2) (.slice Ao28 t139.length co28)) (fun _ hk => hk.2) (.slice Ao29 t142.length co29)) (fun _ hk => hk.2) (.bool t145)) (fun _ hk => hk.2) (.bool t146)) (fun _ hk => ⟨hk.1.1.2, hk.1.2⟩)⟩, ⟨by exact Kd.S_mono (Kd.S_far (p := ⟨gb148, 4, none⟩) (Kd.S_far (p := ⟨gb148, 3, none⟩) (Kd.S_far (p := ⟨gb148, 2, none⟩) (Kd.S_far (p := ⟨gb148, 1, none⟩) (Kd.S_far (p := ⟨gb148, 0, none⟩) (Kd.S_mono HO_132000.out (fun k_ hk => (⟨hk, hk.2⟩ : _ ∧ k_ ≠ gb148))) (fun _ hk => hk.2) (.string t138)) (fun _ hk => hk.2) (.slice Ao28 t139.length co28)) (fun _ hk => hk.2) (.slice Ao29 t142.length co29)) (fun _ hk => hk.2) (.bool t145)) (fun _ hk => hk.2) (.bool t146)) (fun _ hk => ⟨hk.1.1.1.1, ⟨hk.1.1.1.2, ⟨hk.1.1.2, hk.1.2⟩⟩⟩)⟩, ⟨by exact Kd.R_mono (Kd.R_far (p := ⟨gb148, 4, none⟩) (Kd.R_far (p := ⟨gb148, 3, none⟩) (Kd.R_far (p := ⟨gb148, 2, none⟩) (Kd.R_far (p := ⟨gb148, 1, none⟩) (Kd.R_far (p := ⟨gb148, 0, none⟩) (Kd.R_types HO_132001.out BK148.out (by decide)) (fun _ hk => hk.2) (.string t138)) (fun _ hk => hk.2) (.slice Ao28 t139.length co28)) (fun _ hk => hk.2) (.slice Ao29 t142.length co29)) (fun _ hk => hk.2) (.bool t145)) (fun _ hk => hk.2) (.bool t146)) (fun _ hk => trivial)⟩, ⟨by exact Kd.R_mono (Kd.R_far (p := ⟨gb148, 4, none⟩) (Kd.R_far (p := ⟨gb148, 3, none⟩) (Kd.R_far (p := ⟨gb148, 2, none⟩) (Kd.R_far (p := ⟨gb148, 1, none⟩) (Kd.R_far (p := ⟨gb148, 0, none⟩) (Kd.R_types HO141.out BK148.out (by decide)) (fun _ hk => hk.2) (.string t138)) (fun _ hk => hk.2) (.slice Ao28 t139.length co28)) (fun _ hk => hk.2) (.slice Ao29 t142.length co29)) (fun _ hk => hk.2) (.bool t145)) (fun _ hk => hk.2) (.bool t146)) (fun _ hk => ⟨hk.1.2, hk.1.1⟩)⟩, ⟨by exact Kd.R_mono (Kd.R_far (p := ⟨gb148, 4, none⟩) (Kd.R_far (p := ⟨gb148, 3, none⟩) (Kd.R_far (p := ⟨gb148, 2, none⟩) (Kd.R_far (p := ⟨gb148, 1, none⟩) (Kd.R_far (p := ⟨gb148, 0, none⟩) (Kd.R_types HO144.out BK148.out (by decide)) (fun _ hk => hk.2) (.string t138)) (fun _ hk => hk.2) (.slice Ao28 t139.length co28)) (fun _ hk => hk.2) (.slice Ao29 t142.length co29)) (fun _ hk => hk.2) (.bool t145)) (fun _ hk => hk.2) (.bool t146)) (fun _ hk => ⟨hk.1.2, hk.1.1⟩)⟩, ⟨by refine blk_far ?_ NB130_148.out _; refine blk_far ?_ NB130_148.out _; refine blk_far ?_ NB130_148.out _; refine blk_far ?_ NB130_148.out _; refine blk_far ?_ NB130_148.out _; exact BK130.out⟩, ⟨by refine blk_far ?_ NB131_148.out _; refine blk_far ?_ NB131_148.out _; refine blk_far ?_ NB131_148.out _; refine blk_far ?_ NB131_148.out _; refine blk_far ?_ NB131_148.out _; exact BK131.out⟩, ⟨by refine blk_put (cs := #[.string t138, .slice Ao28 t139.length co28, .slice Ao29 t142.length co29, .bool t145, .bool false]) ?_ 4 _ rfl; refine blk_put (cs := #[.string t138, .slice Ao28 t139.length co28, .slice Ao29 t142.length co29, .bool false, .bool false]) ?_ 3 _ rfl; refine blk_put (cs := #[.string t138, .slice Ao28 t139.length co28, .slice none 0 0, .bool false, .bool false]) ?_ 2 _ rfl; refine blk_put (cs := #[.string t138, .slice none 0 0, .slice none 0 0, .bool false, .bool false]) ?_ 1 _ rfl; refine blk_put (cs := #[.string (⟨#[]⟩ : ByteArray), .slice none 0 0, .slice none 0 0, .bool false, .bool false]) ?_ 0 _ rfl; exact BK148.out⟩, ⟨by repeat (with_reducible first | exact HB.out | refine below_set ?_ GE148.out)⟩⟩
        ·replace c30 := Bool.eq_false_iff.mpr c30
         subst c30
         have H1 : (selector_Read.j1 k1 x5_1 x6_1 t134 (t134.length : Int) x16_1 true x132000_1 x132001_1 t138 t139 t142 t145 t146) = some (r1, r2, r3) := by rw [if_neg (show ¬ (false = true) by decide)] at H; exact H
         clear H
         have H := H1
         clear H1
         have H' := Aside0.mk H
         clear H
         go_wp2
         go_meet
         case rel => exact ⟨_, (true), (by first | rfl), H', ⟨by have := HK1.out; first | omega⟩, ⟨by exact Kd.R_mono (Kd.R_far (p := ⟨gb148, 4, none⟩) (Kd.R_far (p := ⟨gb148, 3, none⟩) (Kd.R_far (p := ⟨gb148, 2, none⟩) (Kd.R_far (p := ⟨gb148, 1, none⟩) (Kd.R_far (p := ⟨gb148, 0, none⟩) (Kd.R_types HO_14.out BK148.out (by decide)) (fun _ hk => hk.2) (.string t138)) (fun _ hk => hk.2) (.slice Ao28 t139.length co28)) (fun _ hk => hk.2) (.slice Ao29 t142.length co29)) (fun _ hk => hk.2) (.bool t145)) (fun _ hk => hk.2) (.bool t146)) (fun _ hk => ⟨hk.1.1.2, hk.1.2⟩)⟩, ⟨by exact Kd.S_mono (Kd.S_far (p := ⟨gb148, 4, none⟩) (Kd.S_far (p := ⟨gb148, 3, none⟩) (Kd.S_far (p := ⟨gb148, 2, none⟩) (Kd.S_far (p := ⟨gb148, 1, none⟩) (Kd.S_far (p := ⟨gb148, 0, none⟩) (Kd.S_mono HO_132000.out (fun k_ hk => (⟨hk, hk.2⟩ : _ ∧ k_ ≠ gb148))) (fun _ hk => hk.2) (.string t138)) (fun _ hk => hk.2) (.slice Ao28 t139.length co28)) (fun _ hk => hk.2) (.slice Ao29 t142.length co29)) (fun _ hk => hk.2) (.bool t145)) (fun _ hk => hk.2) (.bool t146)) (fun _ hk => ⟨hk.1.1.1.1, ⟨hk.1.1.1.2, ⟨hk.1.1.2, hk.1.2⟩⟩⟩)⟩, ⟨by exact Kd.R_mono (Kd.R_far (p := ⟨gb148, 4, none⟩) (Kd.R_far (p := ⟨gb148, 3, none⟩) (Kd.R_far (p := ⟨gb148, 2, none⟩) (Kd.R_far (p := ⟨gb148, 1, none⟩) (Kd.R_far (p := ⟨gb148, 0, none⟩) (Kd.R_types HO_132001.out BK148.out (by decide)) (fun _ hk => hk.2) (.string t138)) (fun _ hk => hk.2) (.slice Ao28 t139.length co28)) (fun _ hk => hk.2) (.slice Ao29 t142.length co29)) (fun _ hk => hk.2) (.bool t145)) (fun _ hk => hk.2) (.bool t146)) (fun _ hk => trivial)⟩, ⟨by exact Kd.R_mono (Kd.R_far (p := ⟨gb148, 4, none⟩) (Kd.R_far (p := ⟨gb148, 3, none⟩) (Kd.R_far (p := ⟨gb148, 2, none⟩) (Kd.R_far (p := ⟨gb148, 1, none⟩) (Kd.R_far (p := ⟨gb148, 0, none⟩) (Kd.R_types HO141.out BK148.out (by decide)) (fun _ hk => hk.2) (.string t138)) (fun _ hk => hk.2) (.slice Ao28 t139.length co28)) (fun _ hk => hk.2) (.slice Ao29 t142.length co29)) (fun _ hk => hk.2) (.bool t145)) (fun _ hk => hk.2) (.bool t146)) (fun _ hk => ⟨hk.1.2, hk.1.1⟩)⟩, ⟨by exact Kd.R_mono (Kd.R_far (p := ⟨gb148, 4, none⟩) (Kd.R_far (p := ⟨gb148, 3, none⟩) (Kd.R_far (p := ⟨gb148, 2, none⟩) (Kd.R_far (p := ⟨gb148, 1, none⟩) (Kd.R_far (p := ⟨gb148, 0, none⟩) (Kd.R_types HO144.out BK148.out (by decide)) (fun _ hk => hk.2) (.string t138)) (fun _ hk => hk.2) (.slice Ao28 t139.length co28)) (fun _ hk => hk.2) (.slice Ao29 t142.length co29)) (fun _ hk => hk.2) (.bool t145)) (fun _ hk => hk.2) (.bool t146)) (fun _ hk => ⟨hk.1.2, hk.1.1⟩)⟩, ⟨by refine blk_far ?_ NB130_148.out _; refine blk_far ?_ NB130_148.out _; refine blk_far ?_ NB130_148.out _; refine blk_far ?_ NB130_148.out _; refine blk_far ?_ NB130_148.out _; exact BK130.out⟩, ⟨by refine blk_far ?_ NB131_148.out _; refine blk_far ?_ NB131_148.out _; refine blk_far ?_ NB131_148.out _; refine blk_far ?_ NB131_148.out _; refine blk_far ?_ NB131_148.out _; exact BK131.out⟩, ⟨by refine blk_put (cs := #[.string t138, .slice Ao28 t139.length co28, .slice Ao29 t142.length co29, .bool t145, .bool false]) ?_ 4 _ rfl; refine blk_put (cs := #[.string t138, .slice Ao28 t139.length co28, .slice Ao29 t142.length co29, .bool false, .bool false]) ?_ 3 _ rfl; refine blk_put (cs := #[.string t138, .slice Ao28 t139.length co28, .slice none 0 0, .bool false, .bool false]) ?_ 2 _ rfl; refine blk_put (cs := #[.string t138, .slice none 0 0, .slice none 0 0, .bool false, .bool false]) ?_ 1 _ rfl; refine blk_put (cs := #[.string (⟨#[]⟩ : ByteArray), .slice none 0 0, .slice none 0 0, .bool false, .bool false]) ?_ 0 _ rfl; exact BK148.out⟩, ⟨by repeat (with_reducible first | exact HB.out | refine below_set ?_ GE148.out)⟩⟩
       case rest =>
        clear HC22
        try clear c1
        try clear p1
        try clear q1
        try clear hx1
        try clear c2
        try clear p2
        try clear c3
        try clear c4
        try clear p6
        try clear c11
        try clear c11b0
        try clear c12
        try clear c12b0
        try clear c13
        try clear c13b0
        try clear p13
        try clear q13
        try clear hx13
        try clear c14
        try clear c14b0
        try clear c14b1
        try clear c15
        try clear c16
        try clear c18
        try clear c19
        try clear c25
        try clear c26
        try clear c30
        try clear c31
        try clear c32
        try clear hcz17_0
        try clear hcz17_1
        try clear hcz20_0
        try clear hcz20_1
        try clear hcz27_0
        try clear hcz27_1
        try clear hcz27_2
        try clear hcz27_3
        try clear hcz27_4
        try clear hcz33_0
        try clear hcz33_1
        try clear hfz17_0
        try clear hfz17_1
        try clear hfz20_0
        try clear hfz20_1
        try clear hfz27_0
        try clear hfz27_1
        try clear hfz27_2
        try clear hfz27_3
        try clear hfz27_4
        try clear hfz33_0
        try clear hfz33_1
        try clear hx137_0
        try clear p137
        try clear p2
        try clear q137
        obtain ⟨kq, x39_21, rfl, HA, HJ21, HO_14, HO_132000, HO_132001, HO_149001, HO_149002, BK130, BK131, BK148, HB⟩ := hcut
        cases kq with
        | zero => exact absurd HA.out (by simp [selector_Read.j1])
        | succ kj21 =>
         have H := HA.out
         clear HA
         simp only [selector_Read.j1] at H
         by_cases c35 : x39_21 = true
         ·subst c35
          have H1 : (some (([] : List (S80)), ([] : List Bool), false)) = some (r1, r2, r3) := by rw [if_pos rfl] at H; exact H
          clear H
          have H := H1
          clear H1
          simp only [Option.some.injEq, Prod.mk.injEq] at H
          obtain ⟨rfl, rfl, rfl⟩ := H
          have hnb36 := NB130_131.out
          have hnc36 := NB131_130.out
          have hnb37 := NB130_148.out
          have hnc37 := NB148_130.out
          have hcz38_0 : wc.cell? ⟨gb130, 0, none⟩ = some (.slice none 0 0) := (blk_cell BK130.out 0).trans rfl
          have hcz38_1 : wc.cell? ⟨gb130, 1, none⟩ = some (.slice none 0 0) := (blk_cell BK130.out 1).trans rfl
          have hfz38_0 := blk_frozen BK130.out 0
          have hfz38_1 := blk_frozen BK130.out 1
          go_wp2
          refine bodyPost_ret (results_ct rfl _ _ gb130 25 #[.slice none 0 0, .slice none 0 0] (0, 0) _ rfl (by refine blk_put (cs := #[.slice none 0 0, .slice none 0 0]) ?_ 1 _ rfl; refine blk_put (cs := #[.slice none 0 0, .slice none 0 0]) ?_ 0 _ rfl; exact BK130.out) Tryz.underlying25 rfl (by kernel_rfl)) rfl ?_
          exact ⟨_, _, by first | rfl, by exact Kd.S_nil _ _ _ _ _, by exact Kd.R_nil _ _ _ _ _, by repeat (with_reducible first | exact HB.out | refine below_set ?_ GE130.out)⟩
         ·replace c35 := Bool.eq_false_iff.mpr c35
          subst c35
          have H1 : (if x6_1 = true then (if x132000_1.length < 1954687338268 then (selector_Read.l0 kj21 false false t134 (t134.length : Int) (wrap64 (x16_1 + 1)) (x132000_1 ++ [(⟨t138, t139, t142, t145, t146⟩ : S80)]) x132001_1) else (none)) else (if x132001_1.length < 140737488355328 then (if x132000_1.length < 1954687338268 then (selector_Read.l0 kj21 false false t134 (t134.length : Int) (wrap64 (x16_1 + 1)) (x132000_1 ++ [(⟨t138, t139, t142, t145, t146⟩ : S80)]) (x132001_1 ++ [x5_1])) else (none)) else (none))) = some (r1, r2, r3) := by rw [if_neg (show ¬ (false = true) by decide)] at H; exact H
          clear H
          have H := H1
          clear H1
          by_cases c39 : x6_1 = true
          ·subst c39
           have H1 : (if x132000_1.length < 1954687338268 then (selector_Read.l0 kj21 false false t134 (t134.length : Int) (wrap64 (x16_1 + 1)) (x132000_1 ++ [(⟨t138, t139, t142, t145, t146⟩ : S80)]) x132001_1) else (none)) = some (r1, r2, r3) := by rw [if_pos rfl] at H; exact H
           clear H
           have H := H1
           clear H1
           by_cases c40 : x132000_1.length < 1954687338268
           ·rw [if_pos c40] at H
            have LMc40 := Aside0.mk c40
            clear c40
            obtain ⟨y149, hy149⟩ : ∃ y_ : List (S80), y_ = (x132000_1 ++ [(⟨t138, t139, t142, t145, t146⟩ : S80)]) := ⟨_, rfl⟩
            replace H : (selector_Read.l0 kj21 false false t134 (t134.length : Int) (wrap64 (x16_1 + 1)) y149 x132001_1) = some (r1, r2, r3) := by first | (rw [hy149]; with_reducible exact H)
            have Ny149 := Aside0.mk hy149
            clear hy149
            have H' := Aside0.mk H
            clear H
            have hnb41 := NB131_130.out
            have hnc41 := NB130_131.out
            have hnb42 := NB131_148.out
            have hnc42 := NB148_131.out
            have hcz43_0 : wc.cell? ⟨gb131, 0, none⟩ = some (u132000) := (blk_cell BK131.out 0).trans rfl
            have hcz43_1 : wc.cell? ⟨gb131, 1, none⟩ = some (u132001) := (blk_cell BK131.out 1).trans rfl
            have hfz43_0 := blk_frozen BK131.out 0
            have hfz43_1 := blk_frozen BK131.out 1
            have hnb44 := NB148_130.out
            have hnc44 := NB130_148.out
            have hcz45_0 : wc.cell? ⟨gb148, 0, none⟩ = some (.string t138) := (blk_cell BK148.out 0).trans rfl
            have hcz45_1 : wc.cell? ⟨gb148, 1, none⟩ = some (.slice Ao28 t139.length co28) := (blk_cell BK148.out 1).trans rfl
            have hcz45_2 : wc.cell? ⟨gb148, 2, none⟩ = some (.slice Ao29 t142.length co29) := (blk_cell BK148.out 2).trans rfl
            have hcz45_3 : wc.cell? ⟨gb148, 3, none⟩ = some (.bool t145) := (blk_cell BK148.out 3).trans rfl
            have hcz45_4 : wc.cell? ⟨gb148, 4, none⟩ = some (.bool t146) := (blk_cell BK148.out 4).trans rfl
            have hfz45_0 := blk_frozen BK148.out 0
            have hfz45_1 := blk_frozen BK148.out 1
            have hfz45_2 := blk_frozen BK148.out 2
            have hfz45_3 := blk_frozen BK148.out 3
            have hfz45_4 := blk_frozen BK148.out 4
            go_wp2_with (first | ((with_reducible refine gate_builtin (b := .append) (xs := #[.tmp 50, .tmp 52]) rfl ?_); (try (refine gate_guard (by rfl) ?_; dsimp only)); at_builtin; refine Kd.S_append k80 (w0 := w) w.heap.size rfl (.tmp 50) (.tmp 52) 22 80 (.agg #[(.string ⟨#[]⟩), (.slice none 0 0), (.slice none 0 0), (.bool false), (.bool false)]) 72 rfl Tryz.underlying22 info80 rfl (by decide) (by omega) u132000 x132000_1 (⟨t138, t139, t142, t145, t146⟩ : S80) [.string t138, .slice Ao28 t139.length co28, .slice Ao29 t142.length co29, .bool t145, .bool t146] (fun k_ => some k_ ≠ (.slice (some ad137) t134.length co10 : Value).ownBlock ∧ k_ ≠ gb148) (fun k_ => some k_ = (.slice Ao28 t139.length co28 : Value).ownBlock ∨ some k_ = (.slice Ao29 t142.length co29 : Value).ownBlock) rfl rfl ?aP (fun k_ hk_ => hk_.elim (fun h_ => ((Kd.R_mono (ok' := fun k_ => ((fun k_ => some k_ ≠ (.slice (some ad137) t134.length co10 : Value).ownBlock ∧ k_ ≠ gb148)) k_ ∧ some k_ ≠ (u132000 : Value).ownBlock) (Kd.R_types (Kd.R_apart' (HO_149001.out) (Kd.S_typed HO_132000.out) (by decide)) BK148.out (by decide)) (fun k_ hk => ⟨⟨hk.1.1.1, hk.2⟩, hk.1.2⟩))).1 k_ h_.symm) (fun h_ => ((Kd.R_mono (ok' := fun k_ => ((fun k_ => some k_ ≠ (.slice (some ad137) t134.length co10 : Value).ownBlock ∧ k_ ≠ gb148)) k_ ∧ some k_ ≠ (u132000 : Value).ownBlock) (Kd.R_types (Kd.R_apart' (HO_149002.out) (Kd.S_typed HO_132000.out) (by decide)) BK148.out (by decide)) (fun k_ hk => ⟨⟨hk.1.1.1, hk.2⟩, hk.1.2⟩))).1 k_ h_.symm)) ?aF ?aO ?aB ?aS ?aL ?_; (case aP => exact k80_mkM _ _ _ (⟨t138, t139, t142, t145, t146⟩ : S80) (Kd.R_mono (Kd.R_tight rfl (Kd.R_mono (ok' := fun k_ => ((fun k_ => some k_ ≠ (.slice (some ad137) t134.length co10 : Value).ownBlock ∧ k_ ≠ gb148)) k_ ∧ some k_ ≠ (u132000 : Value).ownBlock) (Kd.R_types (Kd.R_apart' (HO_149001.out) (Kd.S_typed HO_132000.out) (by decide)) BK148.out (by decide)) (fun k_ hk => ⟨⟨hk.1.1.1, hk.2⟩, hk.1.2⟩))) (fun _ h_ => Or.inl h_)) (Kd.R_mono (Kd.R_tight rfl (Kd.R_mono (ok' := fun k_ => ((fun k_ => some k_ ≠ (.slice (some ad137) t134.length co10 : Value).ownBlock ∧ k_ ≠ gb148)) k_ ∧ some k_ ≠ (u132000 : Value).ownBlock) (Kd.R_types (Kd.R_apart' (HO_149002.out) (Kd.S_typed HO_132000.out) (by decide)) BK148.out (by decide)) (fun k_ hk => ⟨⟨hk.1.1.1, hk.2⟩, hk.1.2⟩))) (fun _ h_ => Or.inr (h_)))); (case aB => exact HB.out); (case aF => exact (fun k_ hk => ⟨Kd.fresh' (Kd.R_lt HO_14.out) k_ hk, Kd.freshB (g := gb148) (o := .cells #[.string t138, .slice Ao28 t139.length co28, .slice Ao29 t142.length co29, .bool t145, .bool t146] 80 (0, 0)) BK148.out k_ hk⟩)); (case aO => exact (by exact Kd.S_mono HO_132000.out (fun k_ hk => ⟨⟨hk.1, hk.2.2.2⟩, fun e_ => e_.elim (fun h_ => hk.2.1 h_) (fun h_ => hk.2.2.1 h_)⟩))); (case aS => exact (below_size HB.out)); (case aL => have := LMc40.out; omega); intro v150 w46 ho hb hg hat; rw [← Ny149.out] at ho; have n0_ := Aside0.mk (Kd.R_over' HO_14.out (Kd.S_typed HO_132000.out) (by decide) hg); have n1_ := Aside0.mk (Kd.R_over' HO_132001.out (Kd.S_typed HO_132000.out) (by decide) hg); have n2_ := Aside0.mk (blk_grown (g := gb130) (o := .cells #[.slice none 0 0, .slice none 0 0] 25 (0, 0)) BK130.out hg (Kd.S_ne HO_132000.out BK130.out (by decide))); have n3_ := Aside0.mk (blk_grown (g := gb131) (o := .cells #[u132000, u132001] 25 (0, 0)) BK131.out hg (Kd.S_ne HO_132000.out BK131.out (by decide))); have n4_ := Aside0.mk (blk_grown (g := gb148) (o := .cells #[.string t138, .slice Ao28 t139.length co28, .slice Ao29 t142.length co29, .bool t145, .bool t146] 80 (0, 0)) BK148.out hg (Kd.S_away HO_132000.out (fun _ hk => hk.2.2.2))); have n5_ := Aside0.mk (hb); have n6_ := Aside0.mk (ho); clear HO_14; clear HO_132001; clear BK130; clear BK131; clear BK148; clear HB; clear HO_132000; clear HO_149001; clear HO_149002; have HO_14 := n0_; have HO_132001 := n1_; have BK130 := n2_; have BK131 := n3_; have BK148 := n4_; have HB := n5_; have HO151 := n6_; clear n0_ n1_ n2_ n3_ n4_ n5_ n6_; clear ho hb hg hat; obtain ⟨Ao47, co47, eo47⟩ := Kd.S_slice HO151.out; subst eo47; have hcz48_0 : w46.cell? ⟨gb131, 0, none⟩ = some (u132000) := (blk_cell BK131.out 0).trans rfl; have hcz48_1 : w46.cell? ⟨gb131, 1, none⟩ = some (u132001) := (blk_cell BK131.out 1).trans rfl; have hfz48_0 := blk_frozen BK131.out 0; have hfz48_1 := blk_frozen BK131.out 1))
            go_roundg kj21
            case measure => have := HK1.out; have := HJ21.out; omega
            case rel => exact ⟨(false), (false), (wrap64 (x16_1 + 1)), (y149), (x132001_1), (.slice Ao47 y149.length co47), (u132001), (by first | rfl), (by first | rfl), (by first | rfl), H', ⟨by have := HK1.out; have := HJ21.out; omega⟩, ⟨by exact Kd.R_mono (Kd.R_far (p := ⟨gb131, 0, none⟩) (Kd.R_types HO_14.out BK131.out (by decide)) (fun _ hk => hk.2) (.slice Ao47 y149.length co47)) (fun _ hk => trivial)⟩, ⟨by exact Kd.S_mono (Kd.S_far (p := ⟨gb131, 0, none⟩) (Kd.S_types HO151.out BK131.out (by decide)) (fun _ hk => hk.2) (.slice Ao47 y149.length co47)) (fun _ hk => hk.1.1)⟩, ⟨by exact Kd.R_mono (Kd.R_far (p := ⟨gb131, 0, none⟩) (Kd.R_types HO_132001.out BK131.out (by decide)) (fun _ hk => hk.2) (.slice Ao47 y149.length co47)) (fun _ hk => trivial)⟩, ⟨by refine blk_far ?_ NB130_131.out _; exact BK130.out⟩, ⟨by refine blk_put (cs := #[u132000, u132001]) ?_ 0 _ rfl; exact BK131.out⟩, ⟨by repeat (with_reducible first | exact HB.out | refine below_set ?_ GE131.out)⟩⟩
           ·rw [if_neg c40] at H
            exact absurd H (by simp)
          ·replace c39 := Bool.eq_false_iff.mpr c39
           subst c39
           have H1 : (if x132001_1.length < 140737488355328 then (if x132000_1.length < 1954687338268 then (selector_Read.l0 kj21 false false t134 (t134.length : Int) (wrap64 (x16_1 + 1)) (x132000_1 ++ [(⟨t138, t139, t142, t145, t146⟩ : S80)]) (x132001_1 ++ [x5_1])) else (none)) else (none)) = some (r1, r2, r3) := by rw [if_neg (show ¬ (false = true) by decide)] at H; exact H
           clear H
           have H := H1
           clear H1
           by_cases c49 : x132001_1.length < 140737488355328
           ·rw [if_pos c49] at H
            have LMc49 := Aside0.mk c49
            clear c49
            obtain ⟨y152, hy152⟩ : ∃ y_ : List Bool, y_ = (x132001_1 ++ [x5_1]) := ⟨_, rfl⟩
            replace H : (if x132000_1.length < 1954687338268 then (selector_Read.l0 kj21 false false t134 (t134.length : Int) (wrap64 (x16_1 + 1)) (x132000_1 ++ [(⟨t138, t139, t142, t145, t146⟩ : S80)]) y152) else (none)) = some (r1, r2, r3) := by first | (rw [hy152]; with_reducible exact H)
            have Ny152 := Aside0.mk hy152
            clear hy152
            by_cases c50 : x132000_1.length < 1954687338268
            ·rw [if_pos c50] at H
             have LMc50 := Aside0.mk c50
             clear c50
             obtain ⟨y155, hy155⟩ : ∃ y_ : List (S80), y_ = (x132000_1 ++ [(⟨t138, t139, t142, t145, t146⟩ : S80)]) := ⟨_, rfl⟩
             replace H : (selector_Read.l0 kj21 false false t134 (t134.length : Int) (wrap64 (x16_1 + 1)) y155 y152) = some (r1, r2, r3) := by first | (rw [hy155]; with_reducible exact H)
             have Ny155 := Aside0.mk hy155
             clear hy155
             have H' := Aside0.mk H
             clear H
             have hnb51 := NB131_130.out
             have hnc51 := NB130_131.out
             have hnb52 := NB131_148.out
             have hnc52 := NB148_131.out
             have hcz53_0 : wc.cell? ⟨gb131, 0, none⟩ = some (u132000) := (blk_cell BK131.out 0).trans rfl
             have hcz53_1 : wc.cell? ⟨gb131, 1, none⟩ = some (u132001) := (blk_cell BK131.out 1).trans rfl
             have hfz53_0 := blk_frozen BK131.out 0
             have hfz53_1 := blk_frozen BK131.out 1
             go_wp2_with (first | ((with_reducible refine gate_builtin (b := .append) (xs := #[.tmp 44, .tmp 46]) rfl ?_); (try (refine gate_guard (by rfl) ?_; dsimp only)); at_builtin; refine Kd.R_append Kd.bool (w0 := w) w.heap.size rfl (.tmp 44) (.tmp 46) 23 4 (.bool false) 1 rfl Tryz.underlying23 info4 rfl (by decide) (by omega) u132001 x132001_1 x5_1 [.bool x5_1] (fun _ => True) (fun _ => False) rfl rfl ?aP (fun _ hk => hk.elim) ?aF ?aO ?aB ?aS ?aL ?_; (case aP => exact rfl); (case aB => exact HB.out); (case aF => exact (fun _ _ => trivial)); (case aO => exact HO_132001.out); (case aS => exact (below_size HB.out)); (case aL => have := LMc49.out; omega); intro v153 w54 ho hb hg hat; rw [← Ny152.out] at ho; have n0_ := Aside0.mk (Kd.R_over' HO_14.out (Kd.R_typed HO_132001.out) (by decide) hg); have n1_ := Aside0.mk (Kd.S_over' HO_132000.out (Kd.R_typed HO_132001.out) (by decide) hg); have n2_ := Aside0.mk (Kd.R_over' HO_149001.out (Kd.R_typed HO_132001.out) (by decide) hg); have n3_ := Aside0.mk (Kd.R_over' HO_149002.out (Kd.R_typed HO_132001.out) (by decide) hg); have n4_ := Aside0.mk (blk_grown (g := gb130) (o := .cells #[.slice none 0 0, .slice none 0 0] 25 (0, 0)) BK130.out hg (Kd.R_ne HO_132001.out BK130.out (by decide))); have n5_ := Aside0.mk (blk_grown (g := gb131) (o := .cells #[u132000, u132001] 25 (0, 0)) BK131.out hg (Kd.R_ne HO_132001.out BK131.out (by decide))); have n6_ := Aside0.mk (blk_grown (g := gb148) (o := .cells #[.string t138, .slice Ao28 t139.length co28, .slice Ao29 t142.length co29, .bool t145, .bool t146] 80 (0, 0)) BK148.out hg (Kd.R_ne HO_132001.out BK148.out (by decide))); have n7_ := Aside0.mk (hb); have n8_ := Aside0.mk (ho); clear HO_14; clear HO_132000; clear HO_149001; clear HO_149002; clear BK130; clear BK131; clear BK148; clear HB; clear HO_132001; have HO_14 := n0_; have HO_132000 := n1_; have HO_149001 := n2_; have HO_149002 := n3_; have BK130 := n4_; have BK131 := n5_; have BK148 := n6_; have HB := n7_; have HO154 := n8_; clear n0_ n1_ n2_ n3_ n4_ n5_ n6_ n7_ n8_; clear ho hb hg hat; obtain ⟨Ao55, co55, eo55⟩ := Kd.R_slice HO154.out; subst eo55; have hcz56_0 : w54.cell? ⟨gb131, 0, none⟩ = some (u132000) := (blk_cell BK131.out 0).trans rfl; have hcz56_1 : w54.cell? ⟨gb131, 1, none⟩ = some (u132001) := (blk_cell BK131.out 1).trans rfl; have hfz56_0 := blk_frozen BK131.out 0; have hfz56_1 := blk_frozen BK131.out 1) | ((with_reducible refine gate_store (t := 23) (p := 48) rfl ?_); refine store_event (t := 23) (p := 48) (v := ?vo_w57) (w1 := (w54.setCell ⟨gb131, 1, none⟩ (.slice Ao55 y152.length co55))) ?hg ?ho ?hn ?hr ?_; (case ho => rfl); (case hg => rfl); (case hn => rfl); (case hr => first | (go_simp; done)); intro w57 hw; have n0_ : Aside0 (Kd.R Kd.string 9 w57 w.heap.size (fun k_ => some k_ ≠ (.slice Ao28 t139.length co28 : Value).ownBlock ∧ some k_ ≠ (.slice Ao29 t142.length co29 : Value).ownBlock) (.slice (some ad137) t134.length co10) t134) := ⟨(by rw [hw]; exact (by exact Kd.R_mono (Kd.R_far (p := ⟨gb131, 1, none⟩) (Kd.R_types HO_14.out BK131.out (by decide)) (fun _ hk => hk.2) (.slice Ao55 y152.length co55)) (fun _ hk => ⟨hk.1.1, hk.1.2⟩)))⟩; have n1_ : Aside0 (Kd.S k80 80 w57 w.heap.size (fun k_ => some k_ ≠ (.slice (some ad137) t134.length co10 : Value).ownBlock ∧ some k_ ≠ (.slice Ao28 t139.length co28 : Value).ownBlock ∧ some k_ ≠ (.slice Ao29 t142.length co29 : Value).ownBlock ∧ k_ ≠ gb148) u132000 x132000_1) := ⟨(by rw [hw]; exact (by exact Kd.S_mono (Kd.S_far (p := ⟨gb131, 1, none⟩) (Kd.S_types HO_132000.out BK131.out (by decide)) (fun _ hk => hk.2) (.slice Ao55 y152.length co55)) (fun _ hk => ⟨hk.1.1, ⟨hk.1.2.1, ⟨hk.1.2.2.1, hk.1.2.2.2⟩⟩⟩)))⟩; have n2_ : Aside0 (Kd.R Kd.string 9 w57 w.heap.size (fun k_ => some k_ ≠ (.slice (some ad137) t134.length co10 : Value).ownBlock ∧ some k_ ≠ (.slice Ao29 t142.length co29 : Value).ownBlock) (.slice Ao28 t139.length co28) t139) := ⟨(by rw [hw]; exact (by exact Kd.R_mono (Kd.R_far (p := ⟨gb131, 1, none⟩) (Kd.R_types HO_149001.out BK131.out (by decide)) (fun _ hk => hk.2) (.slice Ao55 y152.length co55)) (fun _ hk => ⟨hk.1.1, hk.1.2⟩)))⟩; have n3_ : Aside0 (Kd.R Kd.string 9 w57 w.heap.size (fun k_ => some k_ ≠ (.slice (some ad137) t134.length co10 : Value).ownBlock ∧ some k_ ≠ (.slice Ao28 t139.length co28 : Value).ownBlock) (.slice Ao29 t142.length co29) t142) := ⟨(by rw [hw]; exact (by exact Kd.R_mono (Kd.R_far (p := ⟨gb131, 1, none⟩) (Kd.R_types HO_149002.out BK131.out (by decide)) (fun _ hk => hk.2) (.slice Ao55 y152.length co55)) (fun _ hk => ⟨hk.1.1, hk.1.2⟩)))⟩; have n4_ : Aside0 (Kd.R Kd.bool 4 w57 w.heap.size (fun _ => True) (.slice Ao55 y152.length co55) y152) := ⟨(by rw [hw]; exact (by exact Kd.R_mono (Kd.R_far (p := ⟨gb131, 1, none⟩) (Kd.R_types HO154.out BK131.out (by decide)) (fun _ hk => hk.2) (.slice Ao55 y152.length co55)) (fun _ hk => trivial)))⟩; have n5_ : Aside0 (w57.heap[gb130]? = some (.cells #[.slice none 0 0, .slice none 0 0] 25 (0, 0))) := ⟨(by rw [hw]; exact (by refine blk_far ?_ NB130_131.out _; exact BK130.out))⟩; have n6_ : Aside0 (w57.heap[gb131]? = some (.cells #[u132000, .slice Ao55 y152.length co55] 25 (0, 0))) := ⟨(by rw [hw]; exact (by refine blk_put (cs := #[u132000, u132001]) ?_ 1 _ rfl; exact BK131.out))⟩; have n7_ : Aside0 (w57.heap[gb148]? = some (.cells #[.string t138, .slice Ao28 t139.length co28, .slice Ao29 t142.length co29, .bool t145, .bool t146] 80 (0, 0))) := ⟨(by rw [hw]; exact (by refine blk_far ?_ NB148_131.out _; exact BK148.out))⟩; have n8_ : Aside0 (Below w.heap.size w w57) := ⟨(by rw [hw]; exact (by repeat (with_reducible first | exact HB.out | refine below_set ?_ GE131.out)))⟩; clear hw; clear HO_14; clear HO_132000; clear HO_149001; clear HO_149002; clear HO154; clear BK130; clear BK131; clear BK148; clear HB; have HO_14 := n0_; have HO_132000 := n1_; have HO_149001 := n2_; have HO_149002 := n3_; have HO154 := n4_; have BK130 := n5_; have BK131 := n6_; have BK148 := n7_; have HB := n8_; clear n0_ n1_ n2_ n3_ n4_ n5_ n6_ n7_ n8_; have hcz58_0 : w57.cell? ⟨gb131, 0, none⟩ = some (u132000) := (blk_cell BK131.out 0).trans rfl; have hcz58_1 : w57.cell? ⟨gb131, 1, none⟩ = some (.slice Ao55 y152.length co55) := (blk_cell BK131.out 1).trans rfl; have hfz58_0 := blk_frozen BK131.out 0; have hfz58_1 := blk_frozen BK131.out 1; have hnb59 := NB148_130.out; have hnc59 := NB130_148.out; have hcz60_0 : w57.cell? ⟨gb148, 0, none⟩ = some (.string t138) := (blk_cell BK148.out 0).trans rfl; have hcz60_1 : w57.cell? ⟨gb148, 1, none⟩ = some (.slice Ao28 t139.length co28) := (blk_cell BK148.out 1).trans rfl; have hcz60_2 : w57.cell? ⟨gb148, 2, none⟩ = some (.slice Ao29 t142.length co29) := (blk_cell BK148.out 2).trans rfl; have hcz60_3 : w57.cell? ⟨gb148, 3, none⟩ = some (.bool t145) := (blk_cell BK148.out 3).trans rfl; have hcz60_4 : w57.cell? ⟨gb148, 4, none⟩ = some (.bool t146) := (blk_cell BK148.out 4).trans rfl; have hfz60_0 := blk_frozen BK148.out 0; have hfz60_1 := blk_frozen BK148.out 1; have hfz60_2 := blk_frozen BK148.out 2; have hfz60_3 := blk_frozen BK148.out 3; have hfz60_4 := blk_frozen BK148.out 4) | ((with_reducible refine gate_builtin (b := .append) (xs := #[.tmp 50, .tmp 52]) rfl ?_); (try (refine gate_guard (by rfl) ?_; dsimp only)); at_builtin; refine Kd.S_append k80 (w0 := w) w.heap.size rfl (.tmp 50) (.tmp 52) 22 80 (.agg #[(.string ⟨#[]⟩), (.slice none 0 0), (.slice none 0 0), (.bool false), (.bool false)]) 72 rfl Tryz.underlying22 info80 rfl (by decide) (by omega) u132000 x132000_1 (⟨t138, t139, t142, t145, t146⟩ : S80) [.string t138, .slice Ao28 t139.length co28, .slice Ao29 t142.length co29, .bool t145, .bool t146] (fun k_ => some k_ ≠ (.slice (some ad137) t134.length co10 : Value).ownBlock ∧ k_ ≠ gb148) (fun k_ => some k_ = (.slice Ao28 t139.length co28 : Value).ownBlock ∨ some k_ = (.slice Ao29 t142.length co29 : Value).ownBlock) rfl rfl ?aP (fun k_ hk_ => hk_.elim (fun h_ => ((Kd.R_mono (ok' := fun k_ => ((fun k_ => some k_ ≠ (.slice (some ad137) t134.length co10 : Value).ownBlock ∧ k_ ≠ gb148)) k_ ∧ some k_ ≠ (u132000 : Value).ownBlock) (Kd.R_types (Kd.R_apart' (HO_149001.out) (Kd.S_typed HO_132000.out) (by decide)) BK148.out (by decide)) (fun k_ hk => ⟨⟨hk.1.1.1, hk.2⟩, hk.1.2⟩))).1 k_ h_.symm) (fun h_ => ((Kd.R_mono (ok' := fun k_ => ((fun k_ => some k_ ≠ (.slice (some ad137) t134.length co10 : Value).ownBlock ∧ k_ ≠ gb148)) k_ ∧ some k_ ≠ (u132000 : Value).ownBlock) (Kd.R_types (Kd.R_apart' (HO_149002.out) (Kd.S_typed HO_132000.out) (by decide)) BK148.out (by decide)) (fun k_ hk => ⟨⟨hk.1.1.1, hk.2⟩, hk.1.2⟩))).1 k_ h_.symm)) ?aF ?aO ?aB ?aS ?aL ?_; (case aP => exact k80_mkM _ _ _ (⟨t138, t139, t142, t145, t146⟩ : S80) (Kd.R_mono (Kd.R_tight rfl (Kd.R_mono (ok' := fun k_ => ((fun k_ => some k_ ≠ (.slice (some ad137) t134.length co10 : Value).ownBlock ∧ k_ ≠ gb148)) k_ ∧ some k_ ≠ (u132000 : Value).ownBlock) (Kd.R_types (Kd.R_apart' (HO_149001.out) (Kd.S_typed HO_132000.out) (by decide)) BK148.out (by decide)) (fun k_ hk => ⟨⟨hk.1.1.1, hk.2⟩, hk.1.2⟩))) (fun _ h_ => Or.inl h_)) (Kd.R_mono (Kd.R_tight rfl (Kd.R_mono (ok' := fun k_ => ((fun k_ => some k_ ≠ (.slice (some ad137) t134.length co10 : Value).ownBlock ∧ k_ ≠ gb148)) k_ ∧ some k_ ≠ (u132000 : Value).ownBlock) (Kd.R_types (Kd.R_apart' (HO_149002.out) (Kd.S_typed HO_132000.out) (by decide)) BK148.out (by decide)) (fun k_ hk => ⟨⟨hk.1.1.1, hk.2⟩, hk.1.2⟩))) (fun _ h_ => Or.inr (h_)))); (case aB => exact HB.out); (case aF => exact (fun k_ hk => ⟨Kd.fresh' (Kd.R_lt HO_14.out) k_ hk, Kd.freshB (g := gb148) (o := .cells #[.string t138, .slice Ao28 t139.length co28, .slice Ao29 t142.length co29, .bool t145, .bool t146] 80 (0, 0)) BK148.out k_ hk⟩)); (case aO => exact (by exact Kd.S_mono HO_132000.out (fun k_ hk => ⟨⟨hk.1, hk.2.2.2⟩, fun e_ => e_.elim (fun h_ => hk.2.1 h_) (fun h_ => hk.2.2.1 h_)⟩))); (case aS => exact (below_size HB.out)); (case aL => have := LMc50.out; omega); intro v156 w61 ho hb hg hat; rw [← Ny155.out] at ho; have n0_ := Aside0.mk (Kd.R_over' HO_14.out (Kd.S_typed HO_132000.out) (by decide) hg); have n1_ := Aside0.mk (blk_grown (g := gb130) (o := .cells #[.slice none 0 0, .slice none 0 0] 25 (0, 0)) BK130.out hg (Kd.S_ne HO_132000.out BK130.out (by decide))); have n2_ := Aside0.mk (blk_grown (g := gb131) (o := .cells #[u132000, .slice Ao55 y152.length co55] 25 (0, 0)) BK131.out hg (Kd.S_ne HO_132000.out BK131.out (by decide))); have n3_ := Aside0.mk (blk_grown (g := gb148) (o := .cells #[.string t138, .slice Ao28 t139.length co28, .slice Ao29 t142.length co29, .bool t145, .bool t146] 80 (0, 0)) BK148.out hg (Kd.S_away HO_132000.out (fun _ hk => hk.2.2.2))); have n4_ := Aside0.mk (Kd.R_over' HO154.out (Kd.S_typed HO_132000.out) (by decide) hg); have n5_ := Aside0.mk (hb); have n6_ := Aside0.mk (ho); clear HO_14; clear BK130; clear BK131; clear BK148; clear HO154; clear HB; clear HO_132000; clear HO_149001; clear HO_149002; have HO_14 := n0_; have BK130 := n1_; have BK131 := n2_; have BK148 := n3_; have HO154 := n4_; have HB := n5_; have HO157 := n6_; clear n0_ n1_ n2_ n3_ n4_ n5_ n6_; clear ho hb hg hat; obtain ⟨Ao62, co62, eo62⟩ := Kd.S_slice HO157.out; subst eo62; have hcz63_0 : w61.cell? ⟨gb131, 0, none⟩ = some (u132000) := (blk_cell BK131.out 0).trans rfl; have hcz63_1 : w61.cell? ⟨gb131, 1, none⟩ = some (.slice Ao55 y152.length co55) := (blk_cell BK131.out 1).trans rfl; have hfz63_0 := blk_frozen BK131.out 0; have hfz63_1 := blk_frozen BK131.out 1))
             go_roundg kj21
             case measure => have := HK1.out; have := HJ21.out; omega
             case rel => exact ⟨(false), (false), (wrap64 (x16_1 + 1)), (y155), (y152), (.slice Ao62 y155.length co62), (.slice Ao55 y152.length co55), (by first | rfl), (by first | rfl), (by first | rfl), H', ⟨by have := HK1.out; have := HJ21.out; omega⟩, ⟨by exact Kd.R_mono (Kd.R_far (p := ⟨gb131, 0, none⟩) (Kd.R_types HO_14.out BK131.out (by decide)) (fun _ hk => hk.2) (.slice Ao62 y155.length co62)) (fun _ hk => trivial)⟩, ⟨by exact Kd.S_mono (Kd.S_far (p := ⟨gb131, 0, none⟩) (Kd.S_types HO157.out BK131.out (by decide)) (fun _ hk => hk.2) (.slice Ao62 y155.length co62)) (fun _ hk => hk.1.1)⟩, ⟨by exact Kd.R_mono (Kd.R_far (p := ⟨gb131, 0, none⟩) (Kd.R_types HO154.out BK131.out (by decide)) (fun _ hk => hk.2) (.slice Ao62 y155.length co62)) (fun _ hk => trivial)⟩, ⟨by refine blk_far ?_ NB130_131.out _; exact BK130.out⟩, ⟨by refine blk_put (cs := #[u132000, .slice Ao55 y152.length co55]) ?_ 0 _ rfl; exact BK131.out⟩, ⟨by repeat (with_reducible first | exact HB.out | refine below_set ?_ GE131.out)⟩⟩
            ·rw [if_neg c50] at H
             exact absurd H (by simp)
           ·rw [if_neg c49] at H
            exact absurd H (by simp)
     ·rw [if_neg c13] at H
      exact absurd H (by simp)
    ·rw [if_neg c12] at H
     exact absurd H (by simp)
   ·rw [if_neg c11] at H
    have c11b0 : decide (x16_1 < (t134.length : Int)) = false := decide_eq_false c11
    clear c11
    by_cases c64 : x6_1 = true
    ·subst c64
     have H1 : (some (([] : List (S80)), ([] : List Bool), false)) = some (r1, r2, r3) := by rw [if_pos rfl] at H; exact H
     clear H
     have H := H1
     clear H1
     simp only [Option.some.injEq, Prod.mk.injEq] at H
     obtain ⟨rfl, rfl, rfl⟩ := H
     have hnb65 := NB130_131.out
     have hnc65 := NB131_130.out
     have hcz66_0 : wr.cell? ⟨gb130, 0, none⟩ = some (.slice none 0 0) := (blk_cell BK130.out 0).trans rfl
     have hcz66_1 : wr.cell? ⟨gb130, 1, none⟩ = some (.slice none 0 0) := (blk_cell BK130.out 1).trans rfl
     have hfz66_0 := blk_frozen BK130.out 0
     have hfz66_1 := blk_frozen BK130.out 1
     go_wp2
     refine bodyPost_ret (results_ct rfl _ _ gb130 25 #[.slice none 0 0, .slice none 0 0] (0, 0) _ rfl (by refine blk_put (cs := #[.slice none 0 0, .slice none 0 0]) ?_ 1 _ rfl; refine blk_put (cs := #[.slice none 0 0, .slice none 0 0]) ?_ 0 _ rfl; exact BK130.out) Tryz.underlying25 rfl (by kernel_rfl)) rfl ?_
     exact ⟨_, _, by first | rfl, by exact Kd.S_nil _ _ _ _ _, by exact Kd.R_nil _ _ _ _ _, by repeat (with_reducible first | exact HB.out | refine below_set ?_ GE130.out)⟩
    ·replace c64 := Bool.eq_false_iff.mpr c64
     subst c64
     have H1 : (if x5_1 = true then (some (([] : List (S80)), ([] : List Bool), false)) else (some (x132000_1, x132001_1, true))) = some (r1, r2, r3) := by rw [if_neg (show ¬ (false = true) by decide)] at H; exact H
     clear H
     have H := H1
     clear H1
     by_cases c67 : x5_1 = true
     ·subst c67
      have H1 : (some (([] : List (S80)), ([] : List Bool), false)) = some (r1, r2, r3) := by rw [if_pos rfl] at H; exact H
      clear H
      have H := H1
      clear H1
      simp only [Option.some.injEq, Prod.mk.injEq] at H
      obtain ⟨rfl, rfl, rfl⟩ := H
      have hnb68 := NB130_131.out
      have hnc68 := NB131_130.out
      have hcz69_0 : wr.cell? ⟨gb130, 0, none⟩ = some (.slice none 0 0) := (blk_cell BK130.out 0).trans rfl
      have hcz69_1 : wr.cell? ⟨gb130, 1, none⟩ = some (.slice none 0 0) := (blk_cell BK130.out 1).trans rfl
      have hfz69_0 := blk_frozen BK130.out 0
      have hfz69_1 := blk_frozen BK130.out 1
      go_wp2
      refine bodyPost_ret (results_ct rfl _ _ gb130 25 #[.slice none 0 0, .slice none 0 0] (0, 0) _ rfl (by refine blk_put (cs := #[.slice none 0 0, .slice none 0 0]) ?_ 1 _ rfl; refine blk_put (cs := #[.slice none 0 0, .slice none 0 0]) ?_ 0 _ rfl; exact BK130.out) Tryz.underlying25 rfl (by kernel_rfl)) rfl ?_
      exact ⟨_, _, by first | rfl, by exact Kd.S_nil _ _ _ _ _, by exact Kd.R_nil _ _ _ _ _, by repeat (with_reducible first | exact HB.out | refine below_set ?_ GE130.out)⟩
     ·replace c67 := Bool.eq_false_iff.mpr c67
      subst c67
      have H1 : (some (x132000_1, x132001_1, true)) = some (r1, r2, r3) := by rw [if_neg (show ¬ (false = true) by decide)] at H; exact H
      clear H
      have H := H1
      clear H1
      simp only [Option.some.injEq, Prod.mk.injEq] at H
      obtain ⟨rfl, rfl, rfl⟩ := H
      have hnb70 := NB131_130.out
      have hnc70 := NB130_131.out
      have hcz71_0 : wr.cell? ⟨gb131, 0, none⟩ = some (u132000) := (blk_cell BK131.out 0).trans rfl
      have hcz71_1 : wr.cell? ⟨gb131, 1, none⟩ = some (u132001) := (blk_cell BK131.out 1).trans rfl
      have hfz71_0 := blk_frozen BK131.out 0
      have hfz71_1 := blk_frozen BK131.out 1
      obtain ⟨Ao72, co72, eo72⟩ := Kd.S_slice HO_132000.out
      subst eo72
      have hcz73_0 : wr.cell? ⟨gb130, 0, none⟩ = some (.slice none 0 0) := (blk_cell BK130.out 0).trans rfl
      have hcz73_1 : wr.cell? ⟨gb130, 1, none⟩ = some (.slice none 0 0) := (blk_cell BK130.out 1).trans rfl
      have hfz73_0 := blk_frozen BK130.out 0
      have hfz73_1 := blk_frozen BK130.out 1
      obtain ⟨Ao74, co74, eo74⟩ := Kd.R_slice HO_132001.out
      subst eo74
      go_wp2
      refine bodyPost_ret (results_ct rfl _ _ gb130 25 #[.slice Ao72 x132000_1.length co72, .slice Ao74 x132001_1.length co74] (0, 0) _ rfl (by refine blk_put (cs := #[.slice Ao72 x132000_1.length co72, .slice none 0 0]) ?_ 1 _ rfl; refine blk_put (cs := #[.slice none 0 0, .slice none 0 0]) ?_ 0 _ rfl; exact BK130.out) Tryz.underlying25 rfl (by kernel_rfl)) rfl ?_
      exact ⟨_, _, by first | rfl, by exact Kd.S_mono (Kd.S_far (p := ⟨gb130, 1, none⟩) (Kd.S_far (p := ⟨gb130, 0, none⟩) (Kd.S_types HO_132000.out BK130.out (by decide)) (fun _ hk => hk.2) (.slice Ao72 x132000_1.length co72)) (fun _ hk => hk.2) (.slice Ao74 x132001_1.length co74)) (fun _ hk => trivial), by exact Kd.R_mono (Kd.R_far (p := ⟨gb130, 1, none⟩) (Kd.R_far (p := ⟨gb130, 0, none⟩) (Kd.R_types HO_132001.out BK130.out (by decide)) (fun _ hk => hk.2) (.slice Ao72 x132000_1.length co72)) (fun _ hk => hk.2) (.slice Ao74 x132001_1.length co74)) (fun _ hk => trivial), by repeat (with_reducible first | exact HB.out | refine below_set ?_ GE130.out)⟩

/-! ### scan_Split: function 47 (by hand) -/
def scan_Split.f (a0 : ByteArray) (a1 : Int) : Option (List ByteArray) := if a0.size < 4294967281 then some (Go.Proofs.Scn.splitV a0 (UInt8.ofNat a1.toNat)) else none
theorem scan_Split.calls (a0 : ByteArray) (a1 : Int) (r : List ByteArray) (w : World) (h : scan_Split.f a0 a1 = some r) :
  Calls Tryz.prog 47 #[.string a0, .int .u8 a1] w fun e w' => ∃ v0_ : Value, e = .returned (v0_) ∧ Kd.R Kd.string 9 w' w.heap.size (fun _ => True) v0_ r ∧ Below w.heap.size w w' := by
 unfold scan_Split.f at h
 by_cases h1 : a0.size < 4294967281
 ·rw [if_pos h1] at h
  cases h
  exact Go.Proofs.Scn.split_any a0 a1 w h1
 ·rw [if_neg h1] at h; cases h


/-! ### selector_List: function 14 -/
def selector_List.l0 : Nat → List (S25) → List ByteArray → Int → Int → Option ((List (S25)) × Bool)
 | 0, _, _, _, _ => none
 | k + 1, x4, x10, x11, x12 => if x12 < x11 then (if 0 ≤ x12 then (if x12 < (x10.length : Int) then ((selector_Read.f k (rdOf ByteArray.empty x10 x12)).bind fun bt162 => (if bt162.2.2 = true then (if x4.length < 2932031007402 then (selector_List.l0 k (x4 ++ [(⟨bt162.1, bt162.2.1⟩ : S25)]) x10 x11 (wrap64 (x12 + 1))) else (none)) else (some (([] : List (S25)), false)))) else (none)) else (none)) else (some (x4, true))
def selector_List.f (k : Nat) (a0 : ByteArray) : Option ((List (S25)) × Bool) := (scan_Split.f a0 44).bind fun t158 => (selector_List.l0 k ([] : List (S25)) t158 (t158.length : Int) 0)
theorem selector_List.mono_l : ∀ k, (∀ y0 y1 y2 y3, LeO (selector_List.l0 k y0 y1 y2 y3) (selector_List.l0 (k + 1) y0 y1 y2 y3))
 | 0 => fun _ _ _ _ r h => by simp [selector_List.l0] at h
 | k + 1 => by
  have ih0 := selector_List.mono_l k
  ·intro y0 y1 y2 y3
   unfold selector_List.l0
   repeat' first
   | (with_reducible exact ih0 _ _ _ _)
   | (with_reducible exact selector_Read.mono _ _)
   | (with_reducible exact LeO.refl _)
   | (with_reducible exact LeO.none _)
   | (with_reducible refine LeO.ite ?_ ?_)
   | (with_reducible refine LeO.bind ?_ (fun _ => ?_))
   | exact ih0 _ _ _ _
   | exact selector_Read.mono _ _
   | exact LeO.none _
   | refine LeO.ite ?_ ?_
   | refine LeO.bind ?_ (fun _ => ?_)
theorem selector_List.mono : ∀ a0 k, LeO (selector_List.f k a0) (selector_List.f (k + 1) a0) := by
 intro a0 k
 have ih0 := selector_List.mono_l k
 unfold selector_List.f
 repeat' first
   | (with_reducible exact ih0 _ _ _ _)
   | (with_reducible exact selector_Read.mono _ _)
   | (with_reducible exact LeO.refl _)
   | (with_reducible exact LeO.none _)
   | (with_reducible refine LeO.ite ?_ ?_)
   | (with_reducible refine LeO.bind ?_ (fun _ => ?_))
   | exact ih0 _ _ _ _
   | exact selector_Read.mono _ _
   | exact LeO.none _
   | refine LeO.ite ?_ ?_
   | refine LeO.bind ?_ (fun _ => ?_)
set_option maxHeartbeats 8000000 in
set_option maxRecDepth 100000 in
theorem selector_List.calls (k : Nat) (a0 : ByteArray) (r1 : List (S25)) (r2 : Bool) (w : World) (h : selector_List.f k a0 = some (r1, r2)) (hmx : Go.Proofs.Sht.Env w) :
  Calls Tryz.prog 14 #[.string a0] w fun e w' => ∃ v0_ : Value, e = .returned (.tuple #[v0_, .bool r2]) ∧ Kd.R k25 25 w' w.heap.size (fun _ => True) v0_ r1 ∧ Below w.heap.size w w' := by
 have HMX := Aside0.mk hmx
 clear hmx
 have hu25 := Tryz.underlying25
 have HB := Aside0.mk (Below.refl w.heap.size w)
 have H : ((scan_Split.f a0 44).bind fun t158 => (selector_List.l0 k ([] : List (S25)) t158 (t158.length : Int) 0)) = some (r1, r2) := h
 clear h
 replace H := Option.bind_eq_some_iff.mp H
 obtain ⟨t158, A20, H⟩ := H
 replace H : (selector_List.l0 k ([] : List (S25)) t158 (t158.length : Int) 0) = some (r1, r2) := H
 have A2 := Aside0.mk A20
 clear A20
 have H' := Aside0.mk H
 clear H
 go_enter Tryz.func14, Tryz.ntmps14
 go_wp2_with (first | ((with_reducible refine gate_callee (f := 47) rfl ?_); refine goesL_ (some 10) rfl rfl Tryz.func47 (by kernel_rfl) rfl #[.string a0, .int .u8 44] rfl (by (try simp only [List.map_toArray, List.map_cons, List.map_nil]); first | rfl) ?_; (with_reducible refine (scan_Split.calls a0 44 t158 _ A2.out).mono ?_); rintro e w3 ⟨v159, rfl, ho0, hb⟩; refine ⟨_, rfl, ?_⟩; have n0_ := Aside0.mk (Kd.R_lower ho0 (below_size HB.out)); have n1_ := Aside0.mk (below_step HB.out hb); clear HB; have HO160 := n0_; have HB := n1_; clear n0_ n1_; (try clear hb); (try clear hb2); (try clear hk); (try clear hi); (try clear ho0); obtain ⟨Ao4, co4, eo4⟩ := Kd.R_slice HO160.out; subst eo4))
 go_loopg [4, 12] k (fun kq v4 v12 w' => ∃ (x4_1 : List (S25)) (x12_1 : Int), v12 = .int .i64 x12_1 ∧ Aside0 (selector_List.l0 kq x4_1 t158 (t158.length : Int) x12_1 = some (r1, r2)) ∧ Aside0 (kq ≤ k) ∧ Aside0 (Kd.R k25 25 w' w.heap.size (fun k_ => some k_ ≠ ((.slice Ao4 t158.length co4) : Value).ownBlock) v4 x4_1) ∧ Aside0 (Kd.R Kd.string 9 w' w.heap.size (fun _ => True) (.slice Ao4 t158.length co4) t158) ∧ Aside0 (Below w.heap.size w w'))
 case atStart => exact ⟨(([] : List (S25))), (0), (by first | rfl), H', ⟨Nat.le_refl _⟩, ⟨by exact Kd.R_nil _ _ _ _ _⟩, ⟨by exact HO160.out⟩, ⟨by exact HB.out⟩⟩
 case round =>
  clear H'
  try clear c1
  try clear p2
  try clear c4
  obtain ⟨x4_1, x12_1, rfl, HA, HK1, HO_4, HO_10, HB⟩ := hrel
  cases gk with
  | zero => exact absurd HA.out (by simp [selector_List.l0])
  | succ k1 =>
   have H := HA.out
   clear HA
   simp only [selector_List.l0] at H
   by_cases c5 : x12_1 < (t158.length : Int)
   ·rw [if_pos c5] at H
    have c5b0 : decide (x12_1 < (t158.length : Int)) = true := decide_eq_true c5
    clear c5
    by_cases c6 : 0 ≤ x12_1
    ·rw [if_pos c6] at H
     have c6b0 : decide (0 ≤ x12_1) = true := decide_eq_true c6
     clear c6
     by_cases c7 : x12_1 < (t158.length : Int)
     ·rw [if_pos c7] at H
      have c7b0 : decide (x12_1 < (t158.length : Int)) = true := decide_eq_true c7
      clear c7
      replace H := Option.bind_eq_some_iff.mp H
      obtain ⟨⟨t162, t165, t168⟩, A80, H⟩ := H
      replace H : (if t168 = true then (if x4_1.length < 2932031007402 then (selector_List.l0 k1 (x4_1 ++ [(⟨t162, t165⟩ : S25)]) t158 (t158.length : Int) (wrap64 (x12_1 + 1))) else (none)) else (some (([] : List (S25)), false))) = some (r1, r2) := H
      have A8 := Aside0.mk A80
      clear A80
      by_cases c9 : t168 = true
      ·subst c9
       have H1 : (if x4_1.length < 2932031007402 then (selector_List.l0 k1 (x4_1 ++ [(⟨t162, t165⟩ : S25)]) t158 (t158.length : Int) (wrap64 (x12_1 + 1))) else (none)) = some (r1, r2) := by rw [if_pos rfl] at H; exact H
       clear H
       have H := H1
       clear H1
       by_cases c10 : x4_1.length < 2932031007402
       ·rw [if_pos c10] at H
        have LMc10 := Aside0.mk c10
        clear c10
        obtain ⟨y170, hy170⟩ : ∃ y_ : List (S25), y_ = (x4_1 ++ [(⟨t162, t165⟩ : S25)]) := ⟨_, rfl⟩
        replace H : (selector_List.l0 k1 y170 t158 (t158.length : Int) (wrap64 (x12_1 + 1))) = some (r1, r2) := by first | (rw [hy170]; with_reducible exact H)
        have Ny170 := Aside0.mk hy170
        clear hy170
        have H' := Aside0.mk H
        clear H
        have p161 : 0 ≤ (x12_1 : Int) := of_decide_eq_true (by first | (with_reducible assumption))
        have q161 : x12_1 < (t158.length : Int) := of_decide_eq_true (by first | (with_reducible assumption))
        obtain ⟨ad161, e161, hx161_0⟩ := Kd.at_string (Kd.R_reads' HO_10.out).2.2 x12_1 p161 q161
        cases e161
        replace p161 := eq_true p161
        replace q161 := eq_true q161
        go_wp2_with (first | ((with_reducible refine gate_callee (f := 12) rfl ?_); refine goesL_ (some 18) rfl rfl Tryz.func12 (by kernel_rfl) rfl #[.string (rdOf ByteArray.empty t158 x12_1)] rfl (by (try simp only [List.map_toArray, List.map_cons, List.map_nil]); first | rfl) ?_; (with_reducible refine (selector_Read.calls k1 (rdOf ByteArray.empty t158 x12_1) t162 t165 true _ A8.out (HMX.out.below HB.out)).mono ?_); rintro e w11 ⟨v163, v166, rfl, ho0, ho1, hb⟩; refine ⟨_, rfl, ?_⟩; have n0_ := Aside0.mk (Kd.R_mono (Kd.R_told (Kd.R_told (Kd.R_old HO_4.out hb) (Kd.S_base ho0)) (Kd.R_base ho1)) (fun _ h_ => h_.1)); have n1_ := Aside0.mk (Kd.R_below HO_10.out hb); have n2_ := Aside0.mk (Kd.S_lower (Kd.S_new' ho0 (Kd.R_lt HO_10.out)) (below_size HB.out)); have n3_ := Aside0.mk (Kd.R_lower ho1 (below_size HB.out)); have n4_ := Aside0.mk (below_step HB.out hb); clear HO_4; clear HO_10; clear HB; have HO_4 := n0_; have HO_10 := n1_; have HO164 := n2_; have HO167 := n3_; have HB := n4_; clear n0_ n1_ n2_ n3_ n4_; (try clear hb); (try clear hb2); (try clear hk); (try clear hi); (try clear ho0); (try clear ho1)) | ((with_reducible refine gate_dst (N := 7) rfl ?_); refine box_event ?hg (N := 7) ?hd (cs := #[.slice none 0 0, .slice none 0 0]) (t := 25) ?hr ?_; (case hd => rfl); (case hg => rfl); (case hr => first | (go_simp; done)); intro gb169 hg w12 hbox hb; have n0_ := Aside0.mk (Kd.R_below (Kd.R_elderB HO_4.out gb169 (Nat.le_of_eq hg.symm)) hb); have n1_ := Aside0.mk (Kd.R_below HO_10.out hb); have n2_ := Aside0.mk (Kd.S_below HO164.out hb); have n3_ := Aside0.mk (Kd.R_below HO167.out hb); have n4_ := Aside0.mk (below_step HB.out hb); have n5_ := Aside0.mk (hbox); have n6_ := Aside0.mk ((by rw [hg]; exact (below_size HB.out) : w.heap.size ≤ gb169)); have n7_ := Aside0.mk ((by rw [hg]; exact (below_size HB.out) : w.heap.size ≤ gb169)); clear HO_4; clear HO_10; clear HO164; clear HO167; clear HB; have HO_4 := n0_; have HO_10 := n1_; have HO164 := n2_; have HO167 := n3_; have HB := n4_; have BK169 := n5_; have GW169 := n6_; have GE169 := n7_; clear n0_ n1_ n2_ n3_ n4_ n5_ n6_ n7_; clear hb hbox hg; obtain ⟨Ao13, co13, eo13⟩ := Kd.S_slice HO164.out; subst eo13; have hcz14_0 : w12.cell? ⟨gb169, 0, none⟩ = some (.slice none 0 0) := (blk_cell BK169.out 0).trans rfl; have hcz14_1 : w12.cell? ⟨gb169, 1, none⟩ = some (.slice none 0 0) := (blk_cell BK169.out 1).trans rfl; have hfz14_0 := blk_frozen BK169.out 0; have hfz14_1 := blk_frozen BK169.out 1; obtain ⟨Ao15, co15, eo15⟩ := Kd.R_slice HO167.out; subst eo15) | ((with_reducible refine gate_store (t := 25) (p := 7) rfl ?_); refine store_event (t := 25) (p := 7) (v := ?vo_w16) (w1 := ((w12.setCell ⟨gb169, 0, none⟩ (.slice Ao13 t162.length co13)).setCell ⟨gb169, 1, none⟩ (.slice Ao15 t165.length co15))) ?hg ?ho ?hn ?hr ?_; (case ho => rfl); (case hg => rfl); (case hn => rfl); (case hr => first | (go_simp; done)); intro w16 hw; have n0_ : Aside0 (Kd.R k25 25 w16 w.heap.size (fun k_ => some k_ ≠ (.slice (some ad161) t158.length co4 : Value).ownBlock ∧ some k_ ≠ (.slice Ao13 t162.length co13 : Value).ownBlock ∧ some k_ ≠ (.slice Ao15 t165.length co15 : Value).ownBlock ∧ k_ ≠ gb169) u4 x4_1) := ⟨(by rw [hw]; exact (by exact Kd.R_mono (Kd.R_far (p := ⟨gb169, 1, none⟩) (Kd.R_far (p := ⟨gb169, 0, none⟩) (Kd.R_mono HO_4.out (fun k_ hk => (⟨hk, hk.2⟩ : _ ∧ k_ ≠ gb169))) (fun _ hk => hk.2) (.slice Ao13 t162.length co13)) (fun _ hk => hk.2) (.slice Ao15 t165.length co15)) (fun _ hk => ⟨hk.1.1.1.1, ⟨hk.1.1.1.2, ⟨hk.1.1.2, hk.1.2⟩⟩⟩)))⟩; have n1_ : Aside0 (Kd.R Kd.string 9 w16 w.heap.size (fun _ => True) (.slice (some ad161) t158.length co4) t158) := ⟨(by rw [hw]; exact (by exact Kd.R_mono (Kd.R_far (p := ⟨gb169, 1, none⟩) (Kd.R_far (p := ⟨gb169, 0, none⟩) (Kd.R_types HO_10.out BK169.out (by decide)) (fun _ hk => hk.2) (.slice Ao13 t162.length co13)) (fun _ hk => hk.2) (.slice Ao15 t165.length co15)) (fun _ hk => trivial)))⟩; have n2_ : Aside0 (Kd.S k80 80 w16 w.heap.size (fun k_ => some k_ ≠ (.slice (some ad161) t158.length co4 : Value).ownBlock) (.slice Ao13 t162.length co13) t162) := ⟨(by rw [hw]; exact (by exact Kd.S_mono (Kd.S_far (p := ⟨gb169, 1, none⟩) (Kd.S_far (p := ⟨gb169, 0, none⟩) (Kd.S_types HO164.out BK169.out (by decide)) (fun _ hk => hk.2) (.slice Ao13 t162.length co13)) (fun _ hk => hk.2) (.slice Ao15 t165.length co15)) (fun _ hk => hk.1.2)))⟩; have n3_ : Aside0 (Kd.R Kd.bool 4 w16 w.heap.size (fun _ => True) (.slice Ao15 t165.length co15) t165) := ⟨(by rw [hw]; exact (by exact Kd.R_mono (Kd.R_far (p := ⟨gb169, 1, none⟩) (Kd.R_far (p := ⟨gb169, 0, none⟩) (Kd.R_types HO167.out BK169.out (by decide)) (fun _ hk => hk.2) (.slice Ao13 t162.length co13)) (fun _ hk => hk.2) (.slice Ao15 t165.length co15)) (fun _ hk => trivial)))⟩; have n4_ : Aside0 (w16.heap[gb169]? = some (.cells #[.slice Ao13 t162.length co13, .slice Ao15 t165.length co15] 25 (0, 0))) := ⟨(by rw [hw]; exact (by refine blk_put (cs := #[.slice Ao13 t162.length co13, .slice none 0 0]) ?_ 1 _ rfl; refine blk_put (cs := #[.slice none 0 0, .slice none 0 0]) ?_ 0 _ rfl; exact BK169.out))⟩; have n5_ : Aside0 (Below w.heap.size w w16) := ⟨(by rw [hw]; exact (by repeat (with_reducible first | exact HB.out | refine below_set ?_ GE169.out)))⟩; clear hw; clear HO_4; clear HO_10; clear HO164; clear HO167; clear BK169; clear HB; have HO_4 := n0_; have HO_10 := n1_; have HO164 := n2_; have HO167 := n3_; have BK169 := n4_; have HB := n5_; clear n0_ n1_ n2_ n3_ n4_ n5_; have hcz17_0 : w16.cell? ⟨gb169, 0, none⟩ = some (.slice Ao13 t162.length co13) := (blk_cell BK169.out 0).trans rfl; have hcz17_1 : w16.cell? ⟨gb169, 1, none⟩ = some (.slice Ao15 t165.length co15) := (blk_cell BK169.out 1).trans rfl; have hfz17_0 := blk_frozen BK169.out 0; have hfz17_1 := blk_frozen BK169.out 1) | ((with_reducible refine gate_builtin (b := .append) (xs := #[.tmp 23, .tmp 25]) rfl ?_); at_builtin; refine Kd.R_append k25 (w0 := w) w.heap.size rfl (.tmp 23) (.tmp 25) 36 25 (.agg #[(.slice none 0 0), (.slice none 0 0)]) 48 rfl Tryz.underlying36 info25 rfl (by decide) (by omega) u4 x4_1 (⟨t162, t165⟩ : S25) [.slice Ao13 t162.length co13, .slice Ao15 t165.length co15] (fun k_ => some k_ ≠ (.slice (some ad161) t158.length co4 : Value).ownBlock ∧ k_ ≠ gb169) (fun k_ => ((fun k_ => some k_ ≠ (.slice (some ad161) t158.length co4 : Value).ownBlock ∧ k_ ≠ gb169)) k_ ∧ some k_ ≠ (u4 : Value).ownBlock) rfl rfl ?aP (fun _ hk => hk) ?aF ?aO ?aB ?aS ?aL ?_; (case aP => exact k25_mkM _ _ _ (⟨t162, t165⟩ : S25) (Kd.R_mono (Kd.R_types (Kd.R_apart' ((Kd.S_R HO164.out)) (Kd.R_typed HO_4.out) (by decide)) BK169.out (by decide)) (fun k_ hk => ⟨⟨hk.1.1, hk.2⟩, hk.1.2⟩)) (Kd.R_mono (Kd.R_types (Kd.R_apart' (Kd.R_apart' (HO167.out) (Kd.R_typed HO_10.out) (by decide)) (Kd.R_typed HO_4.out) (by decide)) BK169.out (by decide)) (fun k_ hk => ⟨⟨hk.1.1.2, hk.2⟩, hk.1.2⟩))); (case aB => exact HB.out); (case aF => exact (fun k_ hk => ⟨Kd.fresh' (Kd.R_lt HO_10.out) k_ hk, Kd.freshB (g := gb169) (o := .cells #[.slice Ao13 t162.length co13, .slice Ao15 t165.length co15] 25 (0, 0)) BK169.out k_ hk⟩)); (case aO => exact (by exact Kd.R_mono HO_4.out (fun _ hk => ⟨hk.1, hk.2.2.2⟩))); (case aS => exact (below_size HB.out)); (case aL => have := LMc10.out; omega); intro v171 w18 ho hb hg hat; rw [← Ny170.out] at ho; have n0_ := Aside0.mk (Kd.R_over' HO_10.out (Kd.R_typed HO_4.out) (by decide) hg); have n1_ := Aside0.mk (blk_grown (g := gb169) (o := .cells #[.slice Ao13 t162.length co13, .slice Ao15 t165.length co15] 25 (0, 0)) BK169.out hg (Kd.R_away HO_4.out (fun _ hk => hk.2.2.2))); have n2_ := Aside0.mk (hb); have n3_ := Aside0.mk (ho); clear HO_10; clear BK169; clear HB; clear HO_4; clear HO164; clear HO167; have HO_10 := n0_; have BK169 := n1_; have HB := n2_; have HO172 := n3_; clear n0_ n1_ n2_ n3_; clear ho hb hg hat))
        go_roundg k1
        case measure => have := HK1.out; omega
        case rel => exact ⟨(y170), (wrap64 (x12_1 + 1)), (by first | rfl), H', ⟨by have := HK1.out; omega⟩, ⟨by exact Kd.R_mono HO172.out (fun _ hk => hk.1)⟩, ⟨by exact HO_10.out⟩, ⟨by exact HB.out⟩⟩
       ·rw [if_neg c10] at H
        exact absurd H (by simp)
      ·replace c9 := Bool.eq_false_iff.mpr c9
       subst c9
       have H1 : (some (([] : List (S25)), false)) = some (r1, r2) := by rw [if_neg (show ¬ (false = true) by decide)] at H; exact H
       clear H
       have H := H1
       clear H1
       simp only [Option.some.injEq, Prod.mk.injEq] at H
       obtain ⟨rfl, rfl⟩ := H
       have p161 : 0 ≤ (x12_1 : Int) := of_decide_eq_true (by first | (with_reducible assumption))
       have q161 : x12_1 < (t158.length : Int) := of_decide_eq_true (by first | (with_reducible assumption))
       obtain ⟨ad161, e161, hx161_0⟩ := Kd.at_string (Kd.R_reads' HO_10.out).2.2 x12_1 p161 q161
       cases e161
       replace p161 := eq_true p161
       replace q161 := eq_true q161
       go_wp2_with (first | ((with_reducible refine gate_callee (f := 12) rfl ?_); refine goesL_ (some 18) rfl rfl Tryz.func12 (by kernel_rfl) rfl #[.string (rdOf ByteArray.empty t158 x12_1)] rfl (by (try simp only [List.map_toArray, List.map_cons, List.map_nil]); first | rfl) ?_; (with_reducible refine (selector_Read.calls k1 (rdOf ByteArray.empty t158 x12_1) t162 t165 false _ A8.out (HMX.out.below HB.out)).mono ?_); rintro e w19 ⟨v163, v166, rfl, ho0, ho1, hb⟩; refine ⟨_, rfl, ?_⟩; have n0_ := Aside0.mk (Kd.R_mono (Kd.R_told (Kd.R_told (Kd.R_old HO_4.out hb) (Kd.S_base ho0)) (Kd.R_base ho1)) (fun _ h_ => h_.1)); have n1_ := Aside0.mk (Kd.R_below HO_10.out hb); have n2_ := Aside0.mk (Kd.S_lower (Kd.S_new' ho0 (Kd.R_lt HO_10.out)) (below_size HB.out)); have n3_ := Aside0.mk (Kd.R_lower ho1 (below_size HB.out)); have n4_ := Aside0.mk (below_step HB.out hb); clear HO_4; clear HO_10; clear HB; have HO_4 := n0_; have HO_10 := n1_; have HO164 := n2_; have HO167 := n3_; have HB := n4_; clear n0_ n1_ n2_ n3_ n4_; (try clear hb); (try clear hb2); (try clear hk); (try clear hi); (try clear ho0); (try clear ho1)) | ((with_reducible refine gate_dst (N := 7) rfl ?_); refine box_event ?hg (N := 7) ?hd (cs := #[.slice none 0 0, .slice none 0 0]) (t := 25) ?hr ?_; (case hd => rfl); (case hg => rfl); (case hr => first | (go_simp; done)); intro gb169 hg w20 hbox hb; have n0_ := Aside0.mk (Kd.R_below (Kd.R_elderB HO_4.out gb169 (Nat.le_of_eq hg.symm)) hb); have n1_ := Aside0.mk (Kd.R_below HO_10.out hb); have n2_ := Aside0.mk (Kd.S_below HO164.out hb); have n3_ := Aside0.mk (Kd.R_below HO167.out hb); have n4_ := Aside0.mk (below_step HB.out hb); have n5_ := Aside0.mk (hbox); have n6_ := Aside0.mk ((by rw [hg]; exact (below_size HB.out) : w.heap.size ≤ gb169)); have n7_ := Aside0.mk ((by rw [hg]; exact (below_size HB.out) : w.heap.size ≤ gb169)); clear HO_4; clear HO_10; clear HO164; clear HO167; clear HB; have HO_4 := n0_; have HO_10 := n1_; have HO164 := n2_; have HO167 := n3_; have HB := n4_; have BK169 := n5_; have GW169 := n6_; have GE169 := n7_; clear n0_ n1_ n2_ n3_ n4_ n5_ n6_ n7_; clear hb hbox hg; obtain ⟨Ao21, co21, eo21⟩ := Kd.S_slice HO164.out; subst eo21; have hcz22_0 : w20.cell? ⟨gb169, 0, none⟩ = some (.slice none 0 0) := (blk_cell BK169.out 0).trans rfl; have hcz22_1 : w20.cell? ⟨gb169, 1, none⟩ = some (.slice none 0 0) := (blk_cell BK169.out 1).trans rfl; have hfz22_0 := blk_frozen BK169.out 0; have hfz22_1 := blk_frozen BK169.out 1; obtain ⟨Ao23, co23, eo23⟩ := Kd.R_slice HO167.out; subst eo23))
       go_ret2
       exact ⟨_, by first | rfl, by exact Kd.R_nil _ _ _ _ _, by repeat (with_reducible first | exact HB.out | refine below_set ?_ GE169.out)⟩
     ·rw [if_neg c7] at H
      exact absurd H (by simp)
    ·rw [if_neg c6] at H
     exact absurd H (by simp)
   ·rw [if_neg c5] at H
    have c5b0 : decide (x12_1 < (t158.length : Int)) = false := decide_eq_false c5
    clear c5
    simp only [Option.some.injEq, Prod.mk.injEq] at H
    obtain ⟨rfl, rfl⟩ := H
    go_wp2
    go_ret2
    exact ⟨_, by first | rfl, by exact Kd.R_mono HO_4.out (fun _ hk => trivial), by exact HB.out⟩

/-! ### sheet_decls: function 68 (by hand) -/
def sheet_decls.it (x : Go.Proofs.Sht.Dc) : S111 := ⟨x.1, ⟨x.2.1, x.2.2.1⟩, x.2.2.2⟩
def sheet_decls.f (a0 : ByteArray) : Option (List (S111)) := if a0.size < 4294967281 then some ((Go.Proofs.Sht.declV a0).map sheet_decls.it) else none
theorem sheet_decls.calls (a0 : ByteArray) (r : List (S111)) (w : World) (h : sheet_decls.f a0 = some r) :
  Calls Tryz.prog 68 #[.string a0] w fun e w' => ∃ v0_ : Value, e = .returned (v0_) ∧ Kd.R k111 111 w' w.heap.size (fun _ => True) v0_ r ∧ Below w.heap.size w w' := by
 unfold sheet_decls.f at h
 by_cases h1 : a0.size < 4294967281
 ·rw [if_pos h1] at h
  cases h
  refine (Go.Proofs.Sht.declC a0 w h1).mono fun e w' hq => ?_
  obtain ⟨v, he, hR, hB⟩ := hq
  refine ⟨v, he, Go.Proofs.Sht.R_to (d := Go.Proofs.Sht.kDc) (d' := k111) rfl (fun W ok x cs hM => ?_) hR, hB⟩
  obtain ⟨_, _, rfl, rfl, ⟨_, _, rfl, rfl, ⟨_, _, rfl, rfl, rfl⟩⟩⟩ := hM
  exact ⟨[.int .i64 x.1], [.int .i64 x.2.1, .int .i64 x.2.2.1, .bool x.2.2.2], rfl, rfl, ⟨[.int .i64 x.2.1, .int .i64 x.2.2.1], [.bool x.2.2.2], rfl, ⟨[.int .i64 x.2.1], [.int .i64 x.2.2.1], rfl, rfl, rfl⟩, rfl⟩⟩
 ·rw [if_neg h1] at h; cases h


/-! ### sheet_Decls: function 32 -/
def sheet_Decls.l0 : Nat → List (S111) → List ByteArray → Int → Int → Option ((List (S111)))
 | 0, _, _, _, _ => none
 | k + 1, x3, x7, x8, x9 => if x9 < x8 then (if 0 ≤ x9 then (if x9 < (x7.length : Int) then ((sheet_decls.f (rdOf ByteArray.empty x7 x9)).bind fun t177 => (if x3.length + t177.length < 4398046511104 then (sheet_Decls.l0 k (x3 ++ t177) x7 x8 (wrap64 (x9 + 1))) else (none))) else (none)) else (none)) else (some x3)
def sheet_Decls.f (k : Nat) (a0 : ByteArray) : Option ((List (S111))) := (scan_Split.f a0 59).bind fun t173 => (sheet_Decls.l0 k ([] : List (S111)) t173 (t173.length : Int) 0)
theorem sheet_Decls.mono_l : ∀ k, (∀ y0 y1 y2 y3, LeO (sheet_Decls.l0 k y0 y1 y2 y3) (sheet_Decls.l0 (k + 1) y0 y1 y2 y3))
 | 0 => fun _ _ _ _ r h => by simp [sheet_Decls.l0] at h
 | k + 1 => by
  have ih0 := sheet_Decls.mono_l k
  ·intro y0 y1 y2 y3
   unfold sheet_Decls.l0
   repeat' first
   | (with_reducible exact ih0 _ _ _ _)
   | (with_reducible exact LeO.refl _)
   | (with_reducible exact LeO.none _)
   | (with_reducible refine LeO.ite ?_ ?_)
   | (with_reducible refine LeO.bind ?_ (fun _ => ?_))
   | exact ih0 _ _ _ _
   | exact LeO.none _
   | refine LeO.ite ?_ ?_
   | refine LeO.bind ?_ (fun _ => ?_)
theorem sheet_Decls.mono : ∀ a0 k, LeO (sheet_Decls.f k a0) (sheet_Decls.f (k + 1) a0) := by
 intro a0 k
 have ih0 := sheet_Decls.mono_l k
 unfold sheet_Decls.f
 repeat' first
   | (with_reducible exact ih0 _ _ _ _)
   | (with_reducible exact LeO.refl _)
   | (with_reducible exact LeO.none _)
   | (with_reducible refine LeO.ite ?_ ?_)
   | (with_reducible refine LeO.bind ?_ (fun _ => ?_))
   | exact ih0 _ _ _ _
   | exact LeO.none _
   | refine LeO.ite ?_ ?_
   | refine LeO.bind ?_ (fun _ => ?_)
set_option maxHeartbeats 8000000 in
set_option maxRecDepth 100000 in
theorem sheet_Decls.calls (k : Nat) (a0 : ByteArray) (r : List (S111)) (w : World) (h : sheet_Decls.f k a0 = some r) :
  Calls Tryz.prog 32 #[.string a0] w fun e w' => ∃ v0_ : Value, e = .returned (v0_) ∧ Kd.R k111 111 w' w.heap.size (fun _ => True) v0_ r ∧ Below w.heap.size w w' := by
 have HB := Aside0.mk (Below.refl w.heap.size w)
 have H : ((scan_Split.f a0 59).bind fun t173 => (sheet_Decls.l0 k ([] : List (S111)) t173 (t173.length : Int) 0)) = some r := h
 clear h
 replace H := Option.bind_eq_some_iff.mp H
 obtain ⟨t173, A20, H⟩ := H
 replace H : (sheet_Decls.l0 k ([] : List (S111)) t173 (t173.length : Int) 0) = some r := H
 have A2 := Aside0.mk A20
 clear A20
 have H' := Aside0.mk H
 clear H
 go_enter Tryz.func32, Tryz.ntmps32
 go_wp2_with (first | ((with_reducible refine gate_callee (f := 47) rfl ?_); refine goesL_ (some 7) rfl rfl Tryz.func47 (by kernel_rfl) rfl #[.string a0, .int .u8 59] rfl (by (try simp only [List.map_toArray, List.map_cons, List.map_nil]); first | rfl) ?_; (with_reducible refine (scan_Split.calls a0 59 t173 _ A2.out).mono ?_); rintro e w3 ⟨v174, rfl, ho0, hb⟩; refine ⟨_, rfl, ?_⟩; have n0_ := Aside0.mk (Kd.R_lower ho0 (below_size HB.out)); have n1_ := Aside0.mk (below_step HB.out hb); clear HB; have HO175 := n0_; have HB := n1_; clear n0_ n1_; (try clear hb); (try clear hb2); (try clear hk); (try clear hi); (try clear ho0); obtain ⟨Ao4, co4, eo4⟩ := Kd.R_slice HO175.out; subst eo4))
 go_loopg [3, 9] k (fun kq v3 v9 w' => ∃ (x3_1 : List (S111)) (x9_1 : Int), v9 = .int .i64 x9_1 ∧ Aside0 (sheet_Decls.l0 kq x3_1 t173 (t173.length : Int) x9_1 = some r) ∧ Aside0 (kq ≤ k) ∧ Aside0 (Kd.R k111 111 w' w.heap.size (fun _ => True) v3 x3_1) ∧ Aside0 (Kd.R Kd.string 9 w' w.heap.size (fun _ => True) (.slice Ao4 t173.length co4) t173) ∧ Aside0 (Below w.heap.size w w'))
 case atStart => exact ⟨(([] : List (S111))), (0), (by first | rfl), H', ⟨Nat.le_refl _⟩, ⟨by exact Kd.R_nil _ _ _ _ _⟩, ⟨by exact HO175.out⟩, ⟨by exact HB.out⟩⟩
 case round =>
  clear H'
  try clear p2
  try clear c3
  try clear c4
  obtain ⟨x3_1, x9_1, rfl, HA, HK1, HO_3, HO_7, HB⟩ := hrel
  cases gk with
  | zero => exact absurd HA.out (by simp [sheet_Decls.l0])
  | succ k1 =>
   have H := HA.out
   clear HA
   simp only [sheet_Decls.l0] at H
   by_cases c5 : x9_1 < (t173.length : Int)
   ·rw [if_pos c5] at H
    have c5b0 : decide (x9_1 < (t173.length : Int)) = true := decide_eq_true c5
    clear c5
    by_cases c6 : 0 ≤ x9_1
    ·rw [if_pos c6] at H
     have c6b0 : decide (0 ≤ x9_1) = true := decide_eq_true c6
     clear c6
     by_cases c7 : x9_1 < (t173.length : Int)
     ·rw [if_pos c7] at H
      have c7b0 : decide (x9_1 < (t173.length : Int)) = true := decide_eq_true c7
      clear c7
      replace H := Option.bind_eq_some_iff.mp H
      obtain ⟨t177, A80, H⟩ := H
      replace H : (if x3_1.length + t177.length < 4398046511104 then (sheet_Decls.l0 k1 (x3_1 ++ t177) t173 (t173.length : Int) (wrap64 (x9_1 + 1))) else (none)) = some r := H
      have A8 := Aside0.mk A80
      clear A80
      by_cases c9 : x3_1.length + t177.length < 4398046511104
      ·rw [if_pos c9] at H
       have LMc9 := Aside0.mk c9
       clear c9
       obtain ⟨y180, hy180⟩ : ∃ y_ : List (S111), y_ = (x3_1 ++ t177) := ⟨_, rfl⟩
       replace H : (sheet_Decls.l0 k1 y180 t173 (t173.length : Int) (wrap64 (x9_1 + 1))) = some r := by first | (rw [hy180]; with_reducible exact H)
       have Ny180 := Aside0.mk hy180
       clear hy180
       have H' := Aside0.mk H
       clear H
       have p176 : 0 ≤ (x9_1 : Int) := of_decide_eq_true (by first | (with_reducible assumption))
       have q176 : x9_1 < (t173.length : Int) := of_decide_eq_true (by first | (with_reducible assumption))
       obtain ⟨ad176, e176, hx176_0⟩ := Kd.at_string (Kd.R_reads' HO_7.out).2.2 x9_1 p176 q176
       cases e176
       replace p176 := eq_true p176
       replace q176 := eq_true q176
       go_wp2_with (first | ((with_reducible refine gate_callee (f := 68) rfl ?_); refine goesL_ (some 15) rfl rfl Tryz.func68 (by kernel_rfl) rfl #[.string (rdOf ByteArray.empty t173 x9_1)] rfl (by (try simp only [List.map_toArray, List.map_cons, List.map_nil]); first | rfl) ?_; (with_reducible refine (sheet_decls.calls (rdOf ByteArray.empty t173 x9_1) t177 _ A8.out).mono ?_); rintro e w10 ⟨v178, rfl, ho0, hb⟩; refine ⟨_, rfl, ?_⟩; have n0_ := Aside0.mk (Kd.R_elder' HO_3.out (Kd.R_base ho0) hb); have n1_ := Aside0.mk (Kd.R_below HO_7.out hb); have n2_ := Aside0.mk (Kd.R_lower (Kd.R_new' ho0 (Kd.R_lt HO_3.out)) (below_size HB.out)); have n3_ := Aside0.mk (below_step HB.out hb); clear HO_3; clear HO_7; clear HB; have HO_3 := n0_; have HO_7 := n1_; have HO179 := n2_; have HB := n3_; clear n0_ n1_ n2_ n3_; (try clear hb); (try clear hb2); (try clear hk); (try clear hi); (try clear ho0); obtain ⟨Ao12, co12, eo12⟩ := Kd.R_slice HO179.out; subst eo12) | ((with_reducible refine gate_builtin (b := .append) (xs := #[.tmp 13, .tmp 15]) rfl ?_); at_builtin; refine Kd.R_append_rows k111 (w0 := w) w.heap.size rfl (.tmp 13) (.tmp 15) 63 111 (.agg #[(.int .i64 0), (.int .i64 0), (.int .i64 0), (.bool false)]) 32 rfl Tryz.underlying63 info111 rfl (by decide) (by omega) u3 x3_1 t177 _ _ _ (fun k_ => some k_ ≠ (.slice Ao12 t177.length co12 : Value).ownBlock) (fun _ => False) rfl rfl ?aO ?aR (fun _ _ h => h) (fun _ h => h.elim) ?aF ?aB ?aS ?aL ?_; (case aR => repeat (first | exact (Kd.R_reads' HO179.out).2.2)); (case aB => exact HB.out); (case aF => exact (fun k_ hk => Kd.fresh' (Kd.R_lt HO179.out) k_ hk)); (case aO => exact (by exact Kd.R_mono HO_3.out (fun _ hk => hk.2))); (case aS => exact (below_size HB.out)); (case aL => have := LMc9.out; omega); intro v181 w11 ho hb hg hat; rw [← Ny180.out] at ho; have n0_ := Aside0.mk (Kd.R_over' HO_7.out (Kd.R_typed HO_3.out) (by decide) hg); have n1_ := Aside0.mk (Kd.R_after (ok := (fun _ => True)) HO179.out hg hat); have n2_ := Aside0.mk (hb); have n3_ := Aside0.mk (ho); clear HO_7; clear HO179; clear HB; clear HO_3; have HO_7 := n0_; have HO179 := n1_; have HB := n2_; have HO182 := n3_; clear n0_ n1_ n2_ n3_; clear ho hb hg hat))
       go_roundg k1
       case measure => have := HK1.out; omega
       case rel => exact ⟨(y180), (wrap64 (x9_1 + 1)), (by first | rfl), H', ⟨by have := HK1.out; omega⟩, ⟨by exact Kd.R_mono HO182.out (fun _ hk => trivial)⟩, ⟨by exact HO_7.out⟩, ⟨by exact HB.out⟩⟩
      ·rw [if_neg c9] at H
       exact absurd H (by simp)
     ·rw [if_neg c7] at H
      exact absurd H (by simp)
    ·rw [if_neg c6] at H
     exact absurd H (by simp)
   ·rw [if_neg c5] at H
    have c5b0 : decide (x9_1 < (t173.length : Int)) = false := decide_eq_false c5
    clear c5
    obtain rfl := Option.some.inj H
    go_wp2
    go_ret
    exact ⟨_, by first | rfl, by exact HO_3.out, by exact HB.out⟩

/-! ### scan_Trim: function 91 (by hand) -/
def scan_Trim.f (a0 : ByteArray) : Option ByteArray := if a0.size < 4294967281 then some (Go.Proofs.Scn.trimV a0) else none
theorem scan_Trim.calls (a0 : ByteArray) (r : ByteArray) (w : World) (h : scan_Trim.f a0 = some r) :
  Calls Tryz.prog 91 #[.string a0] w fun e w' => e = .returned (.string r) ∧ Below w.heap.size w w' := by
 unfold scan_Trim.f at h
 by_cases h1 : a0.size < 4294967281
 ·rw [if_pos h1] at h
  cases h
  exact Go.Proofs.Scn.trim_any a0 w h1
 ·rw [if_neg h1] at h; cases h


/-! ### strings_Cut: function 102 (by hand) -/
def strings_Cut.f (a0 : ByteArray) (a1 : ByteArray) : Option (ByteArray × ByteArray × Bool) := if a0.size < 4294967281 then (if a1.size = 1 then some (⟨(Lib.cut a0.data.toList a1.data.toList).1.toArray⟩, ⟨(Lib.cut a0.data.toList a1.data.toList).2.1.toArray⟩, (Lib.cut a0.data.toList a1.data.toList).2.2) else none) else none
theorem strings_Cut.calls (a0 : ByteArray) (a1 : ByteArray) (r1 : ByteArray) (r2 : ByteArray) (r3 : Bool) (w : World) (h : strings_Cut.f a0 a1 = some (r1, r2, r3)) :
  Calls Tryz.prog 102 #[.string a0, .string a1] w fun e w' => e = .returned (.tuple #[.string r1, .string r2, .bool r3]) ∧ Drawn0 w w' := by
 unfold strings_Cut.f at h
 by_cases h1 : a0.size < 4294967281
 ·rw [if_pos h1] at h
  by_cases h2 : a1.size = 1
  ·rw [if_pos h2] at h
   obtain ⟨c, rfl⟩ := Lib.one_byte a1 h2
   cases h
   exact (Go.Proofs.ShX.xCut_one Tryz.lays145 a0 c w h1).mono fun e w' ⟨he, n, hn⟩ => ⟨he, ⟨⟨n, hn⟩⟩⟩
  ·rw [if_neg h2] at h; cases h
 ·rw [if_neg h1] at h; cases h


end Go.Proofs.YtolfpgccebdlpaaGreatDoor.HT
