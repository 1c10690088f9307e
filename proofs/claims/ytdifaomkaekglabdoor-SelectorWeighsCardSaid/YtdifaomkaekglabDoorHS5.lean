-- Written by a program of this session (wip/tools/hprint.py), which drives the kit's print; not print.sh's own output.
import Derived.Test.YtdifaomkaekglabDoorHS0
namespace Go.Proofs.YtdifaomkaekglabDoor.HS
open Go.RowKit Go.Proofs.YtdifaomkaekglabDoorW.PrintWords Go.Proofs.YtdifaomkaekglabDoorW.PrintLast Go.Proofs.YtdifaomkaekglabDoorW.PrintMore
attribute [local go_sem] max2_int min2_int max_two min_two max_three min_three max_four min_four   -- for this text's walks alone
set_option linter.unusedVariables false
set_option linter.unusedSimpArgs false

/-! ### scrimref09_Large: function 8 -/
mutual
def scrimref09_Large.l0 : Nat → Int → Int → List (S50) → List Bool → Option (Bool)
  | 0, _, _, _, _ => none
  | k + 1, x3, x4, x208000, x208001 => if x4 < (x208000.length : Int) then (scrimref09_Large.j1 k x3 x4 (decide (x3 ≤ 500)) x208000 x208001) else (scrimref09_Large.j1 k x3 x4 false x208000 x208001)
def scrimref09_Large.j1 : Nat → Int → Int → Bool → List (S50) → List Bool → Option (Bool)
  | 0, _, _, _, _, _ => none
  | k + 1, x3, x4, x15, x208000, x208001 => if x15 = true then (if 0 ≤ x4 then (if x4 < (x208000.length : Int) then (scrimref09_Large.l1 k (wrap64 ((wrap64 (x3 + 1)) + (((rd_T50 x208000 x4).f0).size : Int))) x4 0 x208000 x208001) else (none)) else (none)) else (if x3 > 500 then (some true) else (some (decide ((x208001.length : Int) > 100))))
def scrimref09_Large.j3 : Nat → Int → Int → List (S50) → List Bool → Option (Bool)
  | 0, _, _, _, _ => none
  | k + 1, x3, x4, x208000, x208001 => scrimref09_Large.l2 k x3 x4 0 x208000 x208001
def scrimref09_Large.l2 : Nat → Int → Int → Int → List (S50) → List Bool → Option (Bool)
  | 0, _, _, _, _, _ => none
  | k + 1, x3, x4, x6, x208000, x208001 => if 0 ≤ x4 then (if x4 < (x208000.length : Int) then (if x6 < (((rd_T50 x208000 x4).f2).length : Int) then (if x3 ≤ 500 then (if 0 ≤ x6 then (scrimref09_Large.l2 k (wrap64 ((wrap64 (x3 + 1)) + ((rdOf ByteArray.empty ((rd_T50 x208000 x4).f2) x6).size : Int))) x4 (wrap64 (x6 + 1)) x208000 x208001) else (none)) else (scrimref09_Large.l0 k x3 (wrap64 (x4 + 1)) x208000 x208001)) else (scrimref09_Large.l0 k x3 (wrap64 (x4 + 1)) x208000 x208001)) else (none)) else (none)
def scrimref09_Large.l1 : Nat → Int → Int → Int → List (S50) → List Bool → Option (Bool)
  | 0, _, _, _, _, _ => none
  | k + 1, x3, x4, x5, x208000, x208001 => if 0 ≤ x4 then (if x4 < (x208000.length : Int) then (if x5 < (((rd_T50 x208000 x4).f1).length : Int) then (if x3 ≤ 500 then (if 0 ≤ x5 then (scrimref09_Large.l1 k (wrap64 ((wrap64 (x3 + 1)) + ((rdOf ByteArray.empty ((rd_T50 x208000 x4).f1) x5).size : Int))) x4 (wrap64 (x5 + 1)) x208000 x208001) else (none)) else (scrimref09_Large.j3 k x3 x4 x208000 x208001)) else (scrimref09_Large.j3 k x3 x4 x208000 x208001)) else (none)) else (none)
end
def scrimref09_Large.f (k : Nat) (l0_0 : List (S50)) (l0_1 : List Bool) : Option (Bool) := scrimref09_Large.l0 k 0 0 l0_0 l0_1
theorem scrimref09_Large.mono_l : ∀ k, (∀ y0 y1 y2 y3, LeO (scrimref09_Large.l0 k y0 y1 y2 y3) (scrimref09_Large.l0 (k + 1) y0 y1 y2 y3)) ∧ (∀ y0 y1 y2 y3 y4, LeO (scrimref09_Large.j1 k y0 y1 y2 y3 y4) (scrimref09_Large.j1 (k + 1) y0 y1 y2 y3 y4)) ∧ (∀ y0 y1 y2 y3, LeO (scrimref09_Large.j3 k y0 y1 y2 y3) (scrimref09_Large.j3 (k + 1) y0 y1 y2 y3)) ∧ (∀ y0 y1 y2 y3 y4, LeO (scrimref09_Large.l2 k y0 y1 y2 y3 y4) (scrimref09_Large.l2 (k + 1) y0 y1 y2 y3 y4)) ∧ (∀ y0 y1 y2 y3 y4, LeO (scrimref09_Large.l1 k y0 y1 y2 y3 y4) (scrimref09_Large.l1 (k + 1) y0 y1 y2 y3 y4))
  | 0 => ⟨fun _ _ _ _ r h => by simp [scrimref09_Large.l0] at h, fun _ _ _ _ _ r h => by simp [scrimref09_Large.j1] at h, fun _ _ _ _ r h => by simp [scrimref09_Large.j3] at h, fun _ _ _ _ _ r h => by simp [scrimref09_Large.l2] at h, fun _ _ _ _ _ r h => by simp [scrimref09_Large.l1] at h⟩
  | k + 1 => by
    obtain ⟨ih0, ih1, ih2, ih3, ih4⟩ := scrimref09_Large.mono_l k
    refine ⟨?_, ?_, ?_, ?_, ?_⟩
    · intro y0 y1 y2 y3
      unfold scrimref09_Large.l0
      repeat' first
      | (with_reducible exact ih0 _ _ _ _)
      | (with_reducible exact ih1 _ _ _ _ _)
      | (with_reducible exact ih2 _ _ _ _)
      | (with_reducible exact ih3 _ _ _ _ _)
      | (with_reducible exact ih4 _ _ _ _ _)
      | (with_reducible exact LeO.refl _)
      | (with_reducible exact LeO.none _)
      | (with_reducible refine LeO.ite ?_ ?_)
      | (with_reducible refine LeO.bind ?_ (fun _ => ?_))
      | exact ih0 _ _ _ _
      | exact ih1 _ _ _ _ _
      | exact ih2 _ _ _ _
      | exact ih3 _ _ _ _ _
      | exact ih4 _ _ _ _ _
      | exact LeO.none _
      | refine LeO.ite ?_ ?_
      | refine LeO.bind ?_ (fun _ => ?_)
    · intro y0 y1 y2 y3 y4
      unfold scrimref09_Large.j1
      repeat' first
      | (with_reducible exact ih0 _ _ _ _)
      | (with_reducible exact ih1 _ _ _ _ _)
      | (with_reducible exact ih2 _ _ _ _)
      | (with_reducible exact ih3 _ _ _ _ _)
      | (with_reducible exact ih4 _ _ _ _ _)
      | (with_reducible exact LeO.refl _)
      | (with_reducible exact LeO.none _)
      | (with_reducible refine LeO.ite ?_ ?_)
      | (with_reducible refine LeO.bind ?_ (fun _ => ?_))
      | exact ih0 _ _ _ _
      | exact ih1 _ _ _ _ _
      | exact ih2 _ _ _ _
      | exact ih3 _ _ _ _ _
      | exact ih4 _ _ _ _ _
      | exact LeO.none _
      | refine LeO.ite ?_ ?_
      | refine LeO.bind ?_ (fun _ => ?_)
    · intro y0 y1 y2 y3
      unfold scrimref09_Large.j3
      repeat' first
      | (with_reducible exact ih0 _ _ _ _)
      | (with_reducible exact ih1 _ _ _ _ _)
      | (with_reducible exact ih2 _ _ _ _)
      | (with_reducible exact ih3 _ _ _ _ _)
      | (with_reducible exact ih4 _ _ _ _ _)
      | (with_reducible exact LeO.refl _)
      | (with_reducible exact LeO.none _)
      | (with_reducible refine LeO.ite ?_ ?_)
      | (with_reducible refine LeO.bind ?_ (fun _ => ?_))
      | exact ih0 _ _ _ _
      | exact ih1 _ _ _ _ _
      | exact ih2 _ _ _ _
      | exact ih3 _ _ _ _ _
      | exact ih4 _ _ _ _ _
      | exact LeO.none _
      | refine LeO.ite ?_ ?_
      | refine LeO.bind ?_ (fun _ => ?_)
    · intro y0 y1 y2 y3 y4
      unfold scrimref09_Large.l2
      repeat' first
      | (with_reducible exact ih0 _ _ _ _)
      | (with_reducible exact ih1 _ _ _ _ _)
      | (with_reducible exact ih2 _ _ _ _)
      | (with_reducible exact ih3 _ _ _ _ _)
      | (with_reducible exact ih4 _ _ _ _ _)
      | (with_reducible exact LeO.refl _)
      | (with_reducible exact LeO.none _)
      | (with_reducible refine LeO.ite ?_ ?_)
      | (with_reducible refine LeO.bind ?_ (fun _ => ?_))
      | exact ih0 _ _ _ _
      | exact ih1 _ _ _ _ _
      | exact ih2 _ _ _ _
      | exact ih3 _ _ _ _ _
      | exact ih4 _ _ _ _ _
      | exact LeO.none _
      | refine LeO.ite ?_ ?_
      | refine LeO.bind ?_ (fun _ => ?_)
    · intro y0 y1 y2 y3 y4
      unfold scrimref09_Large.l1
      repeat' first
      | (with_reducible exact ih0 _ _ _ _)
      | (with_reducible exact ih1 _ _ _ _ _)
      | (with_reducible exact ih2 _ _ _ _)
      | (with_reducible exact ih3 _ _ _ _ _)
      | (with_reducible exact ih4 _ _ _ _ _)
      | (with_reducible exact LeO.refl _)
      | (with_reducible exact LeO.none _)
      | (with_reducible refine LeO.ite ?_ ?_)
      | (with_reducible refine LeO.bind ?_ (fun _ => ?_))
      | exact ih0 _ _ _ _
      | exact ih1 _ _ _ _ _
      | exact ih2 _ _ _ _
      | exact ih3 _ _ _ _ _
      | exact ih4 _ _ _ _ _
      | exact LeO.none _
      | refine LeO.ite ?_ ?_
      | refine LeO.bind ?_ (fun _ => ?_)
theorem scrimref09_Large.mono : ∀ a0 a1 k, LeO (scrimref09_Large.f k a0 a1) (scrimref09_Large.f (k + 1) a0 a1) := by
  intro a0 a1 k
  obtain ⟨ih0, ih1, ih2, ih3, ih4⟩ := scrimref09_Large.mono_l k
  unfold scrimref09_Large.f
  repeat' first
      | (with_reducible exact ih0 _ _ _ _)
      | (with_reducible exact ih1 _ _ _ _ _)
      | (with_reducible exact ih2 _ _ _ _)
      | (with_reducible exact ih3 _ _ _ _ _)
      | (with_reducible exact ih4 _ _ _ _ _)
      | (with_reducible exact LeO.refl _)
      | (with_reducible exact LeO.none _)
      | (with_reducible refine LeO.ite ?_ ?_)
      | (with_reducible refine LeO.bind ?_ (fun _ => ?_))
      | exact ih0 _ _ _ _
      | exact ih1 _ _ _ _ _
      | exact ih2 _ _ _ _
      | exact ih3 _ _ _ _ _
      | exact ih4 _ _ _ _ _
      | exact LeO.none _
      | refine LeO.ite ?_ ?_
      | refine LeO.bind ?_ (fun _ => ?_)
set_option maxHeartbeats 8000000 in
set_option maxRecDepth 100000 in
theorem scrimref09_Large.calls (k : Nat) (A0_0 : Option Addr) (c0_0 : Nat) (l0_0 : List (S50)) (A0_1 : Option Addr) (c0_1 : Nat) (l0_1 : List Bool) (r : Bool) (w : World) (hr0_0 : Kd.C k50 w A0_0 l0_0.length l0_0) (hc0_0 : l0_0.length ≤ c0_0) (hr0_1 : Kd.C Kd.bool w A0_1 l0_1.length l0_1) (hc0_1 : l0_1.length ≤ c0_1) (h : scrimref09_Large.f k l0_0 l0_1 = some r) :
    Calls Tryd.prog 8 #[.agg #[.slice A0_0 l0_0.length c0_0, .slice A0_1 l0_1.length c0_1]] w fun e w' => e = .returned (.bool r) ∧ Below w.heap.size w w' := by
  have hu30 := Tryd.underlying30
  have HR0_0 := Aside0.mk hr0_0
  have HC0_0 := Aside0.mk hc0_0
  clear hr0_0 hc0_0
  have HR0_1 := Aside0.mk hr0_1
  have HC0_1 := Aside0.mk hc0_1
  clear hr0_1 hc0_1
  have HB := Aside0.mk (Below.refl w.heap.size w)
  have H : (scrimref09_Large.l0 k 0 0 l0_0 l0_1) = some r := h
  clear h
  have H' := Aside0.mk H
  clear H
  go_enter Tryd.func8, Tryd.ntmps8
  go_wp2_with (first | ((with_reducible refine gate_dst (N := 1) rfl ?_); (try (refine gate_guard (by rfl) ?_; dsimp only)); refine box_event ?hg (N := 1) ?hd (cs := #[.slice A0_0 l0_0.length c0_0, .slice A0_1 l0_1.length c0_1]) (t := 30) ?hr ?_; (case hd => rfl); (case hg => rfl); (case hr => first | (go_simp; done) | (go_simp; rfl)); intro gb207 hg w2 hbox hb; have n0_ := Aside0.mk (below_step (by repeat (first | (with_reducible first | exact HB.out | apply below_alloc | apply pw_below_drewN | apply below_drew1) | exact HB.out)) hb); have n1_ := Aside0.mk (hbox); have n2_ := Aside0.mk ((by rw [hg]; exact (below_size (by repeat (first | (with_reducible first | exact HB.out | apply below_alloc | apply pw_below_drewN | apply below_drew1) | exact HB.out))) : w.heap.size ≤ gb207)); have n3_ := Aside0.mk ((by rw [hg]; exact (below_size (by repeat (first | (with_reducible first | exact HB.out | apply below_alloc | apply pw_below_drewN | apply below_drew1) | exact HB.out))) : w.heap.size ≤ gb207)); clear HB; have HB := n0_; have BK207 := n1_; have GW207 := n2_; have GE207 := n3_; clear n0_ n1_ n2_ n3_; clear hb hbox hg))
  go_loopg [3, 4] k (fun kq v3 v4 w' => ∃ (x3_1 : Int) (x4_1 : Int), v3 = .int .i64 x3_1 ∧ v4 = .int .i64 x4_1 ∧ Aside0 (scrimref09_Large.l0 kq x3_1 x4_1 l0_0 l0_1 = some r) ∧ Aside0 (kq ≤ k) ∧ Aside0 (w'.heap[gb207]? = some (.cells #[(.slice A0_0 l0_0.length c0_0), (.slice A0_1 l0_1.length c0_1)] 30 (0, 0))) ∧ Aside0 (Below w.heap.size w w'))
  case atStart => exact ⟨(0), (0), (by first | rfl | (simp; done) | (simp [*]; done)), (by first | rfl | (simp; done) | (simp [*]; done)), H', ⟨Nat.le_refl _⟩, ⟨by (with_reducible repeat (first | refine blk_drewN ?_ _ | refine blk_drew ?_ | refine blk_alloc ?_ _)); exact BK207.out⟩, ⟨by repeat (first | (with_reducible first | exact HB.out | apply below_alloc | apply pw_below_drewN | apply below_drew1 | refine below_set ?_ GE207.out) | exact HB.out)⟩⟩
  case round =>
    clear H'
    try clear p2
    obtain ⟨x3_1, x4_1, rfl, rfl, HA, HK1, BK207, HB⟩ := hrel
    cases gk with
    | zero => exact absurd HA.out (by simp [scrimref09_Large.l0])
    | succ k1 =>
      have H := HA.out
      clear HA
      simp only [scrimref09_Large.l0] at H
      have HC3 := Aside0.mk H
      clear H
      go_upto_region 3 with (fail)
      go_cut [15] (fun v15 wc => ∃ (kq : Nat) (x15_2 : Bool), v15 = .bool x15_2 ∧ Aside0 (scrimref09_Large.j1 kq x3_1 x4_1 x15_2 l0_0 l0_1 = some r) ∧ Aside0 (kq ≤ k1) ∧ Aside0 (wc.heap[gb207]? = some (.cells #[(.slice A0_0 l0_0.length c0_0), (.slice A0_1 l0_1.length c0_1)] 30 (0, 0))) ∧ Aside0 (Below w.heap.size w wc))
      case first =>
        have H := HC3.out
        clear HC3
        by_cases c4 : x4_1 < (l0_0.length : Int)
        · rw [if_pos c4] at H
          have c4b0 : decide (x4_1 < (l0_0.length : Int)) = true := decide_eq_true c4
          clear c4
          (first | rw [c4b0] | (simp only [i64_w, i32_w]; rw [c4b0]) | skip)
          have H' := Aside0.mk H
          clear H
          have hcz5_0 : wr.cell? ⟨gb207, 0, none⟩ = some (.slice A0_0 l0_0.length c0_0) := (blk_cell BK207.out 0).trans rfl
          have hcz5_1 : wr.cell? ⟨gb207, 1, none⟩ = some (.slice A0_1 l0_1.length c0_1) := (blk_cell BK207.out 1).trans rfl
          have hfz5_0 := blk_frozen BK207.out 0
          have hfz5_1 := blk_frozen BK207.out 1
          go_wp2
          go_meet
          case rel => exact ⟨_, (decide (x3_1 ≤ 500)), (by first | rfl | (simp; done) | (simp [*]; done)), H', ⟨by have := HK1.out; first | omega | exact Nat.le_refl _⟩, ⟨by (with_reducible repeat (first | refine blk_drewN ?_ _ | refine blk_drew ?_ | refine blk_alloc ?_ _)); exact BK207.out⟩, ⟨by repeat (first | (with_reducible first | exact HB.out | apply below_alloc | apply pw_below_drewN | apply below_drew1 | refine below_set ?_ GE207.out) | exact HB.out)⟩⟩
        · rw [if_neg c4] at H
          have c4b0 : decide (x4_1 < (l0_0.length : Int)) = false := decide_eq_false c4
          clear c4
          (first | rw [c4b0] | (simp only [i64_w, i32_w]; rw [c4b0]) | skip)
          have H' := Aside0.mk H
          clear H
          have hcz6_0 : wr.cell? ⟨gb207, 0, none⟩ = some (.slice A0_0 l0_0.length c0_0) := (blk_cell BK207.out 0).trans rfl
          have hcz6_1 : wr.cell? ⟨gb207, 1, none⟩ = some (.slice A0_1 l0_1.length c0_1) := (blk_cell BK207.out 1).trans rfl
          have hfz6_0 := blk_frozen BK207.out 0
          have hfz6_1 := blk_frozen BK207.out 1
          go_wp2
          go_meet
          case rel => exact ⟨_, (false), (by first | rfl | (simp; done) | (simp [*]; done)), H', ⟨by have := HK1.out; first | omega | exact Nat.le_refl _⟩, ⟨by (with_reducible repeat (first | refine blk_drewN ?_ _ | refine blk_drew ?_ | refine blk_alloc ?_ _)); exact BK207.out⟩, ⟨by repeat (first | (with_reducible first | exact HB.out | apply below_alloc | apply pw_below_drewN | apply below_drew1 | refine below_set ?_ GE207.out) | exact HB.out)⟩⟩
      case rest =>
        clear HC3
        try clear p2
        try clear c4
        try clear c4b0
        try clear hcz5_0
        try clear hcz5_1
        try clear hcz6_0
        try clear hcz6_1
        try clear hfz5_0
        try clear hfz5_1
        try clear hfz6_0
        try clear hfz6_1
        try clear p2
        obtain ⟨kq, x15_2, rfl, HA, HJ2, BK207, HB⟩ := hcut
        cases kq with
        | zero => exact absurd HA.out (by simp [scrimref09_Large.j1])
        | succ kj2 =>
          have H := HA.out
          clear HA
          simp only [scrimref09_Large.j1] at H
          by_cases c7 : x15_2 = true
          · subst c7
            have H1 : (if 0 ≤ x4_1 then (if x4_1 < (l0_0.length : Int) then (scrimref09_Large.l1 kj2 (wrap64 ((wrap64 (x3_1 + 1)) + (((rd_T50 l0_0 x4_1).f0).size : Int))) x4_1 0 l0_0 l0_1) else (none)) else (none)) = some r := by rw [if_pos rfl] at H; exact H
            clear H
            have H := H1
            clear H1
            by_cases c8 : 0 ≤ x4_1
            · rw [if_pos c8] at H
              have c8b0 : decide (0 ≤ x4_1) = true := decide_eq_true c8
              clear c8
              by_cases c9 : x4_1 < (l0_0.length : Int)
              · rw [if_pos c9] at H
                have c9b0 : decide (x4_1 < (l0_0.length : Int)) = true := decide_eq_true c9
                clear c9
                have HC10 := Aside0.mk H
                clear H
                have hcz11_0 : wc.cell? ⟨gb207, 0, none⟩ = some (.slice A0_0 l0_0.length c0_0) := (blk_cell BK207.out 0).trans rfl
                have hcz11_1 : wc.cell? ⟨gb207, 1, none⟩ = some (.slice A0_1 l0_1.length c0_1) := (blk_cell BK207.out 1).trans rfl
                have hfz11_0 := blk_frozen BK207.out 0
                have hfz11_1 := blk_frozen BK207.out 1
                have p208 : 0 ≤ (x4_1 : Int) := of_decide_eq_true (by first | (with_reducible assumption) | assumption)
                have q208 : x4_1 < (l0_0.length : Int) := of_decide_eq_true (by first | (with_reducible assumption) | assumption)
                obtain ⟨ad208, A208_1, c208_1, A208_2, c208_2, e208, hx208_0, hx208_1, hx208_2, hx208_3, hx208_4, hl208_1, hi208_1, hl208_2, hi208_2⟩ := at_T50 HR0_0.out x4_1 p208 q208
                cases e208
                replace hx208_0 := (HB.out.cell (World.block_lt_of_cell? w _ hx208_0)).trans hx208_0
                replace hx208_1 := (HB.out.cell (World.block_lt_of_cell? w _ hx208_1)).trans hx208_1
                replace hx208_2 := (HB.out.cell (World.block_lt_of_cell? w _ hx208_2)).trans hx208_2
                replace hx208_3 := (HB.out.cell (World.block_lt_of_cell? w _ hx208_3)).trans hx208_3
                replace hx208_4 := (HB.out.cell (World.block_lt_of_cell? w _ hx208_4)).trans hx208_4
                have HR208_1 := Aside0.mk hi208_1
                have HC208_1 := Aside0.mk hl208_1
                clear hi208_1 hl208_1
                have HR208_2 := Aside0.mk hi208_2
                have HC208_2 := Aside0.mk hl208_2
                clear hi208_2 hl208_2
                replace p208 := eq_true p208
                replace q208 := eq_true q208
                go_upto_block 2 with (fail)
                go_cut [3] (fun v3 wc => ∃ (kq : Nat) (x3_9 : Int), v3 = .int .i64 x3_9 ∧ Aside0 (scrimref09_Large.j3 kq x3_9 x4_1 l0_0 l0_1 = some r) ∧ Aside0 (kq ≤ kj2) ∧ Aside0 (wc.heap[gb207]? = some (.cells #[(.slice (some ad208) l0_0.length c0_0), (.slice A0_1 l0_1.length c0_1)] 30 (0, 0))) ∧ Aside0 (Below w.heap.size w wc))
                case first =>
                  have H := HC10.out
                  clear HC10
                  have H' := Aside0.mk H
                  clear H
                  go_wp2
                  go_loopg [3, 5] kj2 (fun kq v3 v5 w' => ∃ (x3_3 : Int) (x5_3 : Int), v3 = .int .i64 x3_3 ∧ v5 = .int .i64 x5_3 ∧ Aside0 (scrimref09_Large.l1 kq x3_3 x4_1 x5_3 l0_0 l0_1 = some r) ∧ Aside0 (kq ≤ kj2) ∧ Aside0 (w'.heap[gb207]? = some (.cells #[(.slice (some ad208) l0_0.length c0_0), (.slice A0_1 l0_1.length c0_1)] 30 (0, 0))) ∧ Aside0 (Below w.heap.size w w'))
                  case atStart => exact ⟨(wrap64 ((wrap64 (x3_1 + 1)) + (((rd_T50 l0_0 x4_1).f0).size : Int))), (0), (by first | rfl | (simp; done) | (simp [*]; done)), (by first | rfl | (simp; done) | (simp [*]; done)), H', ⟨Nat.le_refl _⟩, ⟨by (with_reducible repeat (first | refine blk_drewN ?_ _ | refine blk_drew ?_ | refine blk_alloc ?_ _)); exact BK207.out⟩, ⟨by repeat (first | (with_reducible first | exact HB.out | apply below_alloc | apply pw_below_drewN | apply below_drew1 | refine below_set ?_ GE207.out) | exact HB.out)⟩⟩
                  case round =>
                    clear H'
                    try clear c2
                    try clear p2
                    try clear q2
                    try clear hx2
                    try clear c4
                    try clear c4b0
                    try clear p6
                    try clear c7
                    try clear c8
                    try clear c8b0
                    try clear c9
                    try clear c9b0
                    try clear hcz11_0
                    try clear hcz11_1
                    try clear hcz5_0
                    try clear hcz5_1
                    try clear hcz6_0
                    try clear hcz6_1
                    try clear hfz11_0
                    try clear hfz11_1
                    try clear hfz5_0
                    try clear hfz5_1
                    try clear hfz6_0
                    try clear hfz6_1
                    try clear hx208_0
                    try clear hx208_1
                    try clear hx208_2
                    try clear hx208_3
                    try clear hx208_4
                    try clear p2
                    try clear p208
                    try clear q208
                    obtain ⟨x3_3, x5_3, rfl, rfl, HA, HK3, BK207, HB⟩ := hrel
                    cases gk with
                    | zero => exact absurd HA.out (by simp [scrimref09_Large.l1])
                    | succ k3 =>
                      have H := HA.out
                      clear HA
                      simp only [scrimref09_Large.l1] at H
                      by_cases c12 : 0 ≤ x4_1
                      · rw [if_pos c12] at H
                        have c12b0 : decide (0 ≤ x4_1) = true := decide_eq_true c12
                        clear c12
                        (first | rw [c12b0] | (simp only [i64_w, i32_w]; rw [c12b0]) | skip)
                        by_cases c13 : x4_1 < (l0_0.length : Int)
                        · rw [if_pos c13] at H
                          have c13b0 : decide (x4_1 < (l0_0.length : Int)) = true := decide_eq_true c13
                          clear c13
                          by_cases c14 : x5_3 < (((rd_T50 l0_0 x4_1).f1).length : Int)
                          · rw [if_pos c14] at H
                            have c14b0 : decide (x5_3 < (((rd_T50 l0_0 x4_1).f1).length : Int)) = true := decide_eq_true c14
                            clear c14
                            by_cases c15 : x3_3 ≤ 500
                            · rw [if_pos c15] at H
                              have c15b0 : decide (x3_3 ≤ 500) = true := decide_eq_true c15
                              clear c15
                              by_cases c16 : 0 ≤ x5_3
                              · rw [if_pos c16] at H
                                have c16b0 : decide (0 ≤ x5_3) = true := decide_eq_true c16
                                clear c16
                                have H' := Aside0.mk H
                                clear H
                                have hcz17_0 : wr.cell? ⟨gb207, 0, none⟩ = some (.slice (some ad208) l0_0.length c0_0) := (blk_cell BK207.out 0).trans rfl
                                have hcz17_1 : wr.cell? ⟨gb207, 1, none⟩ = some (.slice A0_1 l0_1.length c0_1) := (blk_cell BK207.out 1).trans rfl
                                have hfz17_0 := blk_frozen BK207.out 0
                                have hfz17_1 := blk_frozen BK207.out 1
                                have p209 : 0 ≤ (x4_1 : Int) := of_decide_eq_true (by first | (with_reducible assumption) | assumption)
                                have q209 : x4_1 < (l0_0.length : Int) := of_decide_eq_true (by first | (with_reducible assumption) | assumption)
                                obtain ⟨ad209, A209_1, c209_1, A209_2, c209_2, e209, hx209_0, hx209_1, hx209_2, hx209_3, hx209_4, hl209_1, hi209_1, hl209_2, hi209_2⟩ := at_T50 HR0_0.out x4_1 p209 q209
                                obtain rfl : ad208 = ad209 := (by injection e209)
                                replace hx209_0 := (HB.out.cell (World.block_lt_of_cell? w _ hx209_0)).trans hx209_0
                                replace hx209_1 := (HB.out.cell (World.block_lt_of_cell? w _ hx209_1)).trans hx209_1
                                replace hx209_2 := (HB.out.cell (World.block_lt_of_cell? w _ hx209_2)).trans hx209_2
                                replace hx209_3 := (HB.out.cell (World.block_lt_of_cell? w _ hx209_3)).trans hx209_3
                                replace hx209_4 := (HB.out.cell (World.block_lt_of_cell? w _ hx209_4)).trans hx209_4
                                have HR209_1 := Aside0.mk hi209_1
                                have HC209_1 := Aside0.mk hl209_1
                                clear hi209_1 hl209_1
                                have HR209_2 := Aside0.mk hi209_2
                                have HC209_2 := Aside0.mk hl209_2
                                clear hi209_2 hl209_2
                                replace p209 := eq_true p209
                                replace q209 := eq_true q209
                                have p210 : 0 ≤ (x4_1 : Int) := of_decide_eq_true (by first | (with_reducible assumption) | assumption)
                                have q210 : x4_1 < (l0_0.length : Int) := of_decide_eq_true (by first | (with_reducible assumption) | assumption)
                                obtain ⟨ad210, A210_1, c210_1, A210_2, c210_2, e210, hx210_0, hx210_1, hx210_2, hx210_3, hx210_4, hl210_1, hi210_1, hl210_2, hi210_2⟩ := at_T50 HR0_0.out x4_1 p210 q210
                                obtain rfl : ad208 = ad210 := (by injection e210)
                                replace hx210_0 := (HB.out.cell (World.block_lt_of_cell? w _ hx210_0)).trans hx210_0
                                replace hx210_1 := (HB.out.cell (World.block_lt_of_cell? w _ hx210_1)).trans hx210_1
                                replace hx210_2 := (HB.out.cell (World.block_lt_of_cell? w _ hx210_2)).trans hx210_2
                                replace hx210_3 := (HB.out.cell (World.block_lt_of_cell? w _ hx210_3)).trans hx210_3
                                replace hx210_4 := (HB.out.cell (World.block_lt_of_cell? w _ hx210_4)).trans hx210_4
                                have HR210_1 := Aside0.mk hi210_1
                                have HC210_1 := Aside0.mk hl210_1
                                clear hi210_1 hl210_1
                                have HR210_2 := Aside0.mk hi210_2
                                have HC210_2 := Aside0.mk hl210_2
                                clear hi210_2 hl210_2
                                replace p210 := eq_true p210
                                replace q210 := eq_true q210
                                have ea_ := Option.some.inj (hx209_1.symm.trans hx210_1)
                                injection ea_ with ea_ en_ ec_
                                subst ea_
                                subst ec_
                                clear en_
                                have ea_ := Option.some.inj (hx209_2.symm.trans hx210_2)
                                injection ea_ with ea_ en_ ec_
                                subst ea_
                                subst ec_
                                clear en_
                                have p211 : 0 ≤ (x5_3 : Int) := of_decide_eq_true (by first | (with_reducible assumption) | assumption)
                                have q211 : x5_3 < (((rd_T50 l0_0 x4_1).f1).length : Int) := of_decide_eq_true (by first | (with_reducible assumption) | assumption)
                                obtain ⟨ad211, e211, hx211_0⟩ := Kd.at_string HR210_1.out x5_3 p211 q211
                                cases e211
                                replace hx211_0 := (HB.out.cell (World.block_lt_of_cell? w _ hx211_0)).trans hx211_0
                                replace p211 := eq_true p211
                                replace q211 := eq_true q211
                                go_wp2
                                go_roundg k3
                                case measure => have := HK1.out; have := HJ2.out; have := HK3.out; omega
                                case rel => exact ⟨(wrap64 ((wrap64 (x3_3 + 1)) + ((rdOf ByteArray.empty ((rd_T50 l0_0 x4_1).f1) x5_3).size : Int))), (wrap64 (x5_3 + 1)), (by first | rfl | (simp; done) | (simp [*]; done)), (by first | rfl | (simp; done) | (simp [*]; done)), H', ⟨by have := HK1.out; have := HJ2.out; have := HK3.out; omega⟩, ⟨by (with_reducible repeat (first | refine blk_drewN ?_ _ | refine blk_drew ?_ | refine blk_alloc ?_ _)); exact BK207.out⟩, ⟨by repeat (first | (with_reducible first | exact HB.out | apply below_alloc | apply pw_below_drewN | apply below_drew1 | refine below_set ?_ GE207.out) | exact HB.out)⟩⟩
                              · rw [if_neg c16] at H
                                exact absurd H (by simp)
                            · rw [if_neg c15] at H
                              have c15b0 : decide (x3_3 ≤ 500) = false := decide_eq_false c15
                              clear c15
                              have H' := Aside0.mk H
                              clear H
                              have hcz18_0 : wr.cell? ⟨gb207, 0, none⟩ = some (.slice (some ad208) l0_0.length c0_0) := (blk_cell BK207.out 0).trans rfl
                              have hcz18_1 : wr.cell? ⟨gb207, 1, none⟩ = some (.slice A0_1 l0_1.length c0_1) := (blk_cell BK207.out 1).trans rfl
                              have hfz18_0 := blk_frozen BK207.out 0
                              have hfz18_1 := blk_frozen BK207.out 1
                              have p209 : 0 ≤ (x4_1 : Int) := of_decide_eq_true (by first | (with_reducible assumption) | assumption)
                              have q209 : x4_1 < (l0_0.length : Int) := of_decide_eq_true (by first | (with_reducible assumption) | assumption)
                              obtain ⟨ad209, A209_1, c209_1, A209_2, c209_2, e209, hx209_0, hx209_1, hx209_2, hx209_3, hx209_4, hl209_1, hi209_1, hl209_2, hi209_2⟩ := at_T50 HR0_0.out x4_1 p209 q209
                              obtain rfl : ad208 = ad209 := (by injection e209)
                              replace hx209_0 := (HB.out.cell (World.block_lt_of_cell? w _ hx209_0)).trans hx209_0
                              replace hx209_1 := (HB.out.cell (World.block_lt_of_cell? w _ hx209_1)).trans hx209_1
                              replace hx209_2 := (HB.out.cell (World.block_lt_of_cell? w _ hx209_2)).trans hx209_2
                              replace hx209_3 := (HB.out.cell (World.block_lt_of_cell? w _ hx209_3)).trans hx209_3
                              replace hx209_4 := (HB.out.cell (World.block_lt_of_cell? w _ hx209_4)).trans hx209_4
                              have HR209_1 := Aside0.mk hi209_1
                              have HC209_1 := Aside0.mk hl209_1
                              clear hi209_1 hl209_1
                              have HR209_2 := Aside0.mk hi209_2
                              have HC209_2 := Aside0.mk hl209_2
                              clear hi209_2 hl209_2
                              replace p209 := eq_true p209
                              replace q209 := eq_true q209
                              go_wp2
                              go_meet
                              case rel => exact ⟨_, (x3_3), (by first | rfl | (simp; done) | (simp [*]; done)), H', ⟨by have := HK1.out; have := HJ2.out; have := HK3.out; first | omega | exact Nat.le_refl _⟩, ⟨by (with_reducible repeat (first | refine blk_drewN ?_ _ | refine blk_drew ?_ | refine blk_alloc ?_ _)); exact BK207.out⟩, ⟨by repeat (first | (with_reducible first | exact HB.out | apply below_alloc | apply pw_below_drewN | apply below_drew1 | refine below_set ?_ GE207.out) | exact HB.out)⟩⟩
                          · rw [if_neg c14] at H
                            have c14b0 : decide (x5_3 < (((rd_T50 l0_0 x4_1).f1).length : Int)) = false := decide_eq_false c14
                            clear c14
                            have H' := Aside0.mk H
                            clear H
                            have hcz19_0 : wr.cell? ⟨gb207, 0, none⟩ = some (.slice (some ad208) l0_0.length c0_0) := (blk_cell BK207.out 0).trans rfl
                            have hcz19_1 : wr.cell? ⟨gb207, 1, none⟩ = some (.slice A0_1 l0_1.length c0_1) := (blk_cell BK207.out 1).trans rfl
                            have hfz19_0 := blk_frozen BK207.out 0
                            have hfz19_1 := blk_frozen BK207.out 1
                            have p209 : 0 ≤ (x4_1 : Int) := of_decide_eq_true (by first | (with_reducible assumption) | assumption)
                            have q209 : x4_1 < (l0_0.length : Int) := of_decide_eq_true (by first | (with_reducible assumption) | assumption)
                            obtain ⟨ad209, A209_1, c209_1, A209_2, c209_2, e209, hx209_0, hx209_1, hx209_2, hx209_3, hx209_4, hl209_1, hi209_1, hl209_2, hi209_2⟩ := at_T50 HR0_0.out x4_1 p209 q209
                            obtain rfl : ad208 = ad209 := (by injection e209)
                            replace hx209_0 := (HB.out.cell (World.block_lt_of_cell? w _ hx209_0)).trans hx209_0
                            replace hx209_1 := (HB.out.cell (World.block_lt_of_cell? w _ hx209_1)).trans hx209_1
                            replace hx209_2 := (HB.out.cell (World.block_lt_of_cell? w _ hx209_2)).trans hx209_2
                            replace hx209_3 := (HB.out.cell (World.block_lt_of_cell? w _ hx209_3)).trans hx209_3
                            replace hx209_4 := (HB.out.cell (World.block_lt_of_cell? w _ hx209_4)).trans hx209_4
                            have HR209_1 := Aside0.mk hi209_1
                            have HC209_1 := Aside0.mk hl209_1
                            clear hi209_1 hl209_1
                            have HR209_2 := Aside0.mk hi209_2
                            have HC209_2 := Aside0.mk hl209_2
                            clear hi209_2 hl209_2
                            replace p209 := eq_true p209
                            replace q209 := eq_true q209
                            go_wp2
                            go_meet
                            case rel => exact ⟨_, (x3_3), (by first | rfl | (simp; done) | (simp [*]; done)), H', ⟨by have := HK1.out; have := HJ2.out; have := HK3.out; first | omega | exact Nat.le_refl _⟩, ⟨by (with_reducible repeat (first | refine blk_drewN ?_ _ | refine blk_drew ?_ | refine blk_alloc ?_ _)); exact BK207.out⟩, ⟨by repeat (first | (with_reducible first | exact HB.out | apply below_alloc | apply pw_below_drewN | apply below_drew1 | refine below_set ?_ GE207.out) | exact HB.out)⟩⟩
                        · rw [if_neg c13] at H
                          exact absurd H (by simp)
                      · rw [if_neg c12] at H
                        exact absurd H (by simp)
                case rest =>
                  clear HC10
                  try clear c1
                  try clear c2
                  try clear p2
                  try clear q2
                  try clear hx2
                  try clear c4
                  try clear c4b0
                  try clear p6
                  try clear c7
                  try clear c8
                  try clear c8b0
                  try clear c9
                  try clear c9b0
                  try clear c12
                  try clear c12b0
                  try clear c13
                  try clear c13b0
                  try clear c14
                  try clear c14b0
                  try clear c15
                  try clear c15b0
                  try clear c16
                  try clear c16b0
                  try clear hcz11_0
                  try clear hcz11_1
                  try clear hcz17_0
                  try clear hcz17_1
                  try clear hcz18_0
                  try clear hcz18_1
                  try clear hcz19_0
                  try clear hcz19_1
                  try clear hcz5_0
                  try clear hcz5_1
                  try clear hcz6_0
                  try clear hcz6_1
                  try clear hfz11_0
                  try clear hfz11_1
                  try clear hfz17_0
                  try clear hfz17_1
                  try clear hfz18_0
                  try clear hfz18_1
                  try clear hfz19_0
                  try clear hfz19_1
                  try clear hfz5_0
                  try clear hfz5_1
                  try clear hfz6_0
                  try clear hfz6_1
                  try clear hx208_0
                  try clear hx208_1
                  try clear hx208_2
                  try clear hx208_3
                  try clear hx208_4
                  try clear hx209_0
                  try clear hx209_1
                  try clear hx209_2
                  try clear hx209_3
                  try clear hx209_4
                  try clear hx210_0
                  try clear hx210_1
                  try clear hx210_2
                  try clear hx210_3
                  try clear hx210_4
                  try clear hx211_0
                  try clear p2
                  try clear p208
                  try clear p209
                  try clear p210
                  try clear p211
                  try clear p6
                  try clear q2
                  try clear q208
                  try clear q209
                  try clear q210
                  try clear q211
                  obtain ⟨kq, x3_9, rfl, HA, HJ9, BK207, HB⟩ := hcut
                  cases kq with
                  | zero => exact absurd HA.out (by simp [scrimref09_Large.j3])
                  | succ kj9 =>
                    have H := HA.out
                    clear HA
                    simp only [scrimref09_Large.j3] at H
                    have H' := Aside0.mk H
                    clear H
                    go_wp2
                    go_loopg [3, 6] kj9 (fun kq v3 v6 w' => ∃ (x3_4 : Int) (x6_4 : Int), v3 = .int .i64 x3_4 ∧ v6 = .int .i64 x6_4 ∧ Aside0 (scrimref09_Large.l2 kq x3_4 x4_1 x6_4 l0_0 l0_1 = some r) ∧ Aside0 (kq ≤ kj9) ∧ Aside0 (w'.heap[gb207]? = some (.cells #[(.slice (some ad208) l0_0.length c0_0), (.slice A0_1 l0_1.length c0_1)] 30 (0, 0))) ∧ Aside0 (Below w.heap.size w w'))
                    case atStart => exact ⟨(x3_9), (0), (by first | rfl | (simp; done) | (simp [*]; done)), (by first | rfl | (simp; done) | (simp [*]; done)), H', ⟨Nat.le_refl _⟩, ⟨by (with_reducible repeat (first | refine blk_drewN ?_ _ | refine blk_drew ?_ | refine blk_alloc ?_ _)); exact BK207.out⟩, ⟨by repeat (first | (with_reducible first | exact HB.out | apply below_alloc | apply pw_below_drewN | apply below_drew1 | refine below_set ?_ GE207.out) | exact HB.out)⟩⟩
                    case round =>
                      clear H'
                      try clear c1
                      try clear c2
                      try clear p2
                      try clear q2
                      try clear hx2
                      try clear c4
                      try clear c4b0
                      try clear p6
                      try clear c7
                      try clear c8
                      try clear c8b0
                      try clear c9
                      try clear c9b0
                      try clear c12
                      try clear c12b0
                      try clear c13
                      try clear c13b0
                      try clear c14
                      try clear c14b0
                      try clear c15
                      try clear c15b0
                      try clear c16
                      try clear c16b0
                      try clear hcz11_0
                      try clear hcz11_1
                      try clear hcz17_0
                      try clear hcz17_1
                      try clear hcz18_0
                      try clear hcz18_1
                      try clear hcz19_0
                      try clear hcz19_1
                      try clear hcz5_0
                      try clear hcz5_1
                      try clear hcz6_0
                      try clear hcz6_1
                      try clear hfz11_0
                      try clear hfz11_1
                      try clear hfz17_0
                      try clear hfz17_1
                      try clear hfz18_0
                      try clear hfz18_1
                      try clear hfz19_0
                      try clear hfz19_1
                      try clear hfz5_0
                      try clear hfz5_1
                      try clear hfz6_0
                      try clear hfz6_1
                      try clear hx208_0
                      try clear hx208_1
                      try clear hx208_2
                      try clear hx208_3
                      try clear hx208_4
                      try clear hx209_0
                      try clear hx209_1
                      try clear hx209_2
                      try clear hx209_3
                      try clear hx209_4
                      try clear hx210_0
                      try clear hx210_1
                      try clear hx210_2
                      try clear hx210_3
                      try clear hx210_4
                      try clear hx211_0
                      try clear p2
                      try clear p208
                      try clear p209
                      try clear p210
                      try clear p211
                      try clear p6
                      try clear q2
                      try clear q208
                      try clear q209
                      try clear q210
                      try clear q211
                      obtain ⟨x3_4, x6_4, rfl, rfl, HA, HK4, BK207, HB⟩ := hrel
                      cases gk with
                      | zero => exact absurd HA.out (by simp [scrimref09_Large.l2])
                      | succ k4 =>
                        have H := HA.out
                        clear HA
                        simp only [scrimref09_Large.l2] at H
                        by_cases c20 : 0 ≤ x4_1
                        · rw [if_pos c20] at H
                          have c20b0 : decide (0 ≤ x4_1) = true := decide_eq_true c20
                          clear c20
                          by_cases c21 : x4_1 < (l0_0.length : Int)
                          · rw [if_pos c21] at H
                            have c21b0 : decide (x4_1 < (l0_0.length : Int)) = true := decide_eq_true c21
                            clear c21
                            by_cases c22 : x6_4 < (((rd_T50 l0_0 x4_1).f2).length : Int)
                            · rw [if_pos c22] at H
                              have c22b0 : decide (x6_4 < (((rd_T50 l0_0 x4_1).f2).length : Int)) = true := decide_eq_true c22
                              clear c22
                              by_cases c23 : x3_4 ≤ 500
                              · rw [if_pos c23] at H
                                have c23b0 : decide (x3_4 ≤ 500) = true := decide_eq_true c23
                                clear c23
                                by_cases c24 : 0 ≤ x6_4
                                · rw [if_pos c24] at H
                                  have c24b0 : decide (0 ≤ x6_4) = true := decide_eq_true c24
                                  clear c24
                                  have H' := Aside0.mk H
                                  clear H
                                  have hcz25_0 : wr.cell? ⟨gb207, 0, none⟩ = some (.slice (some ad208) l0_0.length c0_0) := (blk_cell BK207.out 0).trans rfl
                                  have hcz25_1 : wr.cell? ⟨gb207, 1, none⟩ = some (.slice A0_1 l0_1.length c0_1) := (blk_cell BK207.out 1).trans rfl
                                  have hfz25_0 := blk_frozen BK207.out 0
                                  have hfz25_1 := blk_frozen BK207.out 1
                                  have p212 : 0 ≤ (x4_1 : Int) := of_decide_eq_true (by first | (with_reducible assumption) | assumption)
                                  have q212 : x4_1 < (l0_0.length : Int) := of_decide_eq_true (by first | (with_reducible assumption) | assumption)
                                  obtain ⟨ad212, A212_1, c212_1, A212_2, c212_2, e212, hx212_0, hx212_1, hx212_2, hx212_3, hx212_4, hl212_1, hi212_1, hl212_2, hi212_2⟩ := at_T50 HR0_0.out x4_1 p212 q212
                                  obtain rfl : ad208 = ad212 := (by injection e212)
                                  replace hx212_0 := (HB.out.cell (World.block_lt_of_cell? w _ hx212_0)).trans hx212_0
                                  replace hx212_1 := (HB.out.cell (World.block_lt_of_cell? w _ hx212_1)).trans hx212_1
                                  replace hx212_2 := (HB.out.cell (World.block_lt_of_cell? w _ hx212_2)).trans hx212_2
                                  replace hx212_3 := (HB.out.cell (World.block_lt_of_cell? w _ hx212_3)).trans hx212_3
                                  replace hx212_4 := (HB.out.cell (World.block_lt_of_cell? w _ hx212_4)).trans hx212_4
                                  have HR212_1 := Aside0.mk hi212_1
                                  have HC212_1 := Aside0.mk hl212_1
                                  clear hi212_1 hl212_1
                                  have HR212_2 := Aside0.mk hi212_2
                                  have HC212_2 := Aside0.mk hl212_2
                                  clear hi212_2 hl212_2
                                  replace p212 := eq_true p212
                                  replace q212 := eq_true q212
                                  have p213 : 0 ≤ (x4_1 : Int) := of_decide_eq_true (by first | (with_reducible assumption) | assumption)
                                  have q213 : x4_1 < (l0_0.length : Int) := of_decide_eq_true (by first | (with_reducible assumption) | assumption)
                                  obtain ⟨ad213, A213_1, c213_1, A213_2, c213_2, e213, hx213_0, hx213_1, hx213_2, hx213_3, hx213_4, hl213_1, hi213_1, hl213_2, hi213_2⟩ := at_T50 HR0_0.out x4_1 p213 q213
                                  obtain rfl : ad208 = ad213 := (by injection e213)
                                  replace hx213_0 := (HB.out.cell (World.block_lt_of_cell? w _ hx213_0)).trans hx213_0
                                  replace hx213_1 := (HB.out.cell (World.block_lt_of_cell? w _ hx213_1)).trans hx213_1
                                  replace hx213_2 := (HB.out.cell (World.block_lt_of_cell? w _ hx213_2)).trans hx213_2
                                  replace hx213_3 := (HB.out.cell (World.block_lt_of_cell? w _ hx213_3)).trans hx213_3
                                  replace hx213_4 := (HB.out.cell (World.block_lt_of_cell? w _ hx213_4)).trans hx213_4
                                  have HR213_1 := Aside0.mk hi213_1
                                  have HC213_1 := Aside0.mk hl213_1
                                  clear hi213_1 hl213_1
                                  have HR213_2 := Aside0.mk hi213_2
                                  have HC213_2 := Aside0.mk hl213_2
                                  clear hi213_2 hl213_2
                                  replace p213 := eq_true p213
                                  replace q213 := eq_true q213
                                  have ea_ := Option.some.inj (hx212_1.symm.trans hx213_1)
                                  injection ea_ with ea_ en_ ec_
                                  subst ea_
                                  subst ec_
                                  clear en_
                                  have ea_ := Option.some.inj (hx212_2.symm.trans hx213_2)
                                  injection ea_ with ea_ en_ ec_
                                  subst ea_
                                  subst ec_
                                  clear en_
                                  have p214 : 0 ≤ (x6_4 : Int) := of_decide_eq_true (by first | (with_reducible assumption) | assumption)
                                  have q214 : x6_4 < (((rd_T50 l0_0 x4_1).f2).length : Int) := of_decide_eq_true (by first | (with_reducible assumption) | assumption)
                                  obtain ⟨ad214, e214, hx214_0⟩ := Kd.at_string HR213_2.out x6_4 p214 q214
                                  cases e214
                                  replace hx214_0 := (HB.out.cell (World.block_lt_of_cell? w _ hx214_0)).trans hx214_0
                                  replace p214 := eq_true p214
                                  replace q214 := eq_true q214
                                  go_wp2
                                  go_roundg k4
                                  case measure => have := HK1.out; have := HJ2.out; have := HJ9.out; have := HK4.out; omega
                                  case rel => exact ⟨(wrap64 ((wrap64 (x3_4 + 1)) + ((rdOf ByteArray.empty ((rd_T50 l0_0 x4_1).f2) x6_4).size : Int))), (wrap64 (x6_4 + 1)), (by first | rfl | (simp; done) | (simp [*]; done)), (by first | rfl | (simp; done) | (simp [*]; done)), H', ⟨by have := HK1.out; have := HJ2.out; have := HJ9.out; have := HK4.out; omega⟩, ⟨by (with_reducible repeat (first | refine blk_drewN ?_ _ | refine blk_drew ?_ | refine blk_alloc ?_ _)); exact BK207.out⟩, ⟨by repeat (first | (with_reducible first | exact HB.out | apply below_alloc | apply pw_below_drewN | apply below_drew1 | refine below_set ?_ GE207.out) | exact HB.out)⟩⟩
                                · rw [if_neg c24] at H
                                  exact absurd H (by simp)
                              · rw [if_neg c23] at H
                                have c23b0 : decide (x3_4 ≤ 500) = false := decide_eq_false c23
                                clear c23
                                have H' := Aside0.mk H
                                clear H
                                have hcz26_0 : wr.cell? ⟨gb207, 0, none⟩ = some (.slice (some ad208) l0_0.length c0_0) := (blk_cell BK207.out 0).trans rfl
                                have hcz26_1 : wr.cell? ⟨gb207, 1, none⟩ = some (.slice A0_1 l0_1.length c0_1) := (blk_cell BK207.out 1).trans rfl
                                have hfz26_0 := blk_frozen BK207.out 0
                                have hfz26_1 := blk_frozen BK207.out 1
                                have p212 : 0 ≤ (x4_1 : Int) := of_decide_eq_true (by first | (with_reducible assumption) | assumption)
                                have q212 : x4_1 < (l0_0.length : Int) := of_decide_eq_true (by first | (with_reducible assumption) | assumption)
                                obtain ⟨ad212, A212_1, c212_1, A212_2, c212_2, e212, hx212_0, hx212_1, hx212_2, hx212_3, hx212_4, hl212_1, hi212_1, hl212_2, hi212_2⟩ := at_T50 HR0_0.out x4_1 p212 q212
                                obtain rfl : ad208 = ad212 := (by injection e212)
                                replace hx212_0 := (HB.out.cell (World.block_lt_of_cell? w _ hx212_0)).trans hx212_0
                                replace hx212_1 := (HB.out.cell (World.block_lt_of_cell? w _ hx212_1)).trans hx212_1
                                replace hx212_2 := (HB.out.cell (World.block_lt_of_cell? w _ hx212_2)).trans hx212_2
                                replace hx212_3 := (HB.out.cell (World.block_lt_of_cell? w _ hx212_3)).trans hx212_3
                                replace hx212_4 := (HB.out.cell (World.block_lt_of_cell? w _ hx212_4)).trans hx212_4
                                have HR212_1 := Aside0.mk hi212_1
                                have HC212_1 := Aside0.mk hl212_1
                                clear hi212_1 hl212_1
                                have HR212_2 := Aside0.mk hi212_2
                                have HC212_2 := Aside0.mk hl212_2
                                clear hi212_2 hl212_2
                                replace p212 := eq_true p212
                                replace q212 := eq_true q212
                                go_wp2
                                go_roundg k4
                                case measure => have := HK1.out; have := HJ2.out; have := HJ9.out; have := HK4.out; omega
                                case rel => exact ⟨(x3_4), (wrap64 (x4_1 + 1)), (by first | rfl | (simp; done) | (simp [*]; done)), (by first | rfl | (simp; done) | (simp [*]; done)), H', ⟨by have := HK1.out; have := HJ2.out; have := HJ9.out; have := HK4.out; omega⟩, ⟨by (with_reducible repeat (first | refine blk_drewN ?_ _ | refine blk_drew ?_ | refine blk_alloc ?_ _)); exact BK207.out⟩, ⟨by repeat (first | (with_reducible first | exact HB.out | apply below_alloc | apply pw_below_drewN | apply below_drew1 | refine below_set ?_ GE207.out) | exact HB.out)⟩⟩
                            · rw [if_neg c22] at H
                              have c22b0 : decide (x6_4 < (((rd_T50 l0_0 x4_1).f2).length : Int)) = false := decide_eq_false c22
                              clear c22
                              have H' := Aside0.mk H
                              clear H
                              have hcz27_0 : wr.cell? ⟨gb207, 0, none⟩ = some (.slice (some ad208) l0_0.length c0_0) := (blk_cell BK207.out 0).trans rfl
                              have hcz27_1 : wr.cell? ⟨gb207, 1, none⟩ = some (.slice A0_1 l0_1.length c0_1) := (blk_cell BK207.out 1).trans rfl
                              have hfz27_0 := blk_frozen BK207.out 0
                              have hfz27_1 := blk_frozen BK207.out 1
                              have p212 : 0 ≤ (x4_1 : Int) := of_decide_eq_true (by first | (with_reducible assumption) | assumption)
                              have q212 : x4_1 < (l0_0.length : Int) := of_decide_eq_true (by first | (with_reducible assumption) | assumption)
                              obtain ⟨ad212, A212_1, c212_1, A212_2, c212_2, e212, hx212_0, hx212_1, hx212_2, hx212_3, hx212_4, hl212_1, hi212_1, hl212_2, hi212_2⟩ := at_T50 HR0_0.out x4_1 p212 q212
                              obtain rfl : ad208 = ad212 := (by injection e212)
                              replace hx212_0 := (HB.out.cell (World.block_lt_of_cell? w _ hx212_0)).trans hx212_0
                              replace hx212_1 := (HB.out.cell (World.block_lt_of_cell? w _ hx212_1)).trans hx212_1
                              replace hx212_2 := (HB.out.cell (World.block_lt_of_cell? w _ hx212_2)).trans hx212_2
                              replace hx212_3 := (HB.out.cell (World.block_lt_of_cell? w _ hx212_3)).trans hx212_3
                              replace hx212_4 := (HB.out.cell (World.block_lt_of_cell? w _ hx212_4)).trans hx212_4
                              have HR212_1 := Aside0.mk hi212_1
                              have HC212_1 := Aside0.mk hl212_1
                              clear hi212_1 hl212_1
                              have HR212_2 := Aside0.mk hi212_2
                              have HC212_2 := Aside0.mk hl212_2
                              clear hi212_2 hl212_2
                              replace p212 := eq_true p212
                              replace q212 := eq_true q212
                              go_wp2
                              go_roundg k4
                              case measure => have := HK1.out; have := HJ2.out; have := HJ9.out; have := HK4.out; omega
                              case rel => exact ⟨(x3_4), (wrap64 (x4_1 + 1)), (by first | rfl | (simp; done) | (simp [*]; done)), (by first | rfl | (simp; done) | (simp [*]; done)), H', ⟨by have := HK1.out; have := HJ2.out; have := HJ9.out; have := HK4.out; omega⟩, ⟨by (with_reducible repeat (first | refine blk_drewN ?_ _ | refine blk_drew ?_ | refine blk_alloc ?_ _)); exact BK207.out⟩, ⟨by repeat (first | (with_reducible first | exact HB.out | apply below_alloc | apply pw_below_drewN | apply below_drew1 | refine below_set ?_ GE207.out) | exact HB.out)⟩⟩
                          · rw [if_neg c21] at H
                            exact absurd H (by simp)
                        · rw [if_neg c20] at H
                          exact absurd H (by simp)
              · rw [if_neg c9] at H
                exact absurd H (by simp)
            · rw [if_neg c8] at H
              exact absurd H (by simp)
          · replace c7 := Bool.eq_false_iff.mpr c7
            subst c7
            have H1 : (if x3_1 > 500 then (some true) else (some (decide ((l0_1.length : Int) > 100)))) = some r := by rw [if_neg (show ¬ (false = true) by decide)] at H; exact H
            clear H
            have H := H1
            clear H1
            by_cases c28 : x3_1 > 500
            · rw [if_pos c28] at H
              have c28b0 : decide (500 < x3_1) = true := decide_eq_true c28
              clear c28
              obtain rfl := Option.some.inj H
              go_wp2
              go_ret
              exact ⟨by first | rfl | (simp [errW_none, errW_some] <;> rfl) | (simp [*, errW_none, errW_some] <;> rfl), by repeat (first | (with_reducible first | exact HB.out | apply below_alloc | apply pw_below_drewN | apply below_drew1 | refine below_set ?_ GE207.out) | exact HB.out)⟩
            · rw [if_neg c28] at H
              have c28b0 : decide (500 < x3_1) = false := decide_eq_false c28
              clear c28
              obtain rfl := Option.some.inj H
              have hcz29_0 : wc.cell? ⟨gb207, 0, none⟩ = some (.slice A0_0 l0_0.length c0_0) := (blk_cell BK207.out 0).trans rfl
              have hcz29_1 : wc.cell? ⟨gb207, 1, none⟩ = some (.slice A0_1 l0_1.length c0_1) := (blk_cell BK207.out 1).trans rfl
              have hfz29_0 := blk_frozen BK207.out 0
              have hfz29_1 := blk_frozen BK207.out 1
              go_wp2
              go_ret
              exact ⟨by first | rfl | (simp [errW_none, errW_some] <;> rfl) | (simp [*, errW_none, errW_some] <;> rfl), by repeat (first | (with_reducible first | exact HB.out | apply below_alloc | apply pw_below_drewN | apply below_drew1 | refine below_set ?_ GE207.out) | exact HB.out)⟩

end Go.Proofs.YtdifaomkaekglabDoor.HS
