-- Written by a program of this session (wip/tools/hprint.py), which drives the kit's print; not print.sh's own output.
import Derived.Test.YtolfpgccebdlpaaGreatDoorHT0
import Derived.Test.YtolfpgccebdlpaaGreatDoorHT4
import Derived.Test.YtolfpgccebdlpaaGreatDoorHT6
namespace Go.Proofs.YtolfpgccebdlpaaGreatDoor.HT
open Go.RowKit Go.Proofs.YtolfpgccebdlpaaGreatDoorW.PrintWords Go.Proofs.YtolfpgccebdlpaaGreatDoorW.PrintLast Go.Proofs.YtolfpgccebdlpaaGreatDoorW.PrintMore
attribute [local go_sem] max2_int min2_int max_two min_two max_three min_three max_four min_four   -- for this text's walks alone
set_option linter.unusedVariables false
set_option linter.unusedSimpArgs false

/-! ### scrimlaw10_SheetDrops: function 6 -/
def scrimlaw10_SheetDrops.j0 : Nat → ByteArray → ByteArray → ByteArray → Bool → Option (Bool)
  | 0, _, _, _, _ => none
  | k + 1, x0, x1, x2, x24 => if x24 = true then (some true) else ((some (([] : List (S111)) : List (S111))).bind fun y236 => ((sheet_Decls.f k x0).bind fun t239 => (if y236.length + t239.length < 4398046511104 then ((some (y236 ++ t239 : List (S111))).bind fun y242 => ((sheet_Decls.f k x1).bind fun t245 => (if y242.length + t245.length < 4398046511104 then (if x0.size + 1 ≤ 9223372036854775807 then (if (x0 ++ (⟨#[59]⟩ : ByteArray)).size + x2.size ≤ 9223372036854775807 then (if ((x0 ++ (⟨#[59]⟩ : ByteArray)) ++ x2).size + 1 ≤ 9223372036854775807 then (if (((x0 ++ (⟨#[59]⟩ : ByteArray)) ++ x2) ++ (⟨#[59]⟩ : ByteArray)).size + x1.size ≤ 9223372036854775807 then ((sheet_Decls.f k ((((x0 ++ (⟨#[59]⟩ : ByteArray)) ++ x2) ++ (⟨#[59]⟩ : ByteArray)) ++ x1)).bind fun t251 => ((scrimlaw10_decls.f k t251).bind fun t254 => ((scrimlaw10_decls.f k (y242 ++ t245)).bind fun t257 => ((scrimref10_SameDecls.f k t254 t257).bind fun t260 => (some t260))))) else (none)) else (none)) else (none)) else (none)) else (none)))) else (none))))
def scrimlaw10_SheetDrops.f (k : Nat) (a0 : ByteArray) (a1 : ByteArray) (a2 : ByteArray) : Option (Bool) := (scrimlaw10_awake.f k).bind fun t232 => (if t232 = true then (if (wrap64 ((wrap64 ((a0.size : Int) + (a1.size : Int))) + (a2.size : Int))) > 1000 then (scrimlaw10_SheetDrops.j0 k a0 a1 a2 true) else ((sheet_Decls.f k a2).bind fun t233 => (scrimlaw10_SheetDrops.j0 k a0 a1 a2 (decide ((t233.length : Int) > 0))))) else (some false))
theorem scrimlaw10_SheetDrops.mono_l : ∀ k, (∀ y0 y1 y2 y3, LeO (scrimlaw10_SheetDrops.j0 k y0 y1 y2 y3) (scrimlaw10_SheetDrops.j0 (k + 1) y0 y1 y2 y3))
  | 0 => fun _ _ _ _ r h => by simp [scrimlaw10_SheetDrops.j0] at h
  | k + 1 => by
    have ih0 := scrimlaw10_SheetDrops.mono_l k
    · intro y0 y1 y2 y3
      unfold scrimlaw10_SheetDrops.j0
      repeat' first
      | (with_reducible exact ih0 _ _ _ _)
      | (with_reducible exact scrimlaw10_awake.mono _)
      | (with_reducible exact scrimlaw10_decls.mono _ _)
      | (with_reducible exact scrimref10_SameDecls.mono _ _ _)
      | (with_reducible exact sheet_Decls.mono _ _)
      | (with_reducible exact LeO.refl _)
      | (with_reducible exact LeO.none _)
      | (with_reducible refine LeO.ite ?_ ?_)
      | (with_reducible refine LeO.bind ?_ (fun _ => ?_))
      | exact ih0 _ _ _ _
      | exact scrimlaw10_awake.mono _
      | exact scrimlaw10_decls.mono _ _
      | exact scrimref10_SameDecls.mono _ _ _
      | exact sheet_Decls.mono _ _
      | exact LeO.none _
      | refine LeO.ite ?_ ?_
      | refine LeO.bind ?_ (fun _ => ?_)
theorem scrimlaw10_SheetDrops.mono : ∀ a0 a1 a2 k, LeO (scrimlaw10_SheetDrops.f k a0 a1 a2) (scrimlaw10_SheetDrops.f (k + 1) a0 a1 a2) := by
  intro a0 a1 a2 k
  have ih0 := scrimlaw10_SheetDrops.mono_l k
  unfold scrimlaw10_SheetDrops.f
  repeat' first
      | (with_reducible exact ih0 _ _ _ _)
      | (with_reducible exact scrimlaw10_awake.mono _)
      | (with_reducible exact scrimlaw10_decls.mono _ _)
      | (with_reducible exact scrimref10_SameDecls.mono _ _ _)
      | (with_reducible exact sheet_Decls.mono _ _)
      | (with_reducible exact LeO.refl _)
      | (with_reducible exact LeO.none _)
      | (with_reducible refine LeO.ite ?_ ?_)
      | (with_reducible refine LeO.bind ?_ (fun _ => ?_))
      | exact ih0 _ _ _ _
      | exact scrimlaw10_awake.mono _
      | exact scrimlaw10_decls.mono _ _
      | exact scrimref10_SameDecls.mono _ _ _
      | exact sheet_Decls.mono _ _
      | exact LeO.none _
      | refine LeO.ite ?_ ?_
      | refine LeO.bind ?_ (fun _ => ?_)
set_option maxHeartbeats 8000000 in
set_option maxRecDepth 100000 in
theorem scrimlaw10_SheetDrops.calls (k : Nat) (a0 : ByteArray) (a1 : ByteArray) (a2 : ByteArray) (r : Bool) (hrt : r = true) (w : World) (h : scrimlaw10_SheetDrops.f k a0 a1 a2 = some r) (hmx : Go.Proofs.Sht.Env w) :
    Calls Tryz.prog 6 #[.string a0, .string a1, .string a2] w fun e w' => e = .returned (.bool r) ∧ Below w.heap.size w w' := by
  have HMX := Aside0.mk hmx
  clear hmx
  have HB := Aside0.mk (Below.refl w.heap.size w)
  have H : ((scrimlaw10_awake.f k).bind fun t232 => (if t232 = true then (if (wrap64 ((wrap64 ((a0.size : Int) + (a1.size : Int))) + (a2.size : Int))) > 1000 then (scrimlaw10_SheetDrops.j0 k a0 a1 a2 true) else ((sheet_Decls.f k a2).bind fun t233 => (scrimlaw10_SheetDrops.j0 k a0 a1 a2 (decide ((t233.length : Int) > 0))))) else (some false))) = some r := h
  clear h
  replace H := Option.bind_eq_some_iff.mp H
  obtain ⟨t232, A40, H⟩ := H
  replace H : (if t232 = true then (if (wrap64 ((wrap64 ((a0.size : Int) + (a1.size : Int))) + (a2.size : Int))) > 1000 then (scrimlaw10_SheetDrops.j0 k a0 a1 a2 true) else ((sheet_Decls.f k a2).bind fun t233 => (scrimlaw10_SheetDrops.j0 k a0 a1 a2 (decide ((t233.length : Int) > 0))))) else (some false)) = some r := H
  have A4 := Aside0.mk A40
  clear A40
  by_cases c5 : t232 = true
  · subst c5
    have H1 : (if (wrap64 ((wrap64 ((a0.size : Int) + (a1.size : Int))) + (a2.size : Int))) > 1000 then (scrimlaw10_SheetDrops.j0 k a0 a1 a2 true) else ((sheet_Decls.f k a2).bind fun t233 => (scrimlaw10_SheetDrops.j0 k a0 a1 a2 (decide ((t233.length : Int) > 0))))) = some r := by rw [if_pos rfl] at H; exact H
    clear H
    have H := H1
    clear H1
    have HC6 := Aside0.mk H
    clear H
    go_enter Tryz.func6, Tryz.ntmps6
    go_upto_region 3 with (first | ((with_reducible refine gate_callee (f := 24) rfl ?_); refine goesL_ (some 8) rfl rfl Tryz.func24 (by kernel_rfl) rfl #[] rfl (by (try simp only [List.map_toArray, List.map_cons, List.map_nil]); first | done | rfl | (simp only [List.length_drop, List.length_take]; rfl)) ?_; (with_reducible refine (scrimlaw10_awake.calls k  true rfl _ A4.out (HMX.out.below (by repeat (first | (with_reducible first | exact HB.out | apply below_alloc | apply pw_below_drewN | apply below_drew1) | exact HB.out)))).mono ?_); rintro e w7 ⟨rfl, hb⟩; refine ⟨_, rfl, ?_⟩; have n0_ := Aside0.mk (below_step (by repeat (first | (with_reducible first | exact HB.out | apply below_alloc | apply pw_below_drewN | apply below_drew1) | exact HB.out)) hb); clear HB; have HB := n0_; clear n0_; (try clear hb); (try clear hb2); (try clear hk); (try clear hi)))
    (try simp only [Act.put, List.setIfInBounds_toArray, List.set_cons_zero, List.set_cons_succ])
    go_cut [24] (fun v24 wc => ∃ (kq : Nat) (x24_5 : Bool), v24 = .bool x24_5 ∧ Aside0 (scrimlaw10_SheetDrops.j0 kq a0 a1 a2 x24_5 = some r) ∧ Aside0 (kq ≤ k) ∧ Aside0 (Below w.heap.size w wc))
    case first =>
      have H := HC6.out
      clear HC6
      by_cases c8 : (wrap64 ((wrap64 ((a0.size : Int) + (a1.size : Int))) + (a2.size : Int))) > 1000
      · rw [if_pos c8] at H
        have c8b0 : decide (1000 < (wrap64 ((wrap64 ((a0.size : Int) + (a1.size : Int))) + (a2.size : Int)))) = true := decide_eq_true c8
        clear c8
        (first | rw [c8b0] | (simp only [i64_w, i32_w]; rw [c8b0]) | skip)
        have H' := Aside0.mk H
        clear H
        go_wp2
        go_meet
        case rel => exact ⟨_, (true), (by first | rfl | (simp; done) | (simp [*]; done)), H', ⟨by first | omega | exact Nat.le_refl _⟩, ⟨by repeat (first | (with_reducible first | exact HB.out | apply below_alloc | apply pw_below_drewN | apply below_drew1) | exact HB.out)⟩⟩
      · rw [if_neg c8] at H
        have c8b0 : decide (1000 < (wrap64 ((wrap64 ((a0.size : Int) + (a1.size : Int))) + (a2.size : Int)))) = false := decide_eq_false c8
        clear c8
        (first | rw [c8b0] | (simp only [i64_w, i32_w]; rw [c8b0]) | skip)
        replace H := Option.bind_eq_some_iff.mp H
        obtain ⟨t233, A90, H⟩ := H
        replace H : (scrimlaw10_SheetDrops.j0 k a0 a1 a2 (decide ((t233.length : Int) > 0))) = some r := H
        have A9 := Aside0.mk A90
        clear A90
        have H' := Aside0.mk H
        clear H
        go_wp2_with (first | (go_at_call 32; (with_reducible refine (sheet_Decls.calls k a2 t233 _ A9.out).mono ?_); rintro e w10 ⟨v234, rfl, ho0, hb⟩; have n0_ := Aside0.mk (Kd.R_lower ho0 (below_size (by repeat (first | (with_reducible first | exact HB.out | apply below_alloc | apply pw_below_drewN | apply below_drew1) | exact HB.out)))); have n1_ := Aside0.mk (below_step (by repeat (first | (with_reducible first | exact HB.out | apply below_alloc | apply pw_below_drewN | apply below_drew1) | exact HB.out)) hb); clear HB; have HO235 := n0_; have HB := n1_; clear n0_ n1_; (try clear hb); (try clear hb2); (try clear hk); (try clear hi); (try clear ho0); obtain ⟨Ao11, co11, eo11⟩ := Kd.R_slice HO235.out; subst eo11))
        go_meet
        case rel => exact ⟨_, (decide ((t233.length : Int) > 0)), (by first | rfl | (simp; done) | (simp [*]; done)), H', ⟨by first | omega | exact Nat.le_refl _⟩, ⟨by repeat (first | (with_reducible first | exact HB.out | apply below_alloc | apply pw_below_drewN | apply below_drew1) | exact HB.out)⟩⟩
    case rest =>
      clear HC6
      try clear c2
      try clear p2
      try clear c5
      try clear c6
      try clear p6
      try clear c8
      try clear c8b0
      obtain ⟨kq, x24_5, rfl, HA, HJ5, HB⟩ := hcut
      cases kq with
      | zero => exact absurd HA.out (by simp [scrimlaw10_SheetDrops.j0])
      | succ kj5 =>
        have H := HA.out
        clear HA
        simp only [scrimlaw10_SheetDrops.j0] at H
        by_cases c12 : x24_5 = true
        · subst c12
          have H1 : (some true) = some r := by rw [if_pos rfl] at H; exact H
          clear H
          have H := H1
          clear H1
          obtain rfl := Option.some.inj H; clear hrt; try clear H
          go_wp2
          go_ret
          exact ⟨by first | rfl | (simp [errW_none, errW_some] <;> rfl) | (simp [*, errW_none, errW_some] <;> rfl), by repeat (first | (with_reducible first | exact HB.out | apply below_alloc | apply pw_below_drewN | apply below_drew1) | exact HB.out)⟩
        · replace c12 := Bool.eq_false_iff.mpr c12
          subst c12
          have H1 : ((some (([] : List (S111)) : List (S111))).bind fun y236 => ((sheet_Decls.f kj5 a0).bind fun t239 => (if y236.length + t239.length < 4398046511104 then ((some (y236 ++ t239 : List (S111))).bind fun y242 => ((sheet_Decls.f kj5 a1).bind fun t245 => (if y242.length + t245.length < 4398046511104 then (if a0.size + 1 ≤ 9223372036854775807 then (if (a0 ++ (⟨#[59]⟩ : ByteArray)).size + a2.size ≤ 9223372036854775807 then (if ((a0 ++ (⟨#[59]⟩ : ByteArray)) ++ a2).size + 1 ≤ 9223372036854775807 then (if (((a0 ++ (⟨#[59]⟩ : ByteArray)) ++ a2) ++ (⟨#[59]⟩ : ByteArray)).size + a1.size ≤ 9223372036854775807 then ((sheet_Decls.f kj5 ((((a0 ++ (⟨#[59]⟩ : ByteArray)) ++ a2) ++ (⟨#[59]⟩ : ByteArray)) ++ a1)).bind fun t251 => ((scrimlaw10_decls.f kj5 t251).bind fun t254 => ((scrimlaw10_decls.f kj5 (y242 ++ t245)).bind fun t257 => ((scrimref10_SameDecls.f kj5 t254 t257).bind fun t260 => (some t260))))) else (none)) else (none)) else (none)) else (none)) else (none)))) else (none)))) = some r := by rw [if_neg (show ¬ (false = true) by decide)] at H; exact H
          clear H
          have H := H1
          clear H1
          obtain ⟨y236, hy236⟩ : ∃ y_ : List (S111), y_ = (([] : List (S111))) := ⟨_, rfl⟩
          replace H : ((sheet_Decls.f kj5 a0).bind fun t239 => (if y236.length + t239.length < 4398046511104 then ((some (y236 ++ t239 : List (S111))).bind fun y242 => ((sheet_Decls.f kj5 a1).bind fun t245 => (if y242.length + t245.length < 4398046511104 then (if a0.size + 1 ≤ 9223372036854775807 then (if (a0 ++ (⟨#[59]⟩ : ByteArray)).size + a2.size ≤ 9223372036854775807 then (if ((a0 ++ (⟨#[59]⟩ : ByteArray)) ++ a2).size + 1 ≤ 9223372036854775807 then (if (((a0 ++ (⟨#[59]⟩ : ByteArray)) ++ a2) ++ (⟨#[59]⟩ : ByteArray)).size + a1.size ≤ 9223372036854775807 then ((sheet_Decls.f kj5 ((((a0 ++ (⟨#[59]⟩ : ByteArray)) ++ a2) ++ (⟨#[59]⟩ : ByteArray)) ++ a1)).bind fun t251 => ((scrimlaw10_decls.f kj5 t251).bind fun t254 => ((scrimlaw10_decls.f kj5 (y242 ++ t245)).bind fun t257 => ((scrimref10_SameDecls.f kj5 t254 t257).bind fun t260 => (some t260))))) else (none)) else (none)) else (none)) else (none)) else (none)))) else (none))) = some r := by first | (rw [hy236]; with_reducible exact H) | (have H2_ := (Option.bind_some _ _).symm.trans H; rw [hy236]; with_reducible exact H2_) | (have H2_ := (Option.bind_some _ _).symm.trans H; with_reducible exact H2_) | with_reducible exact H | (rw [hy236]; exact H) | exact H
          have Ny236 := Aside0.mk hy236
          clear hy236
          replace H := Option.bind_eq_some_iff.mp H
          obtain ⟨t239, A130, H⟩ := H
          replace H : (if y236.length + t239.length < 4398046511104 then ((some (y236 ++ t239 : List (S111))).bind fun y242 => ((sheet_Decls.f kj5 a1).bind fun t245 => (if y242.length + t245.length < 4398046511104 then (if a0.size + 1 ≤ 9223372036854775807 then (if (a0 ++ (⟨#[59]⟩ : ByteArray)).size + a2.size ≤ 9223372036854775807 then (if ((a0 ++ (⟨#[59]⟩ : ByteArray)) ++ a2).size + 1 ≤ 9223372036854775807 then (if (((a0 ++ (⟨#[59]⟩ : ByteArray)) ++ a2) ++ (⟨#[59]⟩ : ByteArray)).size + a1.size ≤ 9223372036854775807 then ((sheet_Decls.f kj5 ((((a0 ++ (⟨#[59]⟩ : ByteArray)) ++ a2) ++ (⟨#[59]⟩ : ByteArray)) ++ a1)).bind fun t251 => ((scrimlaw10_decls.f kj5 t251).bind fun t254 => ((scrimlaw10_decls.f kj5 (y242 ++ t245)).bind fun t257 => ((scrimref10_SameDecls.f kj5 t254 t257).bind fun t260 => (some t260))))) else (none)) else (none)) else (none)) else (none)) else (none)))) else (none)) = some r := H
          have A13 := Aside0.mk A130
          clear A130
          by_cases c14 : y236.length + t239.length < 4398046511104
          · rw [if_pos c14] at H
            have LMc14 := Aside0.mk c14
            clear c14
            obtain ⟨y242, hy242⟩ : ∃ y_ : List (S111), y_ = (y236 ++ t239) := ⟨_, rfl⟩
            replace H : ((sheet_Decls.f kj5 a1).bind fun t245 => (if y242.length + t245.length < 4398046511104 then (if a0.size + 1 ≤ 9223372036854775807 then (if (a0 ++ (⟨#[59]⟩ : ByteArray)).size + a2.size ≤ 9223372036854775807 then (if ((a0 ++ (⟨#[59]⟩ : ByteArray)) ++ a2).size + 1 ≤ 9223372036854775807 then (if (((a0 ++ (⟨#[59]⟩ : ByteArray)) ++ a2) ++ (⟨#[59]⟩ : ByteArray)).size + a1.size ≤ 9223372036854775807 then ((sheet_Decls.f kj5 ((((a0 ++ (⟨#[59]⟩ : ByteArray)) ++ a2) ++ (⟨#[59]⟩ : ByteArray)) ++ a1)).bind fun t251 => ((scrimlaw10_decls.f kj5 t251).bind fun t254 => ((scrimlaw10_decls.f kj5 (y242 ++ t245)).bind fun t257 => ((scrimref10_SameDecls.f kj5 t254 t257).bind fun t260 => (some t260))))) else (none)) else (none)) else (none)) else (none)) else (none))) = some r := by first | (rw [hy242]; with_reducible exact H) | (have H2_ := (Option.bind_some _ _).symm.trans H; rw [hy242]; with_reducible exact H2_) | (have H2_ := (Option.bind_some _ _).symm.trans H; with_reducible exact H2_) | with_reducible exact H | (rw [hy242]; exact H) | exact H
            have Ny242 := Aside0.mk hy242
            clear hy242
            replace H := Option.bind_eq_some_iff.mp H
            obtain ⟨t245, A150, H⟩ := H
            replace H : (if y242.length + t245.length < 4398046511104 then (if a0.size + 1 ≤ 9223372036854775807 then (if (a0 ++ (⟨#[59]⟩ : ByteArray)).size + a2.size ≤ 9223372036854775807 then (if ((a0 ++ (⟨#[59]⟩ : ByteArray)) ++ a2).size + 1 ≤ 9223372036854775807 then (if (((a0 ++ (⟨#[59]⟩ : ByteArray)) ++ a2) ++ (⟨#[59]⟩ : ByteArray)).size + a1.size ≤ 9223372036854775807 then ((sheet_Decls.f kj5 ((((a0 ++ (⟨#[59]⟩ : ByteArray)) ++ a2) ++ (⟨#[59]⟩ : ByteArray)) ++ a1)).bind fun t251 => ((scrimlaw10_decls.f kj5 t251).bind fun t254 => ((scrimlaw10_decls.f kj5 (y242 ++ t245)).bind fun t257 => ((scrimref10_SameDecls.f kj5 t254 t257).bind fun t260 => (some t260))))) else (none)) else (none)) else (none)) else (none)) else (none)) = some r := H
            have A15 := Aside0.mk A150
            clear A150
            by_cases c16 : y242.length + t245.length < 4398046511104
            · rw [if_pos c16] at H
              have LMc16 := Aside0.mk c16
              clear c16
              obtain ⟨y248, hy248⟩ : ∃ y_ : List (S111), y_ = (y242 ++ t245) := ⟨_, rfl⟩
              replace H : (if a0.size + 1 ≤ 9223372036854775807 then (if (a0 ++ (⟨#[59]⟩ : ByteArray)).size + a2.size ≤ 9223372036854775807 then (if ((a0 ++ (⟨#[59]⟩ : ByteArray)) ++ a2).size + 1 ≤ 9223372036854775807 then (if (((a0 ++ (⟨#[59]⟩ : ByteArray)) ++ a2) ++ (⟨#[59]⟩ : ByteArray)).size + a1.size ≤ 9223372036854775807 then ((sheet_Decls.f kj5 ((((a0 ++ (⟨#[59]⟩ : ByteArray)) ++ a2) ++ (⟨#[59]⟩ : ByteArray)) ++ a1)).bind fun t251 => ((scrimlaw10_decls.f kj5 t251).bind fun t254 => ((scrimlaw10_decls.f kj5 y248).bind fun t257 => ((scrimref10_SameDecls.f kj5 t254 t257).bind fun t260 => (some t260))))) else (none)) else (none)) else (none)) else (none)) = some r := by first | (rw [hy248]; with_reducible exact H) | (have H2_ := (Option.bind_some _ _).symm.trans H; rw [hy248]; with_reducible exact H2_) | (have H2_ := (Option.bind_some _ _).symm.trans H; with_reducible exact H2_) | with_reducible exact H | (rw [hy248]; exact H) | exact H
              have Ny248 := Aside0.mk hy248
              clear hy248
              by_cases c17 : a0.size + 1 ≤ 9223372036854775807
              · rw [if_pos c17] at H
                have c17b0 := eq_true c17
                have c17b1 : decide (a0.size + 1 ≤ 9223372036854775807) = true := decide_eq_true c17
                try have c17b2 : (9223372036854775807 < a0.size + 1) = False := eq_false (Nat.not_lt.2 c17)
                by_cases c18 : (a0 ++ (⟨#[59]⟩ : ByteArray)).size + a2.size ≤ 9223372036854775807
                · rw [if_pos c18] at H
                  have c18b0 := eq_true c18
                  have c18b1 : decide ((a0 ++ (⟨#[59]⟩ : ByteArray)).size + a2.size ≤ 9223372036854775807) = true := decide_eq_true c18
                  try have c18b2 : (9223372036854775807 < (a0 ++ (⟨#[59]⟩ : ByteArray)).size + a2.size) = False := eq_false (Nat.not_lt.2 c18)
                  by_cases c19 : ((a0 ++ (⟨#[59]⟩ : ByteArray)) ++ a2).size + 1 ≤ 9223372036854775807
                  · rw [if_pos c19] at H
                    have c19b0 := eq_true c19
                    have c19b1 : decide (((a0 ++ (⟨#[59]⟩ : ByteArray)) ++ a2).size + 1 ≤ 9223372036854775807) = true := decide_eq_true c19
                    try have c19b2 : (9223372036854775807 < ((a0 ++ (⟨#[59]⟩ : ByteArray)) ++ a2).size + 1) = False := eq_false (Nat.not_lt.2 c19)
                    by_cases c20 : (((a0 ++ (⟨#[59]⟩ : ByteArray)) ++ a2) ++ (⟨#[59]⟩ : ByteArray)).size + a1.size ≤ 9223372036854775807
                    · rw [if_pos c20] at H
                      have c20b0 := eq_true c20
                      have c20b1 : decide ((((a0 ++ (⟨#[59]⟩ : ByteArray)) ++ a2) ++ (⟨#[59]⟩ : ByteArray)).size + a1.size ≤ 9223372036854775807) = true := decide_eq_true c20
                      try have c20b2 : (9223372036854775807 < (((a0 ++ (⟨#[59]⟩ : ByteArray)) ++ a2) ++ (⟨#[59]⟩ : ByteArray)).size + a1.size) = False := eq_false (Nat.not_lt.2 c20)
                      replace H := Option.bind_eq_some_iff.mp H
                      obtain ⟨t251, A210, H⟩ := H
                      replace H : ((scrimlaw10_decls.f kj5 t251).bind fun t254 => ((scrimlaw10_decls.f kj5 y248).bind fun t257 => ((scrimref10_SameDecls.f kj5 t254 t257).bind fun t260 => (some t260)))) = some r := H
                      have A21 := Aside0.mk A210
                      clear A210
                      replace H := Option.bind_eq_some_iff.mp H
                      obtain ⟨t254, A220, H⟩ := H
                      replace H : ((scrimlaw10_decls.f kj5 y248).bind fun t257 => ((scrimref10_SameDecls.f kj5 t254 t257).bind fun t260 => (some t260))) = some r := H
                      have A22 := Aside0.mk A220
                      clear A220
                      replace H := Option.bind_eq_some_iff.mp H
                      obtain ⟨t257, A230, H⟩ := H
                      replace H : ((scrimref10_SameDecls.f kj5 t254 t257).bind fun t260 => (some t260)) = some r := H
                      have A23 := Aside0.mk A230
                      clear A230
                      replace H := Option.bind_eq_some_iff.mp H
                      obtain ⟨t260, A240, H⟩ := H
                      replace H : (some t260) = some r := H
                      have A24 := Aside0.mk A240
                      clear A240
                      obtain rfl := Option.some.inj H; clear hrt; try clear H
                      go_wp2_with (first | ((with_reducible refine gate_dst (N := 25) rfl ?_); (try (refine gate_guard (by rfl) ?_; dsimp only)); refine Kd.R_lit k111 _ 111 ?hg (N := 25) ?hd (xs := ([] : List (S111))) (inner := []) (ok := fun _ => True) (okp := fun _ => True) ?hr ?hp (fun _ hk => hk) trivial (Below.refl _ _) (Nat.le_refl _) (by simp) ?_; (case hd => rfl); (case hg => rfl); (case hr => first | (go_simp; done) | (go_simp; rfl)); (case hp => exact (Reps.none _ _)); intro v237 w25 ho26 hb hg_ hnew_; clear hg_ hnew_; (first | rw [← Ny236.out] at ho26 | (simp only [Int.reduceToNat] at ho26; rw [← Ny236.out] at ho26)); have n0_ := Aside0.mk (Kd.R_lower ho26 (below_size (by repeat (first | (with_reducible first | exact HB.out | apply below_alloc | apply pw_below_drewN | apply below_drew1) | exact HB.out)))); have n1_ := Aside0.mk (below_step (by repeat (first | (with_reducible first | exact HB.out | apply below_alloc | apply pw_below_drewN | apply below_drew1) | exact HB.out)) hb); clear HB; have HO238 := n0_; have HB := n1_; clear n0_ n1_; clear hb ho26) | ((with_reducible refine gate_callee (f := 32) rfl ?_); refine goesL_ (some 27) rfl rfl Tryz.func32 (by kernel_rfl) rfl #[.string a0] rfl (by (try simp only [List.map_toArray, List.map_cons, List.map_nil]); first | done | rfl | (simp only [List.length_drop, List.length_take]; rfl)) ?_; (with_reducible refine (sheet_Decls.calls kj5 a0 t239 _ A13.out).mono ?_); rintro e w27 ⟨v240, rfl, ho0, hb⟩; refine ⟨_, rfl, ?_⟩; have n0_ := Aside0.mk (Kd.R_elder' (by (with_reducible repeat (first | apply Kd.R_alloc | apply Kd.R_drewN | apply Kd.R_drew)); exact HO238.out) (Kd.R_base ho0) hb); have n1_ := Aside0.mk (Kd.R_lower (Kd.R_new' ho0 (Kd.R_lt (by (with_reducible repeat (first | apply Kd.R_alloc | apply Kd.R_drewN | apply Kd.R_drew)); exact HO238.out))) (below_size (by repeat (first | (with_reducible first | exact HB.out | apply below_alloc | apply pw_below_drewN | apply below_drew1) | exact HB.out)))); have n2_ := Aside0.mk (below_step (by repeat (first | (with_reducible first | exact HB.out | apply below_alloc | apply pw_below_drewN | apply below_drew1) | exact HB.out)) hb); clear HO238; clear HB; have HO238 := n0_; have HO241 := n1_; have HB := n2_; clear n0_ n1_ n2_; (try clear hb); (try clear hb2); (try clear hk); (try clear hi); (try clear ho0); obtain ⟨Ao29, co29, eo29⟩ := Kd.R_slice HO241.out; subst eo29) | ((with_reducible refine gate_builtin (b := .append) (xs := #[.tmp 25, .tmp 27]) rfl ?_); (try (refine gate_guard (by rfl) ?_; dsimp only)); at_builtin; refine Kd.R_append_rows k111 (w0 := w) w.heap.size rfl (.tmp 25) (.tmp 27) 63 111 (.agg #[(.int .i64 0), (.int .i64 0), (.int .i64 0), (.bool false)]) 32 rfl Tryz.underlying63 info111 rfl (by decide) (by omega) v237 y236 t239 _ _ _ (fun k_ => some k_ ≠ (.slice Ao29 t239.length co29 : Value).ownBlock) (fun _ => False) rfl rfl ?aO ?aR (fun _ _ h => h) (fun _ h => h.elim) ?aF ?aB ?aS ?aL ?_; (case aR => repeat (first | exact (Kd.R_reads' HO241.out).2.2 | (with_reducible refine Kd.C_alloc ?_ _) | (with_reducible refine Kd.C_drewN ?_ _) | (with_reducible refine Kd.C_drew ?_))); (case aB => exact (by repeat (first | (with_reducible first | exact HB.out | apply below_alloc | apply pw_below_drewN | apply below_drew1) | exact HB.out))); (case aF => exact (fun k_ hk => Kd.fresh' (Kd.R_lt (by (with_reducible repeat (first | apply Kd.R_alloc | apply Kd.R_drewN | apply Kd.R_drew)); exact HO241.out)) k_ hk)); (case aO => exact (by (with_reducible repeat (first | apply Kd.R_alloc | apply Kd.R_drewN | apply Kd.R_drew)); exact Kd.R_mono HO238.out (fun _ hk => hk.2))); (case aS => exact (below_size (by repeat (first | (with_reducible first | exact HB.out | apply below_alloc | apply pw_below_drewN | apply below_drew1) | exact HB.out)))); (case aL => have := LMc14.out; omega); intro v243 w28 ho hb hg hat; rw [← Ny242.out] at ho; have n0_ := Aside0.mk (Kd.R_after (ok := (fun _ => True)) (by (with_reducible repeat (first | apply Kd.R_alloc | apply Kd.R_drewN | apply Kd.R_drew)); exact HO241.out) hg hat); have n1_ := Aside0.mk (hb); have n2_ := Aside0.mk (ho); clear HO241; clear HB; clear HO238; have HO241 := n0_; have HB := n1_; have HO244 := n2_; clear n0_ n1_ n2_; clear ho hb hg hat) | ((with_reducible refine gate_callee (f := 32) rfl ?_); refine goesL_ (some 30) rfl rfl Tryz.func32 (by kernel_rfl) rfl #[.string a1] rfl (by (try simp only [List.map_toArray, List.map_cons, List.map_nil]); first | done | rfl | (simp only [List.length_drop, List.length_take]; rfl)) ?_; (with_reducible refine (sheet_Decls.calls kj5 a1 t245 _ A15.out).mono ?_); rintro e w30 ⟨v246, rfl, ho0, hb⟩; refine ⟨_, rfl, ?_⟩; have n0_ := Aside0.mk (Kd.R_elder' (by (with_reducible repeat (first | apply Kd.R_alloc | apply Kd.R_drewN | apply Kd.R_drew)); exact HO241.out) (Kd.R_base ho0) hb); have n1_ := Aside0.mk (Kd.R_elder' (by (with_reducible repeat (first | apply Kd.R_alloc | apply Kd.R_drewN | apply Kd.R_drew)); exact HO244.out) (Kd.R_base ho0) hb); have n2_ := Aside0.mk (Kd.R_lower (Kd.R_new' (Kd.R_new' ho0 (Kd.R_lt (by (with_reducible repeat (first | apply Kd.R_alloc | apply Kd.R_drewN | apply Kd.R_drew)); exact HO241.out))) (Kd.R_lt (by (with_reducible repeat (first | apply Kd.R_alloc | apply Kd.R_drewN | apply Kd.R_drew)); exact HO244.out))) (below_size (by repeat (first | (with_reducible first | exact HB.out | apply below_alloc | apply pw_below_drewN | apply below_drew1) | exact HB.out)))); have n3_ := Aside0.mk (below_step (by repeat (first | (with_reducible first | exact HB.out | apply below_alloc | apply pw_below_drewN | apply below_drew1) | exact HB.out)) hb); clear HO241; clear HO244; clear HB; have HO241 := n0_; have HO244 := n1_; have HO247 := n2_; have HB := n3_; clear n0_ n1_ n2_ n3_; (try clear hb); (try clear hb2); (try clear hk); (try clear hi); (try clear ho0); obtain ⟨Ao32, co32, eo32⟩ := Kd.R_slice HO247.out; subst eo32) | ((with_reducible refine gate_builtin (b := .append) (xs := #[.tmp 28, .tmp 30]) rfl ?_); (try (refine gate_guard (by rfl) ?_; dsimp only)); at_builtin; refine Kd.R_append_rows k111 (w0 := w) w.heap.size rfl (.tmp 28) (.tmp 30) 63 111 (.agg #[(.int .i64 0), (.int .i64 0), (.int .i64 0), (.bool false)]) 32 rfl Tryz.underlying63 info111 rfl (by decide) (by omega) v243 y242 t245 _ _ _ (fun k_ => some k_ ≠ (.slice Ao29 t239.length co29 : Value).ownBlock ∧ some k_ ≠ (.slice Ao32 t245.length co32 : Value).ownBlock) (fun _ => False) rfl rfl ?aO ?aR (fun _ _ h => h) (fun _ h => h.elim) ?aF ?aB ?aS ?aL ?_; (case aR => repeat (first | exact (Kd.R_reads' HO247.out).2.2 | (with_reducible refine Kd.C_alloc ?_ _) | (with_reducible refine Kd.C_drewN ?_ _) | (with_reducible refine Kd.C_drew ?_))); (case aB => exact (by repeat (first | (with_reducible first | exact HB.out | apply below_alloc | apply pw_below_drewN | apply below_drew1) | exact HB.out))); (case aF => exact (fun k_ hk => ⟨Kd.fresh' (Kd.R_lt (by (with_reducible repeat (first | apply Kd.R_alloc | apply Kd.R_drewN | apply Kd.R_drew)); exact HO241.out)) k_ hk, Kd.fresh' (Kd.R_lt (by (with_reducible repeat (first | apply Kd.R_alloc | apply Kd.R_drewN | apply Kd.R_drew)); exact HO247.out)) k_ hk⟩)); (case aO => exact (by (with_reducible repeat (first | apply Kd.R_alloc | apply Kd.R_drewN | apply Kd.R_drew)); exact HO244.out)); (case aS => exact (below_size (by repeat (first | (with_reducible first | exact HB.out | apply below_alloc | apply pw_below_drewN | apply below_drew1) | exact HB.out)))); (case aL => have := LMc16.out; omega); intro v249 w31 ho hb hg hat; rw [← Ny248.out] at ho; have n0_ := Aside0.mk (Kd.R_after (ok := (fun k_ => some k_ ≠ (.slice Ao32 t245.length co32 : Value).ownBlock)) (by (with_reducible repeat (first | apply Kd.R_alloc | apply Kd.R_drewN | apply Kd.R_drew)); exact Kd.R_mono HO241.out (fun _ hk => ⟨hk.2, hk.1.2⟩)) hg hat); have n1_ := Aside0.mk (Kd.R_after (ok := (fun k_ => some k_ ≠ (.slice Ao29 t239.length co29 : Value).ownBlock)) (by (with_reducible repeat (first | apply Kd.R_alloc | apply Kd.R_drewN | apply Kd.R_drew)); exact Kd.R_mono HO247.out (fun _ hk => ⟨hk.1.2, hk.2⟩)) hg hat); have n2_ := Aside0.mk (hb); have n3_ := Aside0.mk (ho); clear HO241; clear HO247; clear HB; clear HO244; have HO241 := n0_; have HO247 := n1_; have HB := n2_; have HO250 := n3_; clear n0_ n1_ n2_ n3_; clear ho hb hg hat) | ((with_reducible refine gate_callee (f := 32) rfl ?_); refine goesL_ (some 39) rfl rfl Tryz.func32 (by kernel_rfl) rfl #[.string ((((a0 ++ (⟨#[59]⟩ : ByteArray)) ++ a2) ++ (⟨#[59]⟩ : ByteArray)) ++ a1)] rfl (by (try simp only [List.map_toArray, List.map_cons, List.map_nil]); first | done | rfl | (simp only [List.length_drop, List.length_take]; rfl)) ?_; (with_reducible refine (sheet_Decls.calls kj5 ((((a0 ++ (⟨#[59]⟩ : ByteArray)) ++ a2) ++ (⟨#[59]⟩ : ByteArray)) ++ a1) t251 _ A21.out).mono ?_); rintro e w33 ⟨v252, rfl, ho0, hb⟩; refine ⟨_, rfl, ?_⟩; have n0_ := Aside0.mk (Kd.R_elder' (by (with_reducible repeat (first | apply Kd.R_alloc | apply Kd.R_drewN | apply Kd.R_drew)); exact HO241.out) (Kd.R_base ho0) hb); have n1_ := Aside0.mk (Kd.R_elder' (by (with_reducible repeat (first | apply Kd.R_alloc | apply Kd.R_drewN | apply Kd.R_drew)); exact HO247.out) (Kd.R_base ho0) hb); have n2_ := Aside0.mk (Kd.R_elder' (by (with_reducible repeat (first | apply Kd.R_alloc | apply Kd.R_drewN | apply Kd.R_drew)); exact HO250.out) (Kd.R_base ho0) hb); have n3_ := Aside0.mk (Kd.R_lower (Kd.R_new' (Kd.R_new' (Kd.R_new' ho0 (Kd.R_lt (by (with_reducible repeat (first | apply Kd.R_alloc | apply Kd.R_drewN | apply Kd.R_drew)); exact HO241.out))) (Kd.R_lt (by (with_reducible repeat (first | apply Kd.R_alloc | apply Kd.R_drewN | apply Kd.R_drew)); exact HO247.out))) (Kd.R_lt (by (with_reducible repeat (first | apply Kd.R_alloc | apply Kd.R_drewN | apply Kd.R_drew)); exact HO250.out))) (below_size (by repeat (first | (with_reducible first | exact HB.out | apply below_alloc | apply pw_below_drewN | apply below_drew1) | exact HB.out)))); have n4_ := Aside0.mk (below_step (by repeat (first | (with_reducible first | exact HB.out | apply below_alloc | apply pw_below_drewN | apply below_drew1) | exact HB.out)) hb); clear HO241; clear HO247; clear HO250; clear HB; have HO241 := n0_; have HO247 := n1_; have HO250 := n2_; have HO253 := n3_; have HB := n4_; clear n0_ n1_ n2_ n3_ n4_; (try clear hb); (try clear hb2); (try clear hk); (try clear hi); (try clear ho0); obtain ⟨Ao34, co34, eo34⟩ := Kd.R_slice HO253.out; subst eo34) | ((with_reducible refine gate_callee (f := 31) rfl ?_); refine goesL_ (some 40) rfl rfl Tryz.func31 (by kernel_rfl) rfl #[.slice Ao34 t251.length co34] rfl (by (try simp only [List.map_toArray, List.map_cons, List.map_nil]); first | done | rfl | (simp only [List.length_drop, List.length_take]; rfl)) ?_; (with_reducible refine (scrimlaw10_decls.calls kj5 _ _ t251 t254 _ ?side1 ?side2 A22.out).mono ?_); (case side1 => repeat (first | exact (Kd.R_reads' HO253.out).2.2 | (with_reducible refine Kd.C_alloc ?_ _) | (with_reducible refine Kd.C_drewN ?_ _) | (with_reducible refine Kd.C_drew ?_))); (case side2 => exact (Kd.R_reads' HO253.out).2.1); rintro e w35 ⟨v255, rfl, ho0, hb⟩; refine ⟨_, rfl, ?_⟩; have n0_ := Aside0.mk (Kd.R_below (by (with_reducible repeat (first | apply Kd.R_alloc | apply Kd.R_drewN | apply Kd.R_drew)); exact HO241.out) hb); have n1_ := Aside0.mk (Kd.R_below (by (with_reducible repeat (first | apply Kd.R_alloc | apply Kd.R_drewN | apply Kd.R_drew)); exact HO247.out) hb); have n2_ := Aside0.mk (Kd.R_below (by (with_reducible repeat (first | apply Kd.R_alloc | apply Kd.R_drewN | apply Kd.R_drew)); exact HO250.out) hb); have n3_ := Aside0.mk (Kd.R_below (by (with_reducible repeat (first | apply Kd.R_alloc | apply Kd.R_drewN | apply Kd.R_drew)); exact HO253.out) hb); have n4_ := Aside0.mk (Kd.R_lower ho0 (below_size (by repeat (first | (with_reducible first | exact HB.out | apply below_alloc | apply pw_below_drewN | apply below_drew1) | exact HB.out)))); have n5_ := Aside0.mk (below_step (by repeat (first | (with_reducible first | exact HB.out | apply below_alloc | apply pw_below_drewN | apply below_drew1) | exact HB.out)) hb); clear HO241; clear HO247; clear HO250; clear HO253; clear HB; have HO241 := n0_; have HO247 := n1_; have HO250 := n2_; have HO253 := n3_; have HO256 := n4_; have HB := n5_; clear n0_ n1_ n2_ n3_ n4_ n5_; (try clear hb); (try clear hb2); (try clear hk); (try clear hi); (try clear ho0); obtain ⟨Ao36, co36, eo36⟩ := Kd.R_slice HO250.out; subst eo36) | ((with_reducible refine gate_callee (f := 31) rfl ?_); refine goesL_ (some 42) rfl rfl Tryz.func31 (by kernel_rfl) rfl #[.slice Ao36 y248.length co36] rfl (by (try simp only [List.map_toArray, List.map_cons, List.map_nil]); first | done | rfl | (simp only [List.length_drop, List.length_take]; rfl)) ?_; (with_reducible refine (scrimlaw10_decls.calls kj5 _ _ y248 t257 _ ?side1 ?side2 A23.out).mono ?_); (case side1 => repeat (first | exact (Kd.R_reads' HO250.out).2.2 | (with_reducible refine Kd.C_alloc ?_ _) | (with_reducible refine Kd.C_drewN ?_ _) | (with_reducible refine Kd.C_drew ?_))); (case side2 => exact (Kd.R_reads' HO250.out).2.1); rintro e w37 ⟨v258, rfl, ho0, hb⟩; refine ⟨_, rfl, ?_⟩; have n0_ := Aside0.mk (Kd.R_below (by (with_reducible repeat (first | apply Kd.R_alloc | apply Kd.R_drewN | apply Kd.R_drew)); exact HO241.out) hb); have n1_ := Aside0.mk (Kd.R_below (by (with_reducible repeat (first | apply Kd.R_alloc | apply Kd.R_drewN | apply Kd.R_drew)); exact HO247.out) hb); have n2_ := Aside0.mk (Kd.R_below (by (with_reducible repeat (first | apply Kd.R_alloc | apply Kd.R_drewN | apply Kd.R_drew)); exact HO250.out) hb); have n3_ := Aside0.mk (Kd.R_below (by (with_reducible repeat (first | apply Kd.R_alloc | apply Kd.R_drewN | apply Kd.R_drew)); exact HO253.out) hb); have n4_ := Aside0.mk (Kd.R_elder' (by (with_reducible repeat (first | apply Kd.R_alloc | apply Kd.R_drewN | apply Kd.R_drew)); exact HO256.out) (Kd.R_base ho0) hb); have n5_ := Aside0.mk (Kd.R_lower (Kd.R_new' ho0 (Kd.R_lt (by (with_reducible repeat (first | apply Kd.R_alloc | apply Kd.R_drewN | apply Kd.R_drew)); exact HO256.out))) (below_size (by repeat (first | (with_reducible first | exact HB.out | apply below_alloc | apply pw_below_drewN | apply below_drew1) | exact HB.out)))); have n6_ := Aside0.mk (below_step (by repeat (first | (with_reducible first | exact HB.out | apply below_alloc | apply pw_below_drewN | apply below_drew1) | exact HB.out)) hb); clear HO241; clear HO247; clear HO250; clear HO253; clear HO256; clear HB; have HO241 := n0_; have HO247 := n1_; have HO250 := n2_; have HO253 := n3_; have HO256 := n4_; have HO259 := n5_; have HB := n6_; clear n0_ n1_ n2_ n3_ n4_ n5_ n6_; (try clear hb); (try clear hb2); (try clear hk); (try clear hi); (try clear ho0); obtain ⟨Ao38, co38, eo38⟩ := Kd.R_slice HO256.out; subst eo38; obtain ⟨Ao39, co39, eo39⟩ := Kd.R_slice HO259.out; subst eo39) | ((with_reducible refine gate_callee (f := 30) rfl ?_); refine goesL_ (some 43) rfl rfl Tryz.func30 (by kernel_rfl) rfl #[.slice Ao38 t254.length co38, .slice Ao39 t257.length co39] rfl (by (try simp only [List.map_toArray, List.map_cons, List.map_nil]); first | done | rfl | (simp only [List.length_drop, List.length_take]; rfl)) ?_; (with_reducible refine (scrimref10_SameDecls.calls kj5 _ _ t254 _ _ t257 t260 _ ?side1 ?side2 ?side3 ?side4 A24.out).mono ?_); (case side1 => repeat (first | exact (Kd.R_reads' HO256.out).2.2 | (with_reducible refine Kd.C_alloc ?_ _) | (with_reducible refine Kd.C_drewN ?_ _) | (with_reducible refine Kd.C_drew ?_))); (case side2 => exact (Kd.R_reads' HO256.out).2.1); (case side3 => repeat (first | exact (Kd.R_reads' HO259.out).2.2 | (with_reducible refine Kd.C_alloc ?_ _) | (with_reducible refine Kd.C_drewN ?_ _) | (with_reducible refine Kd.C_drew ?_))); (case side4 => exact (Kd.R_reads' HO259.out).2.1); rintro e w' ⟨rfl, ⟨nd, rfl⟩⟩; refine ⟨_, rfl, ?_⟩))
                      repeat (next => (exfalso; rename_i hx_; have : ByteArray.size ⟨#[59]⟩ = 1 := rfl; (try simp only [ByteArray.size_extract, ByteArray.size_append] at c17); (try simp only [ByteArray.size_extract, ByteArray.size_append] at c18); (try simp only [ByteArray.size_extract, ByteArray.size_append] at c19); (try simp only [ByteArray.size_extract, ByteArray.size_append] at c20); (try simp only [ByteArray.size_extract, ByteArray.size_append] at hx_); omega))
                      go_ret
                      exact ⟨by first | rfl | (simp [errW_none, errW_some] <;> rfl) | (simp [*, errW_none, errW_some] <;> rfl), by repeat (first | (with_reducible first | exact HB.out | apply below_alloc | apply pw_below_drewN | apply below_drew1) | exact HB.out)⟩
                    · rw [if_neg c20] at H
                      exact absurd H (by simp)
                  · rw [if_neg c19] at H
                    exact absurd H (by simp)
                · rw [if_neg c18] at H
                  exact absurd H (by simp)
              · rw [if_neg c17] at H
                exact absurd H (by simp)
            · rw [if_neg c16] at H
              exact absurd H (by simp)
          · rw [if_neg c14] at H
            exact absurd H (by simp)
  · replace c5 := Bool.eq_false_iff.mpr c5
    subst c5
    have H1 : (some false) = some r := by rw [if_neg (show ¬ (false = true) by decide)] at H; exact H
    clear H
    have H := H1
    clear H1
    exact absurd ((Option.some.inj H).trans hrt) (by decide)

/-- THE ONE PURE STATEMENT of scrimlaw10_SheetDrops: yours. -/
def scrimlaw10_SheetDrops.Pure : Prop := ∀ (a0 : ByteArray) (a1 : ByteArray) (a2 : ByteArray), a0.size ≤ 140737488351232 → a1.size ≤ 140737488351232 → a2.size ≤ 140737488351232 → ∃ k, scrimlaw10_SheetDrops.f k a0 a1 a2 = some true

end Go.Proofs.YtolfpgccebdlpaaGreatDoor.HT
