/- The plain half of SelectorBack. -/
import Derived.Test.YtdifaomkaekglabDoorPSeD
import Derived.Test.YtdifaomkaekglabDoorHS7
set_option linter.unusedVariables false
set_option linter.unusedSimpArgs false
namespace Go.Proofs.YtdifaomkaekglabDoor.Pure
open Go.RowKit Go.Proofs.YtdifaomkaekglabDoor.HS Go.Proofs.YtdifaomkaekglabDoorW.PrintWords Go.Proofs.YtdifaomkaekglabDoorW.PrintLast Go.Proofs.YtdifaomkaekglabDoorW.PrintMore Go.Proofs.Scn Go.Proofs.Tok
theorem back_j1 (s : ByteArray) (hs : s.size ≤ 400) : Ev (fun k => scrimlaw09_SelectorBack.j1 k s false) true := by
  have hR := rRead s (by omega)
  obtain ⟨hm, hn⟩ := read_may s
  generalize hr : readV s = r at hR hm hn
  obtain ⟨ps, bs, ok⟩ := r
  cases ok with
  | false =>
    have e := hn rfl
    obtain ⟨rfl, rfl⟩ : ps = [] ∧ bs = [] := by unfold zr at e; injection e with e1 e2; injection e2 with e2 e3; exact ⟨e1, e2⟩
    refine Ev.step (f := fun k => (selector_Read.f k s).bind fun bt245 => (if bt245.2.2 = true then ((selector_Print.f bt245.1 bt245.2.1).bind fun t253 => ((selector_Read.f k t253).bind fun bt254 => ((selector_May.f bt245.1 bt245.2.1).bind fun t262 => (if t262 = true then (if bt254.2.2 = true then ((selector_Same.f bt245.1 bt245.2.1 bt254.1 bt254.2.1).bind fun t263 => (some t263)) else (some false)) else (some false))))) else (some ((wrap64 ((bt245.1.length : Int) + (bt245.2.1.length : Int))) == 0)))) (fun k => by rw [scrimlaw09_SelectorBack.j1, if_neg (by decide)]) ?_
    refine Ev.bind hR ?_
    simp only [Bool.false_eq_true, if_false]
    exact (Ev.now _).eq (show (wrap64 (((0 : Nat) : Int) + ((0 : Nat) : Int)) == 0) = true by rw [w64 (by omega) (by omega)]; rfl)
  | true =>
    have hmay := hm rfl
    obtain ⟨h8, hn7, hf⟩ := fine_may hmay
    refine Ev.step (f := fun k => (selector_Read.f k s).bind fun bt245 => (if bt245.2.2 = true then ((selector_Print.f bt245.1 bt245.2.1).bind fun t253 => ((selector_Read.f k t253).bind fun bt254 => ((selector_May.f bt245.1 bt245.2.1).bind fun t262 => (if t262 = true then (if bt254.2.2 = true then ((selector_Same.f bt245.1 bt245.2.1 bt254.1 bt254.2.1).bind fun t263 => (some t263)) else (some false)) else (some false))))) else (some ((wrap64 ((bt245.1.length : Int) + (bt245.2.1.length : Int))) == 0)))) (fun k => by rw [scrimlaw09_SelectorBack.j1, if_neg (by decide)]) ?_
    refine Ev.bind hR ?_
    have hl8 : ps.length ≤ 1000 := Nat.le_trans h8 (by omega)
    have hl7 : bs.length ≤ 1000 := Nat.le_trans hn7 (by omega)
    simp only [if_true, f_Print ps bs hl8 hl7 hf, Option.bind_some, f_May ps bs hl8 hl7 hf, show mayS (ps.map it) bs.length = true from hmay]
    have hR2 := rRead (printV (ps.map it) bs) (by have := print_size ps bs; omega)
    rw [read_print ps bs hmay] at hR2
    refine Ev.bind hR2 ?_
    simp only [if_true, f_Same ps ps bs bs hl8 hl8 hl7 hl7 hf hf, Option.bind_some, decide_true, Bool.and_self]
    exact Ev.now true
theorem SelectorBack (xs : List S44) (bs : List Bool) (s : ByteArray) (hl : xs.length < 1954687338268) (hz : ∀ x ∈ xs, small (c50 x)) : ∃ k, scrimlaw09_SelectorBack.f k xs bs s = some true := by
  refine Ev.rounds (g := fun k => scrimlaw09_SelectorBack.f k xs bs s) ?_
  unfold scrimlaw09_SelectorBack.f
  refine Ev.bind awake ?_
  simp only [if_true]
  have j0t : Ev (fun k => scrimlaw09_SelectorBack.j0 k s true xs bs) true := Ev.step (f := fun k => some true) (fun k => by rw [scrimlaw09_SelectorBack.j0, if_pos rfl]) (Ev.now _)
  by_cases hs : (s.size : Int) > 400
  · simp only [if_pos hs]
    exact j0t
  · simp only [if_neg hs]
    refine Ev.bind (rOwn xs bs hl) ?_
    obtain ⟨b, hb, hbf⟩ := rLarge (xs.map c50) bs (fun y hy => by obtain ⟨x, hx, rfl⟩ := List.mem_map.1 hy; exact hz x hx)
    refine Ev.bind hb ?_
    cases b with
    | true => exact j0t
    | false =>
      obtain ⟨hc, hb1⟩ := hbf rfl
      obtain ⟨h5, hf⟩ := fine_small hc
      have hl8 : xs.length ≤ 1000 := by omega
      have hl7 : bs.length ≤ 1000 := by omega
      have hP := f_Print xs bs hl8 hl7 hf
      have hM := f_May xs bs hl8 hl7 hf
      have hR2 := rRead (printV (xs.map it) bs) (by have := print_size xs bs; omega)
      refine Ev.step (f := fun k => (selector_Read.f k (printV (xs.map it) bs)).bind fun bt233 => (if (bt233.2.2 != mayS (xs.map it) bs.length) = true then (scrimlaw09_SelectorBack.j1 k s true) else (if bt233.2.2 = true then ((selector_Same.f xs bs bt233.1 bt233.2.1).bind fun t242 => (if t242 = true then ((selector_Weight.f k xs bs).bind fun t243 => ((selector_Weight.f k bt233.1 bt233.2.1).bind fun t244 => (scrimlaw09_SelectorBack.j1 k s (t243 != t244)))) else (scrimlaw09_SelectorBack.j1 k s true))) else (scrimlaw09_SelectorBack.j1 k s false)))) (fun k => by rw [scrimlaw09_SelectorBack.j0, if_neg (by decide), hP, hM, Option.bind_some]; simp only [Option.bind_some]) ?_
      cases hmay : mayS (xs.map it) bs.length with
      | true =>
        rw [read_print xs bs hmay] at hR2
        refine Ev.bind hR2 ?_
        have hW := rWeight xs bs (by omega)
        simp only [show (true != true) = false from rfl, Bool.false_eq_true, if_false, if_true, f_Same xs xs bs bs hl8 hl8 hl7 hl7 hf hf, Option.bind_some, decide_true, Bool.and_self]
        refine Ev.bind hW (Ev.bind hW ?_)
        simp only [bne_self_eq_false]
        exact back_j1 s (by omega)
      | false =>
        rw [print_empty hmay, read_empty] at hR2
        rw [print_empty hmay]
        refine Ev.bind hR2 ?_
        simp only [zr, show (false != false) = false from rfl, Bool.false_eq_true, if_false]
        exact back_j1 s (by omega)
end Go.Proofs.YtdifaomkaekglabDoor.Pure
