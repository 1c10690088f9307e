/- Plain half of Sheet: what Decls, the laws' own declarations and SameDecls compute; no condition beside those that each theorem states. -/
import Derived.Test.YtolfpgccebdlpaaGreatDoorHT6
import Derived.Test.YtolfpgccebdlpaaGreatDoorVaI
import Derived.Test.YtolfpgccebdlpaaGreatDoorHT7
import Derived.Test.YtolfpgccebdlpaaGreatDoorVaB
import Derived.Test.YtolfpgccebdlpaaGreatDoorRows
import Derived.WideShapes
import Derived.HandedShaped
import Derived.MakeChecks
import Derived.LaidMore
import Derived.Lib.TrailingZeros
set_option linter.unusedVariables false
set_option linter.unusedSimpArgs false
namespace Go.Proofs.YtolfpgccebdlpaaGreatDoor.Shp
open Go.RowKit Go.Proofs.YtolfpgccebdlpaaGreatDoor.HT Go.Proofs.YtolfpgccebdlpaaGreatDoorW.PrintWords Go.Proofs.YtolfpgccebdlpaaGreatDoorW.PrintLast Go.Proofs.Scn Go.Proofs.Sht
abbrev DCL := S111
abbrev DCR := S123
theorem w64 {n : Int} (h1 : -9223372036854775808 ≤ n) (h2 : n ≤ 9223372036854775807) : wrap64 n = n := by unfold wrap64; omega
theorem w64s (i : Nat) (h : i < 100000000) : wrap64 ((i : Int) + 1) = ((i + 1 : Nat) : Int) := by rw [w64 (by omega) (by omega)]; omega
theorem ev_eq {α : Type} {g : Nat → Option α} {a b : α} (h : Ev g a) (e : a = b) : Ev g b := e ▸ h
theorem rdOf_at {α : Type} {d : α} {l : List α} {i : Nat} (h : i < l.length) : rdOf d l (i : Int) = l[i] := by
  unfold rdOf
  rw [Int.toNat_natCast, List.getD, List.getElem?_eq_getElem h]
  rfl
theorem spl_len (c : UInt8) : ∀ l : List UInt8, (spl c l).length ≤ l.length + 1
  | [] => by simp [spl]
  | x :: t => by
    have ih := spl_len c t
    by_cases h : x = c
    · subst h; rw [spl_hit]; simp; omega
    · obtain ⟨a, r, e⟩ := spl_ne c t
      rw [spl_step h e]
      rw [e] at ih
      simp at ih ⊢
      omega
theorem spl_mem (c : UInt8) : ∀ (l : List UInt8), ∀ p ∈ spl c l, p.length ≤ l.length
  | [], p, hp => by simp [spl] at hp; rw [hp]; simp
  | x :: t, p, hp => by
    have ih := spl_mem c t
    by_cases h : x = c
    · subst h
      rw [spl_hit] at hp
      rcases List.mem_cons.1 hp with rfl | hp
      · simp
      · have := ih p hp; simp; omega
    · obtain ⟨a, r, e⟩ := spl_ne c t
      rw [spl_step h e] at hp
      rw [e] at ih
      rcases List.mem_cons.1 hp with rfl | hp
      · have := ih a (by simp); simp; omega
      · have := ih p (by simp [hp]); simp; omega
theorem valsV_len (p : Int) (ts : List ByteArray) (im : Bool) (wh : List Nat) : ∀ (d i : Nat) (acc : List Dc), (valsV p ts im wh d i acc).length ≤ acc.length + d
  | 0, _, acc => by simp [valsV]
  | d + 1, i, acc => by
    rw [valsV]
    have h := valsV_len p ts im wh d (i + 1) (acc ++ [(p + i, (Val.readV (p + i) (ts.getD (wh.getD i 0) ByteArray.empty)).1.1, (Val.readV (p + i) (ts.getD (wh.getD i 0) ByteArray.empty)).1.2, im)])
    rw [List.length_append] at h
    simp only [List.length_cons, List.length_nil] at h
    split
    · omega
    · simp
theorem declV_len (s : ByteArray) : (declV s).length ≤ 4 := by
  have hm : ∀ n, (propsV n).2.toNat ≤ 4 := fun n => by
    unfold propsV
    repeat (first | (split; exact by decide) | exact by decide | (show (1 : Int).toNat ≤ 4; decide))
  unfold declV
  dsimp only
  split
  · split
    · exact Nat.le_trans (valsV_len _ _ _ _ _ _ _) (by have := hm (lowV (trimV (ba (Lib.cut s.data.toList [58]).1))); simp; omega)
    · simp
  · simp
theorem rDecls_l (P : List ByteArray) (hP : P.length ≤ 100000) (hs : ∀ p ∈ P, p.size ≤ 30000) : ∀ (d n : Nat) (acc : List DCL), n + d = P.length → acc.length ≤ 4 * n → Ev (fun k => sheet_Decls.l0 k acc P (P.length : Int) (n : Int)) (acc ++ (P.drop n).flatMap fun p => (declV p).map sheet_decls.it)
  | 0, n, acc, h, ha => by
    obtain rfl : n = P.length := by omega
    rw [List.drop_length, List.flatMap_nil, List.append_nil]
    exact Ev.step (f := fun k => some acc) (fun k => by rw [sheet_Decls.l0, if_neg (by omega)]) (Ev.now _)
  | d + 1, n, acc, h, ha => by
    have hn : n < P.length := by omega
    rw [List.drop_eq_getElem_cons hn, List.flatMap_cons]
    have hz := hs _ (List.getElem_mem hn)
    have hl := declV_len P[n]
    refine Ev.step (f := fun k => sheet_Decls.l0 k (acc ++ (declV P[n]).map sheet_decls.it) P (P.length : Int) ((n + 1 : Nat) : Int)) (fun k => ?_) (ev_eq (rDecls_l P hP hs d (n + 1) (acc ++ (declV P[n]).map sheet_decls.it) (by omega) (by rw [List.length_append, List.length_map]; omega)) (by rw [List.append_assoc]))
    rw [sheet_Decls.l0, if_pos (by omega), if_pos (by omega), if_pos (by omega), rdOf_at hn, sheet_decls.f, if_pos (by omega), Option.bind_some, if_pos (by rw [List.length_map]; omega), w64s n (by omega)]
theorem rDecls (s : ByteArray) (hs : s.size ≤ 30000) : Ev (fun k => sheet_Decls.f k s) ((declsV s).map sheet_decls.it) := by
  have h1 := spl_len 59 s.data.toList
  rw [← Lib.size_eq] at h1
  refine Ev.congr (f := fun k => sheet_Decls.l0 k [] ((spl 59 s.data.toList).map fun l => ba (trimL l)) (((spl 59 s.data.toList).map fun l => ba (trimL l)).length : Int) ((0 : Nat) : Int)) (fun k => ?_) (ev_eq (rDecls_l _ (by rw [List.length_map]; omega) ?_ ((spl 59 s.data.toList).map fun l => ba (trimL l)).length 0 [] (Nat.zero_add _) (by simp)) ?_)
  · rw [sheet_Decls.f, scan_Split.f, if_pos (by omega), show UInt8.ofNat (59 : Int).toNat = 59 by decide, splitV_eq, Option.bind_some]
    rfl
  · intro p hp
    obtain ⟨q, hq, rfl⟩ := List.mem_map.1 hp
    have a := spl_mem 59 _ q hq
    have b := trim_len q
    rw [Lib.size_eq, ba_data]
    rw [← Lib.size_eq] at a
    omega
  · rw [List.drop_zero, List.nil_append]
    unfold declsV
    rw [List.map_flatMap, List.flatMap_map]
    rfl
theorem declsV_len (s : ByteArray) : (declsV s).length ≤ 4 * (s.size + 1) := by
  have h1 := spl_len 59 s.data.toList
  rw [← Lib.size_eq] at h1
  have h2 : ∀ l : List (List UInt8), (l.flatMap partD).length ≤ 4 * l.length := fun l => by
    induction l with
    | nil => simp
    | cons x l ih =>
      have := declV_len (ba (trimL x))
      rw [List.flatMap_cons, List.length_append, List.length_cons]
      unfold partD at ih ⊢
      omega
  have := h2 (spl 59 s.data.toList)
  unfold declsV
  omega
/-! ### the law's own declarations, and whether they are the same -/
def conv (x : DCL) : DCR := ⟨x.f0, ⟨x.f1.f0, x.f1.f1⟩, x.f2⟩
theorem rd_at {l : List DCL} {i : Nat} (h : i < l.length) : rd_T111 l (i : Int) = l[i] := by
  unfold rd_T111
  rw [Int.toNat_natCast, List.getD, List.getElem?_eq_getElem h]
  rfl
theorem rConv_l (P : List DCL) (hP : P.length ≤ 1000000) : ∀ (d n : Nat) (acc : List DCR), n + d = P.length → acc.length ≤ n → Ev (fun k => scrimlaw10_decls.l0 k acc P (P.length : Int) (n : Int)) (acc ++ (P.drop n).map conv)
  | 0, n, acc, h, ha => by
    obtain rfl : n = P.length := by omega
    rw [List.drop_length, List.map_nil, List.append_nil]
    exact Ev.step (f := fun k => some acc) (fun k => by rw [scrimlaw10_decls.l0, if_neg (by omega)]) (Ev.now _)
  | d + 1, n, acc, h, ha => by
    have hn : n < P.length := by omega
    rw [List.drop_eq_getElem_cons hn, List.map_cons]
    refine Ev.step (f := fun k => scrimlaw10_decls.l0 k (acc ++ [conv P[n]]) P (P.length : Int) ((n + 1 : Nat) : Int)) (fun k => ?_) (ev_eq (rConv_l P hP d (n + 1) (acc ++ [conv P[n]]) (by omega) (by rw [List.length_append]; simp; omega)) (by simp))
    rw [scrimlaw10_decls.l0, if_pos (by omega), if_pos (by omega), if_pos (by omega), rd_at hn, if_pos (by omega), w64s n (by omega)]
    rfl
theorem rConv (l : List DCL) (h : l.length ≤ 1000000) : Ev (fun k => scrimlaw10_decls.f k l) (l.map conv) := by
  refine Ev.congr (f := fun k => scrimlaw10_decls.l0 k [] l (l.length : Int) ((0 : Nat) : Int)) (fun k => rfl) (ev_eq (rConv_l l h l.length 0 [] (Nat.zero_add _) (by simp)) (by simp))
theorem rSame_l (P : List DCR) (hP : P.length ≤ 1000000) : ∀ (d n : Nat), n + d = P.length → Ev (fun k => scrimref10_SameDecls.l0 k P P (n : Int)) true
  | 0, n, h => Ev.step (f := fun k => some true) (fun k => by rw [scrimref10_SameDecls.l0, if_neg (by omega)]) (Ev.now _)
  | d + 1, n, h => by
    refine Ev.step (f := fun k => scrimref10_SameDecls.l0 k P P ((n + 1 : Nat) : Int)) (fun k => ?_) (rSame_l P hP d (n + 1) (by omega))
    rw [scrimref10_SameDecls.l0, if_pos (by omega), if_pos (by omega), if_pos (by omega), if_neg (by simp), w64s n (by omega)]
theorem rSame (P : List DCR) (hP : P.length ≤ 1000000) : Ev (fun k => scrimref10_SameDecls.f k P P) true :=
  Ev.congr (f := fun k => scrimref10_SameDecls.l0 k P P ((0 : Nat) : Int)) (fun k => by rw [scrimref10_SameDecls.f, if_pos rfl]; rfl) (rSame_l P hP P.length 0 (Nat.zero_add _))
theorem awake : Ev (fun k => scrimlaw10_awake.f k) true := Ev.of (fun k => scrimlaw10_awake.mono k) (k := 60) (by decide +kernel)
end Go.Proofs.YtolfpgccebdlpaaGreatDoor.Shp
set_option linter.unusedVariables false
set_option linter.unusedSimpArgs false
namespace Go.Proofs.YtolfpgccebdlpaaGreatDoor.Pure
open Go.RowKit Go.Proofs.YtolfpgccebdlpaaGreatDoor.HT Go.Proofs.YtolfpgccebdlpaaGreatDoorW.PrintWords Go.Proofs.YtolfpgccebdlpaaGreatDoorW.PrintLast Go.Proofs.Scn Go.Proofs.Sht Go.Proofs.YtolfpgccebdlpaaGreatDoor.Shp
theorem drops_on (a0 a1 a2 : ByteArray) : Ev (fun k => scrimlaw10_SheetDrops.j0 k a0 a1 a2 true) true :=
  Ev.step (f := fun _ => some true) (fun k => by rw [scrimlaw10_SheetDrops.j0, if_pos rfl]) (Ev.now _)
theorem SheetDrops : scrimlaw10_SheetDrops.Pure := by
  intro a0 a1 a2 h0 h1 h2
  refine Ev.rounds (?_ : Ev (fun k => scrimlaw10_SheetDrops.f k a0 a1 a2) true)
  have hw : wrap64 ((wrap64 ((a0.size : Int) + (a1.size : Int))) + (a2.size : Int)) = ((a0.size + a1.size + a2.size : Nat) : Int) := by
    rw [w64 (n := (a0.size : Int) + (a1.size : Int)) (by omega) (by omega), w64 (by omega) (by omega)]; omega
  refine Ev.congr (f := fun k => (scrimlaw10_awake.f k).bind fun t232 => (if t232 = true then (if ((a0.size + a1.size + a2.size : Nat) : Int) > 1000 then (scrimlaw10_SheetDrops.j0 k a0 a1 a2 true) else ((sheet_Decls.f k a2).bind fun t233 => (scrimlaw10_SheetDrops.j0 k a0 a1 a2 (decide ((t233.length : Int) > 0))))) else (some false))) (fun k => by rw [scrimlaw10_SheetDrops.f, hw]) ?_
  refine Ev.bind awake ?_
  simp only [if_true]
  by_cases c : ((a0.size + a1.size + a2.size : Nat) : Int) > 1000
  · simp only [if_pos c]
    exact drops_on a0 a1 a2
  simp only [if_neg c]
  refine Ev.bind (rDecls a2 (by omega)) ?_
  by_cases d : (declsV a2).length = 0
  · have hd : declsV a2 = [] := List.length_eq_zero_iff.1 d
    rw [hd]
    have l0 := declsV_len a0
    have l1 := declsV_len a1
    have e : a0 ++ ⟨#[59]⟩ ++ a2 ++ ⟨#[59]⟩ ++ a1 = (((a0 ++ (⟨#[59]⟩ : ByteArray)) ++ a2) ++ (⟨#[59]⟩ : ByteArray)) ++ a1 := rfl
    have z1 : (⟨#[59]⟩ : ByteArray).size = 1 := rfl
    have r1 := rDecls a0 (by omega)
    have r2 := rDecls a1 (by omega)
    have r3 := rDecls ((((a0 ++ (⟨#[59]⟩ : ByteArray)) ++ a2) ++ (⟨#[59]⟩ : ByteArray)) ++ a1) (by simp only [ByteArray.size_append]; omega)
    rw [← e, drops a0 a1 a2 hd, List.map_append] at r3
    rw [e] at r3
    refine Ev.step (f := fun k => (sheet_Decls.f k a0).bind fun t239 => (if ([] : List DCL).length + t239.length < 4398046511104 then ((sheet_Decls.f k a1).bind fun t245 => (if ([] ++ t239).length + t245.length < 4398046511104 then ((sheet_Decls.f k ((((a0 ++ (⟨#[59]⟩ : ByteArray)) ++ a2) ++ (⟨#[59]⟩ : ByteArray)) ++ a1)).bind fun t251 => ((scrimlaw10_decls.f k t251).bind fun t254 => ((scrimlaw10_decls.f k ([] ++ t239 ++ t245)).bind fun t257 => ((scrimref10_SameDecls.f k t254 t257).bind fun t260 => (some t260))))) else (none))) else (none))) (fun k => ?_) ?_
    · rw [scrimlaw10_SheetDrops.j0, if_neg (by simp), Option.bind_some]
      have b1 : a0.size + 1 ≤ 9223372036854775807 := by omega
      have b2 : a0.size + 1 + a2.size ≤ 9223372036854775807 := by omega
      have b3 : a0.size + 1 + a2.size + 1 ≤ 9223372036854775807 := by omega
      have b4 : a0.size + 1 + a2.size + 1 + a1.size ≤ 9223372036854775807 := by omega
      simp only [Option.bind_some, ByteArray.size_append, z1, if_pos b1, if_pos b2, if_pos b3, if_pos b4]
    · refine Ev.bind r1 ?_
      simp only [if_pos (show ([] : List DCL).length + ((declsV a0).map sheet_decls.it).length < 4398046511104 by simp; omega)]
      refine Ev.bind r2 ?_
      have q2 : ((declsV a0).map sheet_decls.it).length + ((declsV a1).map sheet_decls.it).length < 4398046511104 := by simp; omega
      simp only [List.nil_append, if_pos q2]
      refine Ev.bind r3 ?_
      have hlen : ((declsV a0).map sheet_decls.it ++ (declsV a1).map sheet_decls.it).length ≤ 1000000 := by simp; omega
      refine Ev.bind (rConv _ hlen) ?_
      refine Ev.bind (rConv _ hlen) ?_
      refine Ev.bind (rSame _ (by rw [List.length_map]; exact hlen)) ?_
      exact Ev.now _
  · have hd : decide ((((declsV a2).map sheet_decls.it).length : Int) > 0) = true := decide_eq_true (by rw [List.length_map]; omega)
    simp only [hd]
    exact drops_on a0 a1 a2
end Go.Proofs.YtolfpgccebdlpaaGreatDoor.Pure
set_option linter.unusedVariables false
set_option linter.unusedSimpArgs false
namespace Go.Proofs.Val
open Go Go.RowKit
set_option maxRecDepth 100000
theorem laid_tail {P : Program} {W : World} {x : String × DataW Unit} {rest : List (String × DataW Unit)} (h : laidMet P (x :: rest) W) : laidMet P rest W := by
  obtain ⟨ps, ⟨g, t, cs, fuel, p, q, h1, h2, h3, h4, h5, h6⟩, hn, hr⟩ := h
  subst h6
  exact ⟨q, h5, (List.nodup_append.1 hn).2.1, fun b off hm => hr b off (List.mem_append_right _ hm)⟩
theorem tbs_of {rest : List (String × DataW Unit)} {W : World} (h : laidMet Tryz.prog (("math/bits.deBruijn32tab", Go.Proofs.YtolfpgccebdlpaaGreatDoor.Rows.laid_math_bits_deBruijn32tab) :: ("math/bits.deBruijn64tab", Go.Proofs.YtolfpgccebdlpaaGreatDoor.Rows.laid_math_bits_deBruijn64tab) :: ("internal/strconv.uint64pow10", Go.Proofs.YtolfpgccebdlpaaGreatDoor.Rows.laid_internal_strconv_uint64pow10) :: rest) W.memory) : Tbs W := by
  have h2 := laid_tail h
  have h3 := laid_tail h2
  have g2 : Tryz.prog.globalNamed "math/bits.deBruijn64tab" = some 7 := by kernel_rfl
  have t2 : Lib.TabIs Tryz.prog W.memory "math/bits.deBruijn64tab" .u8 (Lib.deBruijn64tab.map fun n : Nat => (n : Int)) :=
    Lib.tabIs_of_head (zs := Lib.deBruijn64tab.map fun n : Nat => (n : Int)) g2 (t := 247) (by kernel_rfl) Tryz.underlying247 Tryz.underlying5 (by kernel_rfl) (by kernel_rfl) h2
  have t3 : Lib.TabIs Tryz.prog W.memory "internal/strconv.uint64pow10" .u64 Lib.pow10Tab :=
    Lib.tabIs_of_head (zs := Lib.pow10Tab) gn10 (t := 229) (by kernel_rfl) Tryz.underlying229 Tryz.underlying213 (by kernel_rfl) (by kernel_rfl) h3
  refine ⟨t3, ?_⟩
  have c := t2.cell g2 15 (by decide)
  exact c
variable {H : Type} {enc : TypeId × Value → H}
theorem handed_laid_X {a : Assume} {C : Checked} {os : Os} {f : FuncId} {fn : Func} {s : ChangeSpec} {conds : List PathCond} {apart fresh handsOn again : Bool} {X : World → Array Value → Prop}
    (own : ownKnob C.prog.godebug = none) (started : os.Started) (noInit : C.prog.inits.idxOf? f = none) (hfn : C.prog.funcs[f]? = some fn)
    (witness : ∃ (w : World) (tape : Tape) (i : Input), w.os = os ∧ (w.forCall tape i).Shaped C.prog ∧ i.vars = [] ∧ Input.okWide C.prog (w.forCall tape i) .any w.heap.size f i ∧
      ((s.pre enc C.prog fn conds apart (w.forCall tape i).memory i.args ∧ X (w.forCall tape i).memory i.args) ∧ sizedMet enc C.prog fn (OpenSpec.ofChange s) apart (w.forCall tape i).memory i.args) ∧ a.holds C.prog (lone (Frame.enter C.prog f i.args .normal) [] (w.forCall tape i)))
    (contract : ∀ (W : World) (base : Nat) (args : Array Value) (ds gs : List (DataW H)) (before : List MemPlace),
      X W.memory args →
      (∀ (j : Nat) t v, fn.params[j]? = some t → args[j]? = some v → Value.okWide C.prog W .any base t v) →
      DataW.Whole enc C.prog fn.params.toList s.vars apart W args.toList ds gs before →
      (DataW.weightsEach C.prog (fn.params.toList ++ s.plain.varTypes C.prog) (ds ++ gs)).all (· ≤ reachBytes) = true →
      W.ShapedOpen C.prog →
      Calls C.prog f args W fun e W' => ∃ v, e = .returned v ∧ s.post enc C.prog fn apart fresh handsOn again W args v W') :
    ReturnsInHanded a C os f .any (fun w args => (s.pre enc C.prog fn conds apart w args ∧ X w args) ∧ sizedMet enc C.prog fn (OpenSpec.ofChange s) apart w args) (s.post enc C.prog fn apart fresh handsOn again) := by
  refine returnsInHanded_of_calls own started noInit witness ?_
  intro w tape i _ hsh _ hok hpre hholds
  obtain ⟨_, _, _, fn', hfn', _, _, _, _, hval⟩ := hok
  have e : fn' = fn := Option.some.inj (hfn'.symm.trans hfn)
  subst e
  obtain ⟨⟨⟨ds, gs, before, hw, hc⟩, hx⟩, hz⟩ := hpre
  have hw' := DataW.Whole.of_heap (w' := w.forCall tape i) (by rfl) hw
  refine (contract (w.forCall tape i) w.heap.size i.args ds gs before hx hval hw' (hz.weights hw) hsh).mono fun e W' ⟨v, he, hp⟩ => ?_
  subst he
  exact ChangeSpec.post_blind hp
end Go.Proofs.Val
