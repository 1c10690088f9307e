/- SheetSides: the law's contract, its parts joined; no condition beside those that the theorem states. -/
import Derived.Test.YtolfpgccebdlpaaGreatDoorShWp
import Derived.Test.YtolfpgccebdlpaaGreatDoorShWq
import Derived.Test.YtolfpgccebdlpaaGreatDoorShWr
import Derived.Test.YtolfpgccebdlpaaGreatDoorShWs
import Derived.Test.YtolfpgccebdlpaaGreatDoorHT6
import Derived.Test.YtolfpgccebdlpaaGreatDoorShS
import Derived.Test.YtolfpgccebdlpaaGreatDoorVaI
import Derived.Test.YtolfpgccebdlpaaGreatDoorVaB
import Derived.Test.YtolfpgccebdlpaaGreatDoorRows
import Derived.WideShapes
import Derived.HandedShaped
import Derived.MakeChecks
import Derived.LaidMore
import Derived.Lib.TrailingZeros
set_option linter.unusedVariables false
set_option linter.unusedSimpArgs false
namespace Go.Proofs.YtolfpgccebdlpaaGreatDoor.Shw
open Go.RowKit Go.Lib Go.Proofs.Sht Go.Proofs.YtolfpgccebdlpaaGreatDoor.HT Go.Proofs.YtolfpgccebdlpaaGreatDoorW.PrintWords Go.Proofs.YtolfpgccebdlpaaGreatDoorW.PrintLast Go.Proofs.YtolfpgccebdlpaaGreatDoorW.PrintMore
set_option maxHeartbeats 100000000 in
set_option maxRecDepth 400000 in
theorem sidesC (n0 n1 n2 n3 many : Int) (strong : Bool) (K : Nat) (w : World) (hE : Sht.Env w) (hA : scrimlaw10_awake.f K = some true)
    (hfin : ∀ m : Nat, 1 ≤ m → m ≤ 4 → (∀ j, j < 4 → 0 ≤ nv n0 n1 n2 n3 j ∧ nv n0 n1 n2 n3 j ≤ 9) → ∃ D1 D2 E1 E2, sheet_Decls.f K (shN m (nv n0 n1 n2 n3) 4 ++ endV strong) = some D1 ∧ sheet_Decls.f K (loN m (nv n0 n1 n2 n3) (endV strong) 4) = some D2 ∧ scrimlaw10_decls.f K D1 = some E1 ∧ scrimlaw10_decls.f K D2 = some E2 ∧ scrimref10_SameDecls.f K E1 E2 = some true ∧ D2.length = 4) :
    Calls Tryz.prog 7 #[.agg #[.int .i64 n0, .int .i64 n1, .int .i64 n2, .int .i64 n3], .int .i64 many, .bool strong] w fun e w' => e = .returned (.bool true) ∧ Below w.heap.size w w' := by
  have hu1 := Tryz.underlying73
  have hu2 := Tryz.underlying74
  have AW := Aside0.mk (fun (W : World) (h : Sht.Env W) => scrimlaw10_awake.calls K true rfl W hA h)
  have HF := Aside0.mk hfin
  have HE := Aside0.mk hE
  by_cases h1 : many < 1
  · have e1 : decide (many < 1) = true := decide_eq_true h1
    as_aux_lemma =>
    go_enter Tryz.func7, Tryz.ntmps7
    go_wp2_with (first | (go_at_call 24; refine (AW.out _ (HE.out.below (below_alloc (Below.refl _ _) _))).mono ?_; rintro e w1 ⟨rfl, hB⟩; have B1 := Aside0.mk (below_then (below_alloc (Below.refl _ _) _) (below_alloc (Below.refl _ _) _).size hB); clear hB))
    go_ret
    exact ⟨rfl, B1.out⟩
  have e1 : decide (many < 1) = false := decide_eq_false h1
  by_cases h4 : 4 < many
  · have e2 : decide (4 < many) = true := decide_eq_true h4
    as_aux_lemma =>
    go_enter Tryz.func7, Tryz.ntmps7
    go_wp2_with (first | (go_at_call 24; refine (AW.out _ (HE.out.below (below_alloc (Below.refl _ _) _))).mono ?_; rintro e w1 ⟨rfl, hB⟩; have B1 := Aside0.mk (below_then (below_alloc (Below.refl _ _) _) (below_alloc (Below.refl _ _) _).size hB); clear hB))
    go_ret
    exact ⟨rfl, B1.out⟩
  have e2 : decide (4 < many) = false := decide_eq_false h4
  obtain ⟨m, rfl⟩ : ∃ m : Nat, many = (m : Int) := ⟨many.toNat, by omega⟩
  have hm1 : 1 ≤ m := by omega
  have hm4 : m ≤ 4 := by omega
  have hm : (m = 1 ∨ m = 2) ∨ (m = 3 ∨ m = 4) := by omega
  cases strong with
  | false =>
    rcases hm with hm | hm
    · exact sidesp n0 n1 n2 n3 m hm K w hE hA (fun h => hfin m hm1 hm4 h)
    · exact sidesq n0 n1 n2 n3 m hm K w hE hA (fun h => hfin m hm1 hm4 h)
  | true =>
    rcases hm with hm | hm
    · exact sidesr n0 n1 n2 n3 m hm K w hE hA (fun h => hfin m hm1 hm4 h)
    · exact sidess n0 n1 n2 n3 m hm K w hE hA (fun h => hfin m hm1 hm4 h)
end Go.Proofs.YtolfpgccebdlpaaGreatDoor.Shw
set_option linter.unusedVariables false
set_option linter.unusedSimpArgs false
namespace Go.Proofs.Sht
open Go Go.Lib Go.Proofs.Scn
def qN (j : Nat) (d : Nat) (e : Bool) : ByteArray := ((((⟨#[109, 97, 114, 103, 105, 110, 45]⟩ : ByteArray) ++ sideN j) ++ (⟨#[58, 32]⟩ : ByteArray)) ++ wordN (d : Int)) ++ endV e
theorem long_one : ∀ j : Fin 4, ∀ d : Fin 10, ∀ s : Bool, declsV (qN j.val d.val s) = [(4 + (j.val : Int), 2, 64 * (d.val : Int), s)] := by decide +kernel
theorem read_one : ∀ j : Fin 4, ∀ d : Fin 10, Val.readV (4 + (j.val : Int)) (ba [UInt8.ofNat (48 + d.val), 112, 120]) = ((2, 64 * (d.val : Int)), true) := by decide +kernel
theorem word_data : ∀ d : Fin 10, (wordN (d.val : Int)).data.toList = [UInt8.ofNat (48 + d.val), 112, 120] := by decide +kernel
theorem dig_plain : ∀ d : Fin 10, isB (UInt8.ofNat (48 + d.val)) = false ∧ lowB (UInt8.ofNat (48 + d.val)) = UInt8.ofNat (48 + d.val) ∧ UInt8.ofNat (48 + d.val) ≠ 59 := by decide +kernel
theorem nil_decls : (spl 59 ([] : List UInt8)).flatMap partD = [] := by decide +kernel
def sidesV (m : Nat) (f : Nat → Int) (s : Bool) (k : Nat) : List Dc := (List.range k).map fun (j : Nat) => ((4 + (j : Int), 2, 64 * f (whN m j), s) : Dc)
theorem long_k (m : Nat) (f : Nat → Int) (s : Bool) (hf : ∀ j, j < 4 → 0 ≤ f j ∧ f j ≤ 9) : ∀ k, k ≤ 4 → ∀ t, (spl 59 ((loN m f (endV s) k).data.toList ++ t)).flatMap partD = sidesV m f s k ++ (spl 59 t).flatMap partD
  | 0, _, t => by simp [loN, sidesV]
  | k + 1, hk, t => by
    have hw := hf _ (wh_lt m k)
    obtain ⟨d, hd⟩ : ∃ d : Nat, f (whN m k) = (d : Int) := ⟨(f (whN m k)).toNat, by omega⟩
    have h1 := long_one ⟨k, by omega⟩ ⟨d, by omega⟩ s
    have e : (loN m f (endV s) (k + 1)).data.toList ++ t = (loN m f (endV s) k).data.toList ++ ((qN k d s).data.toList ++ 59 :: t) := by
      rw [loN]
      unfold partN qN
      rw [hd]
      simp [ByteArray.data_append]
    rw [e, long_k m f s hf k (by omega), spl_app, List.flatMap_append]
    have h2 : (spl 59 (qN k d s).data.toList).flatMap partD = declsV (qN k d s) := rfl
    rw [h2, h1]
    unfold sidesV
    rw [List.range_succ, List.map_append, List.map_cons, List.map_nil, hd]
    simp
theorem long_all (m : Nat) (f : Nat → Int) (s : Bool) (hf : ∀ j, j < 4 → 0 ≤ f j ∧ f j ≤ 9) : declsV (loN m f (endV s) 4) = sidesV m f s 4 := by
  have h := long_k m f s hf 4 (Nat.le_refl _) []
  rw [List.append_nil, nil_decls, List.append_nil] at h
  exact h
theorem first_eq {c : UInt8} : ∀ {p q t u : List UInt8}, c ∉ p → c ∉ q → p ++ c :: t = q ++ c :: u → p = q ∧ t = u
  | [], [], t, u, _, _, h => by simpa using h
  | [], b :: q, t, u, _, h2, h => by
    rw [List.nil_append, List.cons_append] at h
    exact absurd (List.cons.inj h).1 (fun e => h2 (by rw [e]; simp))
  | a :: p, [], t, u, h1, _, h => by
    rw [List.nil_append, List.cons_append] at h
    exact absurd (List.cons.inj h).1 (fun e => h1 (by rw [e]; simp))
  | a :: p, b :: q, t, u, h1, h2, h => by
    rw [List.cons_append, List.cons_append] at h
    obtain ⟨e1, e2⟩ := List.cons.inj h
    obtain ⟨e3, e4⟩ := first_eq (fun hh => h1 (by simp [hh])) (fun hh => h2 (by simp [hh])) e2
    exact ⟨by rw [e1, e3], e4⟩
theorem cut_first {c : UInt8} {p t : List UInt8} (h : c ∉ p) : Lib.cut (p ++ c :: t) [c] = (p, t, true) := by
  rcases cut_spec c (p ++ c :: t) with ⟨_, h2⟩ | ⟨q, u, h1, h2, h3⟩
  · exact absurd (by simp) h2
  · obtain ⟨rfl, rfl⟩ := first_eq h h2 h1
    exact h3
theorem wg_step (w t : List UInt8) (hw : ∀ c ∈ w, isB c = false) (hn : w ≠ []) : wg [] (w ++ 32 :: t) = w :: wg [] t := by
  rw [wg_word hw, List.nil_append, wg_shut rfl hn]
theorem wg_last (w : List UInt8) (hw : ∀ c ∈ w, isB c = false) (hn : w ≠ []) : wg [] w = [w] := by
  have := wg_word (t := []) (cur := []) hw
  rw [List.append_nil, List.nil_append] at this
  rw [this, wg, if_neg hn]
theorem wg_end (w : List UInt8) (hw : ∀ c ∈ w, isB c = false) (hn : w ≠ []) : wg [] (w ++ [32]) = [w] := by
  rw [wg_step w [] hw hn, wg, if_pos rfl]
def joinW : List (List UInt8) → List UInt8
  | [] => []
  | [w] => w
  | w :: v :: r => w ++ 32 :: joinW (v :: r)
theorem wg_join : ∀ ws : List (List UInt8), (∀ w ∈ ws, (∀ c ∈ w, isB c = false) ∧ w ≠ []) → wg [] (joinW ws) = ws
  | [], _ => by rw [joinW, wg, if_pos rfl]
  | [w], h => wg_last w (h w (by simp)).1 (h w (by simp)).2
  | w :: v :: r, h => by rw [joinW, wg_step w _ (h w (by simp)).1 (h w (by simp)).2, wg_join (v :: r) (fun x hx => h x (by simp [hx]))]
theorem wg_joinB : ∀ ws : List (List UInt8), ws ≠ [] → (∀ w ∈ ws, (∀ c ∈ w, isB c = false) ∧ w ≠ []) → wg [] (joinW ws ++ [32]) = ws
  | [], h, _ => absurd rfl h
  | [w], _, h => wg_end w (h w (by simp)).1 (h w (by simp)).2
  | w :: v :: r, _, h => by rw [joinW, List.append_assoc, List.cons_append, wg_step w _ (h w (by simp)).1 (h w (by simp)).2, wg_joinB (v :: r) (by simp) (fun x hx => h x (by simp [hx]))]
theorem yes1 {p : Int} {ts : List ByteArray} {im : Bool} {wh : List Nat} {d i : Nat} {acc : List Dc} {x : ByteArray} {v : Int} (hx : ts.getD (wh.getD i 0) ByteArray.empty = x) (h : Val.readV (p + (i : Int)) x = ((2, v), true)) : valsV p ts im wh (d + 1) i acc = valsV p ts im wh d (i + 1) (acc ++ [(p + (i : Int), 2, v, im)]) := by
  rw [valsV, hx, h]
  rfl
theorem yes4 (ts : List ByteArray) (im : Bool) (wh : List Nat) (g : Nat → Nat) (hg : ∀ i, i < 4 → g i < 10 ∧ ts.getD (wh.getD i 0) ByteArray.empty = ba [UInt8.ofNat (48 + g i), 112, 120]) : valsV 4 ts im wh 4 0 [] = [(4, 2, 64 * (g 0 : Int), im), (5, 2, 64 * (g 1 : Int), im), (6, 2, 64 * (g 2 : Int), im), (7, 2, 64 * (g 3 : Int), im)] := by
  rw [yes1 (d := 3) (hg 0 (by omega)).2 (read_one ⟨0, by omega⟩ ⟨g 0, (hg 0 (by omega)).1⟩), yes1 (d := 2) (i := 0 + 1) (hg 1 (by omega)).2 (read_one ⟨1, by omega⟩ ⟨g 1, (hg 1 (by omega)).1⟩), yes1 (d := 1) (i := 0 + 1 + 1) (hg 2 (by omega)).2 (read_one ⟨2, by omega⟩ ⟨g 2, (hg 2 (by omega)).1⟩), yes1 (d := 0) (i := 0 + 1 + 1 + 1) (hg 3 (by omega)).2 (read_one ⟨3, by omega⟩ ⟨g 3, (hg 3 (by omega)).1⟩), valsV]
  simp
theorem short_decl (X : List UInt8) (s : Bool) (ws : List (List UInt8)) (hX : X = joinW ws) (h0 : ws ≠ []) (h4 : ws.length ≤ 4) (hw : ∀ w ∈ ws, (∀ c ∈ w, isB c = false) ∧ w ≠ []) (hl : X.map lowB = X) (hd : ∃ l, X = l ++ [120]) (hh : ∀ c, X.head? = some c → isB c = false) (hs : 59 ∉ X) :
    declsV ((⟨#[109, 97, 114, 103, 105, 110, 58]⟩ : ByteArray) ++ (ba (32 :: X)) ++ endV s) = valsV 4 (ws.map ba) s (sharedV ws.length) 4 0 [] := by
  obtain ⟨l, hl2⟩ := hd
  have hXn : X ≠ [] := by rw [hl2]; simp
  obtain ⟨E, hE⟩ : ∃ E, (endV s).data.toList = E := ⟨_, rfl⟩
  have hEc : (s = false ∧ E = []) ∨ (s = true ∧ E = 32 :: strongW) := by
    cases s with
    | false => exact .inl ⟨rfl, by rw [← hE]; rfl⟩
    | true => exact .inr ⟨rfl, by rw [← hE]; rfl⟩
  have hT : ((⟨#[109, 97, 114, 103, 105, 110, 58]⟩ : ByteArray) ++ (ba (32 :: X)) ++ endV s).data.toList = [109, 97, 114, 103, 105, 110] ++ 58 :: (32 :: (X ++ E)) := by
    rw [← hE]
    simp [ByteArray.data_append, ba_data, ba]
  have hlast : ∃ y c, X ++ E = y ++ [c] ∧ isB c = false := by
    rcases hEc with ⟨_, rfl⟩ | ⟨_, rfl⟩
    · exact ⟨l, 120, by rw [List.append_nil, hl2], rfl⟩
    · exact ⟨X ++ 32 :: [33, 105, 109, 112, 111, 114, 116, 97, 110], 116, by simp [strongW], rfl⟩
  obtain ⟨y, c, hy, hc⟩ := hlast
  have htr : trimL (X ++ E) = X ++ E := trim_tidy ⟨fun b hb => hh b (by
    cases X with
    | nil => exact absurd rfl hXn
    | cons a r => simpa using hb), fun b hb => by
    rw [hy, List.getLast?_concat] at hb
    rw [← Option.some.inj hb]
    exact hc⟩
  have h59 : 59 ∉ [109, 97, 114, 103, 105, 110] ++ (58 : UInt8) :: (32 :: (X ++ E)) := by
    have hE59 : (59 : UInt8) ∉ E := by
      rcases hEc with ⟨_, rfl⟩ | ⟨_, rfl⟩
      · simp
      · decide
    simp [hs, hE59]
  have htr2 : trimL ([109, 97, 114, 103, 105, 110] ++ 58 :: (32 :: (X ++ E))) = [109, 97, 114, 103, 105, 110] ++ 58 :: (32 :: (X ++ E)) := trim_tidy ⟨fun b hb => by
    rw [List.cons_append, List.head?_cons] at hb
    rw [← Option.some.inj hb]
    rfl, fun b hb => by
    rw [hy, show ([109, 97, 114, 103, 105, 110] ++ (58 : UInt8) :: (32 :: (y ++ [c]))) = ([109, 97, 114, 103, 105, 110] ++ (58 : UInt8) :: (32 :: y)) ++ [c] by simp, List.getLast?_concat] at hb
    rw [← Option.some.inj hb]
    exact hc⟩
  unfold declsV
  rw [hT, spl_none h59, List.flatMap_cons, List.flatMap_nil, List.append_nil]
  unfold partD
  rw [htr2]
  have hcut : Lib.cut (ba ([109, 97, 114, 103, 105, 110] ++ 58 :: (32 :: (X ++ E)))).data.toList [58] = ([109, 97, 114, 103, 105, 110], 32 :: (X ++ E), true) := by
    rw [ba_data]
    exact cut_first (by decide)
  have hpm : propsV (lowV (trimV (ba [109, 97, 114, 103, 105, 110]))) = (4, 4) := by decide +kernel
  have ht : (lowV (trimV (ba (32 :: (X ++ E))))).data.toList = X ++ E := by
    rw [lowV_data, trimV_data, ba_data, trim_cons (c := 32) rfl, htr, List.map_append, hl]
    congr 1
    rcases hEc with ⟨_, rfl⟩ | ⟨_, rfl⟩
    · rfl
    · decide
  have hsuf : Lib.hasSuffix (X ++ E) strongW = s ∧ wg [] (Lib.trimSuffix (X ++ E) strongW) = ws := by
    rcases hEc with ⟨rfl, rfl⟩ | ⟨rfl, rfl⟩
    · have hns : Lib.hasSuffix X strongW = false := by
        rw [hl2]
        exact Val.suf_last (l := l) (s := [33, 105, 109, 112, 111, 114, 116, 97, 110]) (by decide)
      rw [List.append_nil]
      refine ⟨hns, ?_⟩
      unfold Lib.trimSuffix
      rw [hns]
      rw [hX]
      exact wg_join ws hw
    · have e : X ++ 32 :: strongW = (X ++ [32]) ++ strongW := by simp
      rw [e]
      obtain ⟨q1, q2⟩ := Val.suf_app (X ++ [32]) strongW
      refine ⟨q1, ?_⟩
      rw [q2, hX]
      exact wg_joinB ws h0 hw
  unfold declV
  dsimp only
  rw [hcut]
  dsimp only
  rw [hpm, if_pos ⟨rfl, by decide⟩, ht]
  have hts : textsV (4, 4).2 (ba (Lib.trimSuffix (X ++ E) strongW)) = ws.map ba := by
    unfold textsV
    rw [if_pos rfl, wordsV_eq, ba_data, hsuf.2]
  rw [hts, hsuf.1, List.length_map, if_pos ⟨List.length_pos_iff.2 h0, h4⟩]
  rfl
end Go.Proofs.Sht
set_option linter.unusedVariables false
set_option linter.unusedSimpArgs false
namespace Go.Proofs.Sht
open Go Go.Lib Go.Proofs.Scn
def wd (d : Nat → Nat) (j : Nat) : List UInt8 := [UInt8.ofNat (48 + d j), 112, 120]
theorem wd_ok {d : Nat → Nat} {j : Nat} (h : d j < 10) : (∀ c ∈ wd d j, isB c = false) ∧ wd d j ≠ [] := by
  refine ⟨fun c hc => ?_, by simp [wd]⟩
  simp only [wd, List.mem_cons, List.not_mem_nil, or_false] at hc
  rcases hc with rfl | rfl | rfl
  · exact (dig_plain ⟨d j, h⟩).1
  · rfl
  · rfl
theorem wd_low {d : Nat → Nat} {j : Nat} (h : d j < 10) : (wd d j).map lowB = wd d j := by
  have := (dig_plain ⟨d j, h⟩).2.1
  simp only [wd, List.map_cons, List.map_nil]
  rw [this]
  rfl
theorem wd_59 {d : Nat → Nat} {j : Nat} (h : d j < 10) : (59 : UInt8) ∉ wd d j := by
  have := (dig_plain ⟨d j, h⟩).2.2
  simp only [wd, List.mem_cons, List.not_mem_nil, or_false, not_or]
  exact ⟨fun e => this e.symm, by decide, by decide⟩
theorem low_join : ∀ ws : List (List UInt8), (∀ w ∈ ws, w.map lowB = w) → (joinW ws).map lowB = joinW ws
  | [], _ => rfl
  | [w], h => h w (by simp)
  | w :: v :: r, h => by
    rw [joinW, List.map_append, List.map_cons, h w (by simp), low_join (v :: r) (fun x hx => h x (by simp [hx]))]
    rfl
theorem join_59 : ∀ ws : List (List UInt8), (∀ w ∈ ws, (59 : UInt8) ∉ w) → (59 : UInt8) ∉ joinW ws
  | [], _ => by simp [joinW]
  | [w], h => h w (by simp)
  | w :: v :: r, h => by
    rw [joinW]
    have h1 := h w (by simp)
    have h2 := join_59 (v :: r) (fun x hx => h x (by simp [hx]))
    simp [h1, h2]
theorem join_end : ∀ ws : List (List UInt8), ws ≠ [] → (∀ w ∈ ws, ∃ l, w = l ++ [120]) → ∃ l, joinW ws = l ++ [120]
  | [], h, _ => absurd rfl h
  | [w], _, h => h w (by simp)
  | w :: v :: r, _, h => by
    obtain ⟨l, e⟩ := join_end (v :: r) (by simp) (fun x hx => h x (by simp [hx]))
    exact ⟨w ++ 32 :: l, by rw [joinW, e]; simp⟩
theorem join_head (w : List UInt8) (r : List (List UInt8)) (hw : w ≠ []) (h : ∀ c ∈ w, isB c = false) : ∀ c, (joinW (w :: r)).head? = some c → isB c = false := by
  intro c hc
  cases w with
  | nil => exact absurd rfl hw
  | cons a t =>
    have : (joinW ((a :: t) :: r)).head? = some a := by
      cases r <;> rfl
    rw [this] at hc
    rw [← Option.some.inj hc]
    exact h a (by simp)
theorem short_ws (d : Nat → Nat) (hd : ∀ j, j < 4 → d j < 10) (s : Bool) (n : Nat) (hn : n < 4) (js : List Nat) (hj : ∀ j ∈ n :: js, j < 4) (hl : (n :: js).length ≤ 4) :
    declsV ((⟨#[109, 97, 114, 103, 105, 110, 58]⟩ : ByteArray) ++ (ba (32 :: joinW ((n :: js).map (wd d)))) ++ endV s) = valsV 4 (((n :: js).map (wd d)).map ba) s (sharedV (n :: js).length) 4 0 [] := by
  have hm : ∀ w ∈ (n :: js).map (wd d), ∃ j, j < 4 ∧ w = wd d j := fun w hw => by
    obtain ⟨j, h1, rfl⟩ := List.mem_map.1 hw
    exact ⟨j, hj j h1, rfl⟩
  have h := short_decl (joinW ((n :: js).map (wd d))) s ((n :: js).map (wd d)) rfl (by simp) (by rw [List.length_map]; exact hl)
    (fun w hw => by obtain ⟨j, h1, rfl⟩ := hm w hw; exact wd_ok (hd j h1))
    (low_join _ (fun w hw => by obtain ⟨j, h1, rfl⟩ := hm w hw; exact wd_low (hd j h1)))
    (join_end _ (by simp) (fun w hw => by obtain ⟨j, h1, rfl⟩ := hm w hw; exact ⟨[UInt8.ofNat (48 + d j), 112], rfl⟩))
    (by rw [List.map_cons]; exact join_head _ _ (wd_ok (hd n hn)).2 (wd_ok (hd n hn)).1)
    (join_59 _ (fun w hw => by obtain ⟨j, h1, rfl⟩ := hm w hw; exact wd_59 (hd j h1)))
  rw [List.length_map] at h
  exact h
theorem short_all (m : Nat) (hm1 : 1 ≤ m) (hm4 : m ≤ 4) (f : Nat → Int) (s : Bool) (hf : ∀ j, j < 4 → 0 ≤ f j ∧ f j ≤ 9) : declsV (shN m f 4 ++ endV s) = sidesV m f s 4 := by
  obtain ⟨d, hd⟩ : ∃ d : Nat → Nat, ∀ j, j < 4 → f j = (d j : Int) ∧ d j < 10 := ⟨fun j => (f j).toNat, fun j hj => by have := hf j hj; dsimp only; omega⟩
  have hd2 : ∀ j, j < 4 → d j < 10 := fun j hj => (hd j hj).2
  have hwd : ∀ j, j < 4 → (wordN (f j)).data.toList = wd d j := fun j hj => by rw [(hd j hj).1]; exact word_data ⟨d j, hd2 j hj⟩
  have hg : ∀ i, i < 4 → d (whN m i) < 10 := fun i _ => hd2 _ (wh_lt m i)
  have fin : sidesV m f s 4 = [(4, 2, 64 * (d (whN m 0) : Int), s), (5, 2, 64 * (d (whN m 1) : Int), s), (6, 2, 64 * (d (whN m 2) : Int), s), (7, 2, 64 * (d (whN m 3) : Int), s)] := by
    unfold sidesV
    rw [show List.range 4 = [0, 1, 2, 3] from rfl]
    simp only [List.map_cons, List.map_nil]
    rw [(hd _ (wh_lt m 0)).1, (hd _ (wh_lt m 1)).1, (hd _ (wh_lt m 2)).1, (hd _ (wh_lt m 3)).1]
    rfl
  have hm : m = 1 ∨ m = 2 ∨ m = 3 ∨ m = 4 := by omega
  have i4 : ∀ i, i < 4 → i = 0 ∨ i = 1 ∨ i = 2 ∨ i = 3 := fun i hi => by omega
  rw [fin]
  rcases hm with rfl | rfl | rfl | rfl
  · have e : shN 1 f 4 = (⟨#[109, 97, 114, 103, 105, 110, 58]⟩ : ByteArray) ++ ba (32 :: joinW ([0].map (wd d))) := ba_ext (by
      simp [shN, ByteArray.data_append, ba_data, joinW, hwd 0 (by omega)])
    rw [e, short_ws d hd2 s 0 (by omega) [] (by simp) (by simp)]
    exact yes4 _ s _ (fun i => d (whN 1 i)) (fun i hi => ⟨hg i hi, by rcases i4 i hi with rfl | rfl | rfl | rfl <;> rfl⟩)
  · have e : shN 2 f 4 = (⟨#[109, 97, 114, 103, 105, 110, 58]⟩ : ByteArray) ++ ba (32 :: joinW ([0, 1].map (wd d))) := ba_ext (by
      simp [shN, ByteArray.data_append, ba_data, joinW, hwd 0 (by omega), hwd 1 (by omega)])
    rw [e, short_ws d hd2 s 0 (by omega) [1] (by simp) (by simp)]
    exact yes4 _ s _ (fun i => d (whN 2 i)) (fun i hi => ⟨hg i hi, by rcases i4 i hi with rfl | rfl | rfl | rfl <;> rfl⟩)
  · have e : shN 3 f 4 = (⟨#[109, 97, 114, 103, 105, 110, 58]⟩ : ByteArray) ++ ba (32 :: joinW ([0, 1, 2].map (wd d))) := ba_ext (by
      simp [shN, ByteArray.data_append, ba_data, joinW, hwd 0 (by omega), hwd 1 (by omega), hwd 2 (by omega)])
    rw [e, short_ws d hd2 s 0 (by omega) [1, 2] (by simp) (by simp)]
    exact yes4 _ s _ (fun i => d (whN 3 i)) (fun i hi => ⟨hg i hi, by rcases i4 i hi with rfl | rfl | rfl | rfl <;> rfl⟩)
  · have e : shN 4 f 4 = (⟨#[109, 97, 114, 103, 105, 110, 58]⟩ : ByteArray) ++ ba (32 :: joinW ([0, 1, 2, 3].map (wd d))) := ba_ext (by
      simp [shN, ByteArray.data_append, ba_data, joinW, hwd 0 (by omega), hwd 1 (by omega), hwd 2 (by omega), hwd 3 (by omega)])
    rw [e, short_ws d hd2 s 0 (by omega) [1, 2, 3] (by simp) (by simp)]
    exact yes4 _ s _ (fun i => d (whN 4 i)) (fun i hi => ⟨hg i hi, by rcases i4 i hi with rfl | rfl | rfl | rfl <;> rfl⟩)
end Go.Proofs.Sht
set_option linter.unusedVariables false
set_option linter.unusedSimpArgs false
namespace Go.Proofs.YtolfpgccebdlpaaGreatDoor.Shp
open Go.RowKit Go.Proofs.YtolfpgccebdlpaaGreatDoor.HT Go.Proofs.YtolfpgccebdlpaaGreatDoorW.PrintWords Go.Proofs.YtolfpgccebdlpaaGreatDoorW.PrintLast Go.Proofs.Scn Go.Proofs.Sht
abbrev DCL := S111
abbrev DCR := S123
theorem w64 {n : Int} (h1 : -9223372036854775808 ≤ n) (h2 : n ≤ 9223372036854775807) : wrap64 n = n := by unfold wrap64; omega
theorem w64s (i : Nat) (h : i < 100000000) : wrap64 ((i : Int) + 1) = ((i + 1 : Nat) : Int) := by rw [w64 (by omega) (by omega)]; omega
theorem ev_eq {α : Type} {g : Nat → Option α} {a b : α} (h : Ev g a) (e : a = b) : Ev g b := e ▸ h
theorem rdOf_at {α : Type} {d : α} {l : List α} {i : Nat} (h : i < l.length) : rdOf d l (i : Int) = l[i] := by
  unfold rdOf
  rw [Int.toNat_natCast, List.getD, List.getElem?_eq_getElem h]
  rfl
theorem spl_len (c : UInt8) : ∀ l : List UInt8, (spl c l).length ≤ l.length + 1
  | [] => by simp [spl]
  | x :: t => by
    have ih := spl_len c t
    by_cases h : x = c
    · subst h; rw [spl_hit]; simp; omega
    · obtain ⟨a, r, e⟩ := spl_ne c t
      rw [spl_step h e]
      rw [e] at ih
      simp at ih ⊢
      omega
theorem spl_mem (c : UInt8) : ∀ (l : List UInt8), ∀ p ∈ spl c l, p.length ≤ l.length
  | [], p, hp => by simp [spl] at hp; rw [hp]; simp
  | x :: t, p, hp => by
    have ih := spl_mem c t
    by_cases h : x = c
    · subst h
      rw [spl_hit] at hp
      rcases List.mem_cons.1 hp with rfl | hp
      · simp
      · have := ih p hp; simp; omega
    · obtain ⟨a, r, e⟩ := spl_ne c t
      rw [spl_step h e] at hp
      rw [e] at ih
      rcases List.mem_cons.1 hp with rfl | hp
      · have := ih a (by simp); simp; omega
      · have := ih p (by simp [hp]); simp; omega
theorem valsV_len (p : Int) (ts : List ByteArray) (im : Bool) (wh : List Nat) : ∀ (d i : Nat) (acc : List Dc), (valsV p ts im wh d i acc).length ≤ acc.length + d
  | 0, _, acc => by simp [valsV]
  | d + 1, i, acc => by
    rw [valsV]
    have h := valsV_len p ts im wh d (i + 1) (acc ++ [(p + i, (Val.readV (p + i) (ts.getD (wh.getD i 0) ByteArray.empty)).1.1, (Val.readV (p + i) (ts.getD (wh.getD i 0) ByteArray.empty)).1.2, im)])
    rw [List.length_append] at h
    simp only [List.length_cons, List.length_nil] at h
    split
    · omega
    · simp
theorem declV_len (s : ByteArray) : (declV s).length ≤ 4 := by
  have hm : ∀ n, (propsV n).2.toNat ≤ 4 := fun n => by
    unfold propsV
    repeat (first | (split; exact by decide) | exact by decide | (show (1 : Int).toNat ≤ 4; decide))
  unfold declV
  dsimp only
  split
  · split
    · exact Nat.le_trans (valsV_len _ _ _ _ _ _ _) (by have := hm (lowV (trimV (ba (Lib.cut s.data.toList [58]).1))); simp; omega)
    · simp
  · simp
theorem rDecls_l (P : List ByteArray) (hP : P.length ≤ 100000) (hs : ∀ p ∈ P, p.size ≤ 30000) : ∀ (d n : Nat) (acc : List DCL), n + d = P.length → acc.length ≤ 4 * n → Ev (fun k => sheet_Decls.l0 k acc P (P.length : Int) (n : Int)) (acc ++ (P.drop n).flatMap fun p => (declV p).map sheet_decls.it)
  | 0, n, acc, h, ha => by
    obtain rfl : n = P.length := by omega
    rw [List.drop_length, List.flatMap_nil, List.append_nil]
    exact Ev.step (f := fun k => some acc) (fun k => by rw [sheet_Decls.l0, if_neg (by omega)]) (Ev.now _)
  | d + 1, n, acc, h, ha => by
    have hn : n < P.length := by omega
    rw [List.drop_eq_getElem_cons hn, List.flatMap_cons]
    have hz := hs _ (List.getElem_mem hn)
    have hl := declV_len P[n]
    refine Ev.step (f := fun k => sheet_Decls.l0 k (acc ++ (declV P[n]).map sheet_decls.it) P (P.length : Int) ((n + 1 : Nat) : Int)) (fun k => ?_) (ev_eq (rDecls_l P hP hs d (n + 1) (acc ++ (declV P[n]).map sheet_decls.it) (by omega) (by rw [List.length_append, List.length_map]; omega)) (by rw [List.append_assoc]))
    rw [sheet_Decls.l0, if_pos (by omega), if_pos (by omega), if_pos (by omega), rdOf_at hn, sheet_decls.f, if_pos (by omega), Option.bind_some, if_pos (by rw [List.length_map]; omega), w64s n (by omega)]
theorem rDecls (s : ByteArray) (hs : s.size ≤ 30000) : Ev (fun k => sheet_Decls.f k s) ((declsV s).map sheet_decls.it) := by
  have h1 := spl_len 59 s.data.toList
  rw [← Lib.size_eq] at h1
  refine Ev.congr (f := fun k => sheet_Decls.l0 k [] ((spl 59 s.data.toList).map fun l => ba (trimL l)) (((spl 59 s.data.toList).map fun l => ba (trimL l)).length : Int) ((0 : Nat) : Int)) (fun k => ?_) (ev_eq (rDecls_l _ (by rw [List.length_map]; omega) ?_ ((spl 59 s.data.toList).map fun l => ba (trimL l)).length 0 [] (Nat.zero_add _) (by simp)) ?_)
  · rw [sheet_Decls.f, scan_Split.f, if_pos (by omega), show UInt8.ofNat (59 : Int).toNat = 59 by decide, splitV_eq, Option.bind_some]
    rfl
  · intro p hp
    obtain ⟨q, hq, rfl⟩ := List.mem_map.1 hp
    have a := spl_mem 59 _ q hq
    have b := trim_len q
    rw [Lib.size_eq, ba_data]
    rw [← Lib.size_eq] at a
    omega
  · rw [List.drop_zero, List.nil_append]
    unfold declsV
    rw [List.map_flatMap, List.flatMap_map]
    rfl
def conv (x : DCL) : DCR := ⟨x.f0, ⟨x.f1.f0, x.f1.f1⟩, x.f2⟩
theorem rd_at {l : List DCL} {i : Nat} (h : i < l.length) : rd_T111 l (i : Int) = l[i] := by
  unfold rd_T111
  rw [Int.toNat_natCast, List.getD, List.getElem?_eq_getElem h]
  rfl
theorem rConv_l (P : List DCL) (hP : P.length ≤ 1000000) : ∀ (d n : Nat) (acc : List DCR), n + d = P.length → acc.length ≤ n → Ev (fun k => scrimlaw10_decls.l0 k acc P (P.length : Int) (n : Int)) (acc ++ (P.drop n).map conv)
  | 0, n, acc, h, ha => by
    obtain rfl : n = P.length := by omega
    rw [List.drop_length, List.map_nil, List.append_nil]
    exact Ev.step (f := fun k => some acc) (fun k => by rw [scrimlaw10_decls.l0, if_neg (by omega)]) (Ev.now _)
  | d + 1, n, acc, h, ha => by
    have hn : n < P.length := by omega
    rw [List.drop_eq_getElem_cons hn, List.map_cons]
    refine Ev.step (f := fun k => scrimlaw10_decls.l0 k (acc ++ [conv P[n]]) P (P.length : Int) ((n + 1 : Nat) : Int)) (fun k => ?_) (ev_eq (rConv_l P hP d (n + 1) (acc ++ [conv P[n]]) (by omega) (by rw [List.length_append]; simp; omega)) (by simp))
    rw [scrimlaw10_decls.l0, if_pos (by omega), if_pos (by omega), if_pos (by omega), rd_at hn, if_pos (by omega), w64s n (by omega)]
    rfl
theorem rConv (l : List DCL) (h : l.length ≤ 1000000) : Ev (fun k => scrimlaw10_decls.f k l) (l.map conv) := by
  refine Ev.congr (f := fun k => scrimlaw10_decls.l0 k [] l (l.length : Int) ((0 : Nat) : Int)) (fun k => rfl) (ev_eq (rConv_l l h l.length 0 [] (Nat.zero_add _) (by simp)) (by simp))
theorem rSame_l (P : List DCR) (hP : P.length ≤ 1000000) : ∀ (d n : Nat), n + d = P.length → Ev (fun k => scrimref10_SameDecls.l0 k P P (n : Int)) true
  | 0, n, h => Ev.step (f := fun k => some true) (fun k => by rw [scrimref10_SameDecls.l0, if_neg (by omega)]) (Ev.now _)
  | d + 1, n, h => by
    refine Ev.step (f := fun k => scrimref10_SameDecls.l0 k P P ((n + 1 : Nat) : Int)) (fun k => ?_) (rSame_l P hP d (n + 1) (by omega))
    rw [scrimref10_SameDecls.l0, if_pos (by omega), if_pos (by omega), if_pos (by omega), if_neg (by simp), w64s n (by omega)]
theorem rSame (P : List DCR) (hP : P.length ≤ 1000000) : Ev (fun k => scrimref10_SameDecls.f k P P) true :=
  Ev.congr (f := fun k => scrimref10_SameDecls.l0 k P P ((0 : Nat) : Int)) (fun k => by rw [scrimref10_SameDecls.f, if_pos rfl]; rfl) (rSame_l P hP P.length 0 (Nat.zero_add _))
theorem awake : Ev (fun k => scrimlaw10_awake.f k) true := Ev.of (fun k => scrimlaw10_awake.mono k) (k := 60) (by decide +kernel)
end Go.Proofs.YtolfpgccebdlpaaGreatDoor.Shp
set_option linter.unusedVariables false
set_option linter.unusedSimpArgs false
namespace Go.Proofs.YtolfpgccebdlpaaGreatDoor.Pure
open Go.RowKit Go.Proofs.YtolfpgccebdlpaaGreatDoor.HT Go.Proofs.YtolfpgccebdlpaaGreatDoorW.PrintWords Go.Proofs.YtolfpgccebdlpaaGreatDoorW.PrintLast Go.Proofs.Scn Go.Proofs.Sht Go.Proofs.YtolfpgccebdlpaaGreatDoor.Shp
theorem end_sz (s : Bool) : (endV s).size ≤ 11 := by cases s <;> decide
theorem sides_rounds (f : Nat → Int) (s : Bool) (hf : ∀ j, j < 4 → 0 ≤ f j ∧ f j ≤ 9) (m : Nat) (h1 : 1 ≤ m) (h4 : m ≤ 4) :
    ∃ K0, ∀ K, K0 ≤ K → ∃ D1 D2 E1 E2, sheet_Decls.f K (shN m f 4 ++ endV s) = some D1 ∧ sheet_Decls.f K (loN m f (endV s) 4) = some D2 ∧ scrimlaw10_decls.f K D1 = some E1 ∧ scrimlaw10_decls.f K D2 = some E2 ∧ scrimref10_SameDecls.f K E1 E2 = some true ∧ D2.length = 4 := by
  have z1 := sh_sz m f 4 hf
  have z2 := lo_sz m f (endV s) (end_sz s) hf 4
  have ze := end_sz s
  obtain ⟨k1, r1⟩ := rDecls (shN m f 4 ++ endV s) (by rw [ByteArray.size_append]; omega)
  obtain ⟨k2, r2⟩ := rDecls (loN m f (endV s) 4) (by omega)
  rw [short_all m h1 h4 f s hf] at r1
  rw [long_all m f s hf] at r2
  have hl : ((sidesV m f s 4).map sheet_decls.it).length = 4 := by unfold sidesV; simp
  obtain ⟨k3, r3⟩ := rConv ((sidesV m f s 4).map sheet_decls.it) (by rw [hl]; omega)
  obtain ⟨k4, r4⟩ := rSame (((sidesV m f s 4).map sheet_decls.it).map conv) (by rw [List.length_map, hl]; omega)
  refine ⟨k1 + k2 + k3 + k4, fun K hK => ⟨_, _, _, _, r1 K (by omega), r2 K (by omega), r3 K (by omega), r3 K (by omega), r4 K (by omega), hl⟩⟩
theorem sidesAll (n0 n1 n2 n3 many : Int) (strong : Bool) (w : World) (hE : Sht.Env w) :
    Calls Tryz.prog 7 #[.agg #[.int .i64 n0, .int .i64 n1, .int .i64 n2, .int .i64 n3], .int .i64 many, .bool strong] w fun e w' => e = .returned (.bool true) ∧ Below w.heap.size w w' := by
  obtain ⟨ka, ha⟩ := awake
  by_cases hf : ∀ j, j < 4 → 0 ≤ nv n0 n1 n2 n3 j ∧ nv n0 n1 n2 n3 j ≤ 9
  · obtain ⟨p1, q1⟩ := sides_rounds _ strong hf 1 (by omega) (by omega)
    obtain ⟨p2, q2⟩ := sides_rounds _ strong hf 2 (by omega) (by omega)
    obtain ⟨p3, q3⟩ := sides_rounds _ strong hf 3 (by omega) (by omega)
    obtain ⟨p4, q4⟩ := sides_rounds _ strong hf 4 (by omega) (by omega)
    refine Shw.sidesC n0 n1 n2 n3 many strong (ka + p1 + p2 + p3 + p4) w hE (ha _ (by omega)) (fun m h1 h4 _ => ?_)
    have hm : m = 1 ∨ m = 2 ∨ m = 3 ∨ m = 4 := by omega
    rcases hm with rfl | rfl | rfl | rfl
    · exact q1 _ (by omega)
    · exact q2 _ (by omega)
    · exact q3 _ (by omega)
    · exact q4 _ (by omega)
  · exact Shw.sidesC n0 n1 n2 n3 many strong ka w hE (ha _ (Nat.le_refl _)) (fun m h1 h4 h => absurd h hf)
end Go.Proofs.YtolfpgccebdlpaaGreatDoor.Pure
set_option linter.unusedVariables false
set_option linter.unusedSimpArgs false
namespace Go.Proofs.Val
open Go Go.RowKit
set_option maxRecDepth 100000
theorem cell_i64 {W : World} {r : Reach} {base : Nat} {u : TypeId} {v : Value} (hu : Tryz.prog.underlying u = some (.int .i64)) (h : Cell.okWide Tryz.prog W r base u v) : ∃ n, v = .int .i64 n := by
  simp only [Cell.okWide, hu] at h
  cases v <;> simp_all [Cell.ok]
theorem laid_tail {P : Program} {W : World} {x : String × DataW Unit} {rest : List (String × DataW Unit)} (h : laidMet P (x :: rest) W) : laidMet P rest W := by
  obtain ⟨ps, ⟨g, t, cs, fuel, p, q, h1, h2, h3, h4, h5, h6⟩, hn, hr⟩ := h
  subst h6
  exact ⟨q, h5, (List.nodup_append.1 hn).2.1, fun b off hm => hr b off (List.mem_append_right _ hm)⟩
theorem tbs_of {rest : List (String × DataW Unit)} {W : World} (h : laidMet Tryz.prog (("math/bits.deBruijn32tab", Go.Proofs.YtolfpgccebdlpaaGreatDoor.Rows.laid_math_bits_deBruijn32tab) :: ("math/bits.deBruijn64tab", Go.Proofs.YtolfpgccebdlpaaGreatDoor.Rows.laid_math_bits_deBruijn64tab) :: ("internal/strconv.uint64pow10", Go.Proofs.YtolfpgccebdlpaaGreatDoor.Rows.laid_internal_strconv_uint64pow10) :: rest) W.memory) : Tbs W := by
  have h2 := laid_tail h
  have h3 := laid_tail h2
  have g2 : Tryz.prog.globalNamed "math/bits.deBruijn64tab" = some 7 := by kernel_rfl
  have t2 : Lib.TabIs Tryz.prog W.memory "math/bits.deBruijn64tab" .u8 (Lib.deBruijn64tab.map fun n : Nat => (n : Int)) :=
    Lib.tabIs_of_head (zs := Lib.deBruijn64tab.map fun n : Nat => (n : Int)) g2 (t := 247) (by kernel_rfl) Tryz.underlying247 Tryz.underlying5 (by kernel_rfl) (by kernel_rfl) h2
  have t3 : Lib.TabIs Tryz.prog W.memory "internal/strconv.uint64pow10" .u64 Lib.pow10Tab :=
    Lib.tabIs_of_head (zs := Lib.pow10Tab) gn10 (t := 229) (by kernel_rfl) Tryz.underlying229 Tryz.underlying213 (by kernel_rfl) (by kernel_rfl) h3
  refine ⟨t3, ?_⟩
  have c := t2.cell g2 15 (by decide)
  exact c
variable {H : Type} {enc : TypeId × Value → H}
theorem handed_laid_X {a : Assume} {C : Checked} {os : Os} {f : FuncId} {fn : Func} {s : ChangeSpec} {conds : List PathCond} {apart fresh handsOn again : Bool} {X : World → Array Value → Prop}
    (own : ownKnob C.prog.godebug = none) (started : os.Started) (noInit : C.prog.inits.idxOf? f = none) (hfn : C.prog.funcs[f]? = some fn)
    (witness : ∃ (w : World) (tape : Tape) (i : Input), w.os = os ∧ (w.forCall tape i).Shaped C.prog ∧ i.vars = [] ∧ Input.okWide C.prog (w.forCall tape i) .any w.heap.size f i ∧
      ((s.pre enc C.prog fn conds apart (w.forCall tape i).memory i.args ∧ X (w.forCall tape i).memory i.args) ∧ sizedMet enc C.prog fn (OpenSpec.ofChange s) apart (w.forCall tape i).memory i.args) ∧ a.holds C.prog (lone (Frame.enter C.prog f i.args .normal) [] (w.forCall tape i)))
    (contract : ∀ (W : World) (base : Nat) (args : Array Value) (ds gs : List (DataW H)) (before : List MemPlace),
      X W.memory args →
      (∀ (j : Nat) t v, fn.params[j]? = some t → args[j]? = some v → Value.okWide C.prog W .any base t v) →
      DataW.Whole enc C.prog fn.params.toList s.vars apart W args.toList ds gs before →
      (DataW.weightsEach C.prog (fn.params.toList ++ s.plain.varTypes C.prog) (ds ++ gs)).all (· ≤ reachBytes) = true →
      W.ShapedOpen C.prog →
      Calls C.prog f args W fun e W' => ∃ v, e = .returned v ∧ s.post enc C.prog fn apart fresh handsOn again W args v W') :
    ReturnsInHanded a C os f .any (fun w args => (s.pre enc C.prog fn conds apart w args ∧ X w args) ∧ sizedMet enc C.prog fn (OpenSpec.ofChange s) apart w args) (s.post enc C.prog fn apart fresh handsOn again) := by
  refine returnsInHanded_of_calls own started noInit witness ?_
  intro w tape i _ hsh _ hok hpre hholds
  obtain ⟨_, _, _, fn', hfn', _, _, _, _, hval⟩ := hok
  have e : fn' = fn := Option.some.inj (hfn'.symm.trans hfn)
  subst e
  obtain ⟨⟨⟨ds, gs, before, hw, hc⟩, hx⟩, hz⟩ := hpre
  have hw' := DataW.Whole.of_heap (w' := w.forCall tape i) (by rfl) hw
  refine (contract (w.forCall tape i) w.heap.size i.args ds gs before hx hval hw' (hz.weights hw) hsh).mono fun e W' ⟨v, he, hp⟩ => ?_
  subst he
  exact ChangeSpec.post_blind hp
end Go.Proofs.Val
set_option linter.unusedVariables false
set_option linter.unusedSimpArgs false
namespace Go.Proofs.Val
open Go Go.RowKit
set_option maxRecDepth 100000
theorem arr_types : Tryz.prog.cellTypes Tryz.prog.depth 73 = some [3, 3, 3, 3] := by kernel_rfl
theorem arr_of {W : World} {r : Reach} {base : Nat} {v : Value} (h : Value.okWide Tryz.prog W r base 73 v) : ∃ a b c d, v = .agg #[.int .i64 a, .int .i64 b, .int .i64 c, .int .i64 d] := by
  simp only [Value.okWide, Tryz.underlying73] at h
  obtain ⟨cs, rfl, hsz, ts, hts, -, hc⟩ := h
  rw [arr_types] at hts
  obtain rfl := Option.some.inj hts
  have hsz : cs.size = 4 := hsz.trans (by kernel_rfl)
  have hall : ∀ i, i < 4 → ∃ n, cs[i]? = some (.int .i64 n) := fun i hi => by
    have e : cs[i]? = some cs[i] := Array.getElem?_eq_getElem (by omega)
    obtain ⟨u, hu, ho⟩ := hc i _ e
    have hu : u = 3 := by simpa using List.mem_of_getElem? hu
    obtain ⟨n, hn⟩ := cell_i64 (by subst hu; exact Tryz.underlying3) ho
    exact ⟨n, by rw [e, hn]⟩
  obtain ⟨a, ha⟩ := hall 0 (by omega)
  obtain ⟨b, hb⟩ := hall 1 (by omega)
  obtain ⟨c, hc2⟩ := hall 2 (by omega)
  obtain ⟨d, hd⟩ := hall 3 (by omega)
  refine ⟨a, b, c, d, congrArg Value.agg (Array.ext_getElem? fun i => ?_)⟩
  by_cases h0 : i = 0
  · subst h0; exact ha
  by_cases h1 : i = 1
  · subst h1; exact hb
  by_cases h2 : i = 2
  · subst h2; exact hc2
  by_cases h3 : i = 3
  · subst h3; exact hd
  rw [Array.getElem?_eq_none (by omega), Array.getElem?_eq_none (by simp; omega)]
end Go.Proofs.Val
