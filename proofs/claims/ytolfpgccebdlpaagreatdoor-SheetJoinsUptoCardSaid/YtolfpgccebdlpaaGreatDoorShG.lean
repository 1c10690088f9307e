/- How a list of rules that came in, of a bulk that is bounded, is read: how large its parts are; no condition beside those that each theorem states. -/
import Derived.Test.YtolfpgccebdlpaaGreatDoorSmg
import Derived.Test.YtolfpgccebdlpaaGreatDoorRows
import Derived.Test.YtolfpgccebdlpaaGreatDoorVaB
import Derived.WideShapes
import Derived.HandedShaped
import Derived.MakeChecks
import Derived.LaidMore
import Derived.Lib.TrailingZeros
set_option linter.unusedVariables false
set_option linter.unusedSimpArgs false
namespace Go.Proofs.Shg
open Go.Proofs.YtolfpgccebdlpaaGreatDoor Go.RowKit Go.ChangeShapes Go.WideShapes Go.Deep Go.Proofs.YtolfpgccebdlpaaGreatDoorW.PrintWords Go.Proofs.Tok Go.Proofs.Sht Go.Proofs.Shi
variable {H : Type} {enc : TypeId × Value → H} {w : World} {base : Nat} {spare : Nat → Bool} {held : Bool}
theorem all_le {d : DataW H} {l : List (DataW H)} (h : d ∈ l) : Rows.uptoBulk d ≤ Rows.uptoBulkAll l := by
  induction l with
  | nil => cases h
  | cons x r ih =>
    simp only [Rows.uptoBulkAll]
    cases List.mem_cons.1 h with
    | inl e => subst e; omega
    | inr e => have := ih e; omega
theorem one_le (d : DataW H) : 1 ≤ Rows.uptoBulk d := by
  cases d with
  | lit l => cases l <;> simp [Rows.uptoBulk]
  | nil => simp [Rows.uptoBulk]
  | ptr d => simp [Rows.uptoBulk]
  | slice elems spare => simp [Rows.uptoBulk]
  | agg parts => simp [Rows.uptoBulk]
  | iface t d => simp [Rows.uptoBulk]
  | map entries => simp [Rows.uptoBulk]
  | held h => simp [Rows.uptoBulk]
theorem len_le (l : List (DataW H)) : l.length ≤ Rows.uptoBulkAll l := by
  induction l with
  | nil => simp [Rows.uptoBulkAll]
  | cons x r ih => have := one_le x; simp only [Rows.uptoBulkAll, List.length_cons]; omega
/-- light, and small -/
def ligt (P : Program) (t : TypeId) (D : DataW H) : Prop := light P t D ∧ Rows.uptoBulk D ≤ 1048576
theorem ligt_in {P : Program} {t e : TypeId} (ht : P.underlying t = some (.slice e)) {es sp : List (DataW H)} (h : ligt P t (.slice es sp)) {D : DataW H} (hD : D ∈ es) : ligt P e D := by
  refine ⟨light_in ht h.1 hD, ?_⟩
  have h1 := all_le hD
  have h2 := h.2
  simp only [Rows.uptoBulk] at h2
  omega
/-- how many there are in a small slice that came in -/
theorem opens_small {P : Program} {t e : TypeId} (ht : P.underlying t = some (.slice e)) {fuel : Nat} {A : Option Addr} {len cap : Nat} {x : DataW H × List MemPlace} (h : DataW.trod enc P w base spare held fuel t [.slice A len cap] = some x) (hw : Rows.uptoBulk x.1 ≤ 1048576) : len ≤ 1048576 := by
  rcases open_slice ht h with ⟨hcs, _⟩ | ⟨ad, len', cap', m, n, D, Pl, hcs, _, _, _, hmm, hxx, _⟩
  · cases hcs
    exact Nat.zero_le _
  · cases hcs
    have hlm : len ≤ m := by rw [hmm]; split <;> omega
    rw [hxx] at hw
    simp only [Rows.uptoBulk] at hw
    have := len_le ((List.range len).map D)
    rw [List.length_map, List.length_range] at this
    omega
theorem open_str {n : Nat} {cs : List Value} {x : DataW H × List MemPlace} (h : DataW.trod enc Tryz.prog w base spare held n 9 cs = some x) :
    ∃ s : ByteArray, cs = [.string s] ∧ (ligt Tryz.prog 9 x.1 → s.size ≤ 1048576) := by
  obtain ⟨s, rfl, hx, _⟩ := DataW.trod_string Tryz.underlying9 h
  refine ⟨s, rfl, fun hl => ?_⟩
  rw [hx] at hl
  have := hl.2
  simp only [Rows.uptoBulk] at this
  rw [szB]
  omega
theorem open_strs {n : Nat} {cs : List Value} {x : DataW H × List MemPlace} (h : DataW.trod enc Tryz.prog w base spare held n 76 cs = some x) :
    ∃ (A : Option Addr) (cap : Nat) (l : List ByteArray), cs = [.slice A l.length cap] ∧ l.length ≤ cap ∧ Kd.string.C w A l.length l ∧ (ligt Tryz.prog 76 x.1 → l.length ≤ 1048576 ∧ ∀ s ∈ l, s.size ≤ 1048576) := by
  have h0 := h
  obtain ⟨A, cap, l, h1, h2, h3, h4⟩ := opens_in (d := Kd.string) (Wf := fun s D => ligt Tryz.prog 9 D → s.size ≤ 1048576) Tryz.underlying76 (by kernel_rfl) (fun n cs x h => by obtain ⟨s, rfl, hx⟩ := open_str h; exact ⟨s, rfl, hx⟩) h
  refine ⟨A, cap, l, h1, h2, h3, fun hl => ⟨?_, fun s hs => ?_⟩⟩
  · rw [h1] at h0
    exact opens_small Tryz.underlying76 h0 hl.2
  · obtain ⟨D, es, sp, e1, e2, e3⟩ := h4 s hs
    rw [e1] at hl
    exact e3 (ligt_in Tryz.underlying76 hl e2)
set_option maxRecDepth 100000 in
theorem open_smp {n : Nat} {cs : List Value} {x : DataW H × List MemPlace} (h : DataW.trod enc Tryz.prog w base spare held n 80 cs = some x) :
    ∃ y : Smp, kSmp.K w y cs ∧ (ligt Tryz.prog 80 x.1 → smP y ∧ fitX y) := by
  obtain ⟨y0, y1, y2, y3, y4, m, hx, hl, h0, h1, h2, h3, h4⟩ := trod_struct5 Tryz.underlying80 h
  have hl5 : cs.length = 5 := hl.trans (by kernel_rfl)
  have c9 : Tryz.prog.cellsOf 9 = 1 := by kernel_rfl
  have c42 : Tryz.prog.cellsOf 76 = 1 := by kernel_rfl
  have c4 : Tryz.prog.cellsOf 4 = 1 := by kernel_rfl
  match cs, hl5 with
  | [a, b, c, d, e], _ =>
    obtain ⟨s0, g0, e0⟩ := open_str h0
    obtain ⟨A1, p1, l1, g1, q1, C1, z1⟩ := open_strs h1
    obtain ⟨A2, p2, l2, g2, q2, C2, z2⟩ := open_strs h2
    obtain ⟨b3, g3, _⟩ := DataW.trod_bool Tryz.underlying4 h3
    obtain ⟨b4, g4, _⟩ := DataW.trod_bool Tryz.underlying4 h4
    simp [c9] at g0
    simp [c42] at g1 g2
    simp [c4] at g3 g4
    subst g0; subst g1; subst g2; subst g3; subst g4
    refine ⟨(s0, l1, l2, b3, b4), ⟨_, _, rfl, rfl, ⟨_, _, rfl, ⟨A1, p1, rfl, q1, C1⟩, ⟨_, _, rfl, ⟨A2, p2, rfl, q2, C2⟩, ⟨_, _, rfl, rfl, rfl⟩⟩⟩⟩, fun hli => ?_⟩
    rw [hx] at hli
    have key : ligt Tryz.prog 9 y0.1 ∧ ligt Tryz.prog 76 y1.1 ∧ ligt Tryz.prog 76 y2.1 := by
      obtain ⟨hl1, hl2⟩ := hli
      simp only [Rows.uptoBulk, Rows.uptoBulkAll] at hl2
      refine ⟨⟨fun n hn => hl1 n ?_, by omega⟩, ⟨fun n hn => hl1 n ?_, by omega⟩, ⟨fun n hn => hl1 n ?_, by omega⟩⟩ <;> rw [DataW.weights, Tryz.underlying80] <;> simp only [DataW.weightsEach, List.map_cons, List.mem_append]
      · exact Or.inl hn
      · exact Or.inr (Or.inl hn)
      · exact Or.inr (Or.inr (Or.inl hn))
    have k0 := e0 key.1
    obtain ⟨k1, k2⟩ := z1 key.2.1
    obtain ⟨k3, k4⟩ := z2 key.2.2
    refine ⟨⟨by show s0.size ≤ _; omega, ⟨by show l1.length ≤ _; omega, fun s hs => by have := k2 s hs; omega⟩, by show l2.length ≤ _; omega, fun s hs => by have := k4 s hs; omega⟩, ⟨by show (l1.length + l2.length) * 16 ≤ _; omega, by show s0.size < _; omega, fun s hs => ?_⟩⟩
    rcases List.mem_append.1 hs with hs | hs
    · have := k2 s hs; omega
    · have := k4 s hs; omega
/-- two slices, one behind the other, in a struct -/
theorem open_two {P : Program} {α β : Type} [Inhabited α] [Inhabited β] {d1 : Kd α} {d2 : Kd β} {W1 : α → Prop} {W2 : β → Prop} {t ta tb ea eb : TypeId} {f0 f1 : Field} (ht : P.underlying t = some (.struct #[f0, f1])) (hfa : f0.type = ta) (hfb : f1.type = tb) (o0 : f0.offset = 0) (o1 : f1.offset = 1) (hsz : P.cellsOf t = 2) (h1 : P.underlying ta = some (.slice ea)) (h2 : P.underlying tb = some (.slice eb)) (s1 : P.cellsOf ta = 1) (s2 : P.cellsOf tb = 1) (z1 : P.cellsOf ea = d1.sz) (z2 : P.cellsOf eb = d2.sz) {Ba Bb : Nat} (b1 : P.bytesOf ea = Ba) (b2 : P.bytesOf eb = Bb)
    (p1 : ∀ n cs (x : DataW H × List MemPlace), DataW.trod enc P w base spare held n ea cs = some x → ∃ y, d1.K w y cs ∧ (ligt P ea x.1 → W1 y))
    (p2 : ∀ n cs (x : DataW H × List MemPlace), DataW.trod enc P w base spare held n eb cs = some x → ∃ y, d2.K w y cs ∧ (ligt P eb x.1 → W2 y))
    {n : Nat} {cs : List Value} {x : DataW H × List MemPlace} (h : DataW.trod enc P w base spare held n t cs = some x) :
    ∃ y : List α × List β, (Kd.pair (Kd.slice ea d1) (Kd.slice eb d2)).K w y cs ∧ (ligt P t x.1 → (y.1.length * Ba ≤ 140737488351232 ∧ y.2.length * Bb ≤ 140737488351232) ∧ (∀ a ∈ y.1, W1 a) ∧ ∀ b ∈ y.2, W2 b) := by
  obtain ⟨y0, y1, m, hx0, hl, g0, g1⟩ := trod_struct2 ht h
  have hx : x.1 = .agg [y0.1, y1.1] := by rw [hx0]
  have hl2 : cs.length = 2 := hl.trans hsz
  subst hfa; subst hfb
  match cs, hl2 with
  | [a, b], _ =>
    have g00 := g0
    have g11 := g1
    obtain ⟨A0, q0, l0, e0, c0, C0, w0⟩ := opens_in (Wf := fun y D => ligt P ea D → W1 y) h1 z1 p1 g0
    obtain ⟨A1, q1, l1, e1, c1, C1, w1⟩ := opens_in (Wf := fun y D => ligt P eb D → W2 y) h2 z2 p2 g1
    rw [e0] at g00
    rw [e1] at g11
    simp [s1, o0] at e0
    simp [s2, o1] at e1
    subst e0; subst e1
    refine ⟨(l0, l1), ⟨[_], [_], rfl, ⟨A0, q0, rfl, c0, C0⟩, ⟨A1, q1, rfl, c1, C1⟩⟩, fun hli => ?_⟩
    have key : (ligt P f0.type y0.1) ∧ ligt P f1.type y1.1 := by
      have hb := hli.2
      rw [hx] at hb
      simp only [Rows.uptoBulk, Rows.uptoBulkAll] at hb
      refine ⟨⟨?_, by omega⟩, ⟨?_, by omega⟩⟩
      · intro n hn
        refine hli.1 n ?_
        rw [hx, DataW.weights, ht]
        simp only [DataW.weightsEach, List.map_cons, List.mem_append]
        exact Or.inl hn
      · intro n hn
        refine hli.1 n ?_
        rw [hx, DataW.weights, ht]
        simp only [DataW.weightsEach, List.map_cons, List.mem_append]
        exact Or.inr (Or.inl hn)
    refine ⟨⟨?_, ?_⟩, fun a ha => ?_, fun b hb => ?_⟩
    · have := opens_len h1 g00 key.1.1
      rw [b1] at this
      exact this
    · have := opens_len h2 g11 key.2.1
      rw [b2] at this
      exact this
    · obtain ⟨D, es, sp, e1, e2, e3⟩ := w0 a ha
      have := key.1
      rw [e1] at this
      exact e3 (ligt_in h1 this e2)
    · obtain ⟨D, es, sp, e1, e2, e3⟩ := w1 b hb
      have := key.2
      rw [e1] at this
      exact e3 (ligt_in h2 this e2)
theorem open_bool1 {n : Nat} {cs : List Value} {x : DataW H × List MemPlace} (h : DataW.trod enc Tryz.prog w base spare held n 4 cs = some x) : ∃ y : Bool, Kd.bool.K w y cs ∧ (ligt Tryz.prog 4 x.1 → True) := by
  obtain ⟨s, rfl, _⟩ := DataW.trod_bool Tryz.underlying4 h
  exact ⟨s, rfl, fun _ => trivial⟩
set_option maxRecDepth 100000 in
theorem open_sel {n : Nat} {cs : List Value} {x : DataW H × List MemPlace} (h : DataW.trod enc Tryz.prog w base spare held n 25 cs = some x) :
    ∃ y : Sel, kSel.K w y cs ∧ (ligt Tryz.prog 25 x.1 → (y.1.length ≤ 1954687338211 ∧ smS y) ∧ fitS y) := by
  obtain ⟨y, hK, hW⟩ := open_two (d1 := kSmp) (d2 := Kd.bool) (W1 := fun y => smP y ∧ fitX y) (W2 := fun _ => True) Tryz.underlying25 rfl rfl rfl rfl (by kernel_rfl) Tryz.underlying22 Tryz.underlying23 (by kernel_rfl) (by kernel_rfl) (by kernel_rfl) (by kernel_rfl) (Ba := 72) (Bb := 1) (by kernel_rfl) (by kernel_rfl) (fun n cs x h => open_smp h) (fun n cs x h => open_bool1 h) h
  refine ⟨y, hK, fun hl => ?_⟩
  obtain ⟨⟨a, b⟩, c, _⟩ := hW hl
  exact ⟨⟨by omega, by omega, by omega, fun p hp => (c p hp).1⟩, by omega, by omega, fun p hp => (c p hp).2⟩
set_option maxRecDepth 100000 in
theorem open_dc {n : Nat} {cs : List Value} {x : DataW H × List MemPlace} (h : DataW.trod enc Tryz.prog w base spare held n 111 cs = some x) :
    ∃ y : Dc, kDc.K w y cs ∧ (ligt Tryz.prog 111 x.1 → True) := by
  obtain ⟨y0, y1, y2, m, hx, hl, h0, h1, h2⟩ := trod_struct3 Tryz.underlying111 h
  have hl4 : cs.length = 4 := hl.trans (by kernel_rfl)
  have c2 : Tryz.prog.cellsOf 3 = 1 := by kernel_rfl
  have c4 : Tryz.prog.cellsOf 4 = 1 := by kernel_rfl
  have c5 : Tryz.prog.cellsOf 109 = 2 := by kernel_rfl
  have c6 : Tryz.prog.cellsOf 2 = 1 := by kernel_rfl
  match cs, hl4 with
  | [a, b, c, d], _ =>
    obtain ⟨z0, z1, m2, hx1, hl1, k0, k1⟩ := trod_struct2 Tryz.underlying109 h1
    obtain ⟨n0, g0, _, _⟩ := DataW.trod_int Tryz.underlying3 h0
    obtain ⟨n1, g1, _, _⟩ := DataW.trod_int Tryz.underlying3 k0
    obtain ⟨n2, g2, _, _⟩ := DataW.trod_int Tryz.underlying2 k1
    obtain ⟨b3, g3, _⟩ := DataW.trod_bool Tryz.underlying4 h2
    simp [c2] at g0
    simp [c2, c5] at g1
    simp [c5, c6] at g2
    simp [c4] at g3
    subst g0; subst g1; subst g2; subst g3
    exact ⟨(n0, n1, n2, b3), ⟨_, _, rfl, rfl, ⟨_, _, rfl, rfl, ⟨_, _, rfl, rfl, rfl⟩⟩⟩, fun _ => trivial⟩
set_option maxRecDepth 100000 in
theorem open_rl {n : Nat} {cs : List Value} {x : DataW H × List MemPlace} (h : DataW.trod enc Tryz.prog w base spare held n 115 cs = some x) :
    ∃ y : Rl, kRl.K w y cs ∧ (ligt Tryz.prog 115 x.1 → okIn y ∧ fitR y) := by
  obtain ⟨y, hK, hW⟩ := open_two (d1 := kSel) (d2 := kDc) (W1 := fun s => (s.1.length ≤ 1954687338211 ∧ smS s) ∧ fitS s) (W2 := fun _ => True) Tryz.underlying115 rfl rfl rfl rfl (by kernel_rfl) Tryz.underlying36 Tryz.underlying63 (by kernel_rfl) (by kernel_rfl) (by kernel_rfl) (by kernel_rfl) (Ba := 48) (Bb := 32) (by kernel_rfl) (by kernel_rfl) (fun n cs x h => open_sel h) (fun n cs x h => open_dc h) h
  refine ⟨y, hK, fun hl => ?_⟩
  obtain ⟨⟨a, b⟩, c, _⟩ := hW hl
  exact ⟨⟨by omega, by omega, fun s hs => (c s hs).1⟩, by omega, by omega, fun s hs => (c s hs).2⟩
set_option maxRecDepth 100000 in
theorem argRules {A : Option Addr} {len cap : Nat} {dd : DataW H} {ps : List MemPlace} (h : DataW.Trod enc Tryz.prog w base spare held 50 (.slice A len cap) dd ps) :
    ∃ (l : List Rl), len = l.length ∧ l.length ≤ cap ∧ kRl.C w A l.length l ∧ (ligt Tryz.prog 50 dd → l.length ≤ 1048576 ∧ ∀ x ∈ l, okIn x ∧ fitR x) := by
  have h0 := h
  obtain ⟨l, hl, hc, hC, hw⟩ := Go.Proofs.Scn.opens_slice_in (d := kRl) (Wf := fun y D => ligt Tryz.prog 115 D → okIn y ∧ fitR y) Tryz.underlying50 (by kernel_rfl) (fun n cs x h => open_rl h) h
  refine ⟨l, hl.symm, by omega, hC, fun hli => ⟨?_, fun x hx => ?_⟩⟩
  · obtain ⟨fuel, hf⟩ := h0
    rw [hl]
    exact opens_small Tryz.underlying50 (x := (dd, ps)) (by simpa [Value.cells] using hf) hli.2
  · obtain ⟨D, es, sp, rfl, e2, e3⟩ := hw x hx
    exact e3 (ligt_in Tryz.underlying50 hli e2)
end Go.Proofs.Shg
set_option linter.unusedVariables false
set_option linter.unusedSimpArgs false
namespace Go.Proofs.Val
open Go Go.RowKit
set_option maxRecDepth 100000
theorem laid_tail {P : Program} {W : World} {x : String × DataW Unit} {rest : List (String × DataW Unit)} (h : laidMet P (x :: rest) W) : laidMet P rest W := by
  obtain ⟨ps, ⟨g, t, cs, fuel, p, q, h1, h2, h3, h4, h5, h6⟩, hn, hr⟩ := h
  subst h6
  exact ⟨q, h5, (List.nodup_append.1 hn).2.1, fun b off hm => hr b off (List.mem_append_right _ hm)⟩
theorem tbs_of {rest : List (String × DataW Unit)} {W : World} (h : laidMet Tryz.prog (("math/bits.deBruijn32tab", Go.Proofs.YtolfpgccebdlpaaGreatDoor.Rows.laid_math_bits_deBruijn32tab) :: ("math/bits.deBruijn64tab", Go.Proofs.YtolfpgccebdlpaaGreatDoor.Rows.laid_math_bits_deBruijn64tab) :: ("internal/strconv.uint64pow10", Go.Proofs.YtolfpgccebdlpaaGreatDoor.Rows.laid_internal_strconv_uint64pow10) :: rest) W.memory) : Tbs W := by
  have h2 := laid_tail h
  have h3 := laid_tail h2
  have g2 : Tryz.prog.globalNamed "math/bits.deBruijn64tab" = some 7 := by kernel_rfl
  have t2 : Lib.TabIs Tryz.prog W.memory "math/bits.deBruijn64tab" .u8 (Lib.deBruijn64tab.map fun n : Nat => (n : Int)) :=
    Lib.tabIs_of_head (zs := Lib.deBruijn64tab.map fun n : Nat => (n : Int)) g2 (t := 247) (by kernel_rfl) Tryz.underlying247 Tryz.underlying5 (by kernel_rfl) (by kernel_rfl) h2
  have t3 : Lib.TabIs Tryz.prog W.memory "internal/strconv.uint64pow10" .u64 Lib.pow10Tab :=
    Lib.tabIs_of_head (zs := Lib.pow10Tab) gn10 (t := 229) (by kernel_rfl) Tryz.underlying229 Tryz.underlying213 (by kernel_rfl) (by kernel_rfl) h3
  refine ⟨t3, ?_⟩
  have c := t2.cell g2 15 (by decide)
  exact c
variable {H : Type} {enc : TypeId × Value → H}
end Go.Proofs.Val
