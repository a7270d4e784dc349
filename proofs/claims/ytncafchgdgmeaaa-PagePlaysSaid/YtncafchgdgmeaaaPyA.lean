/-
  The law PagePlays: its steps as an argument, opened. No condition.
-/
import Derived.Test.YtncafchgdgmeaaaSpn
import Derived.Test.YtncafchgdgmeaaaRfH
import Derived.ChangeSlices
namespace Go.Proofs.Ytncafchgdgmeaaa
open Go Go.RowKit Go.WideShapes Go.ChangeShapes
set_option linter.unusedVariables false
set_option linter.unusedSimpArgs false

/-- A slice of bytes that reads as l; one without bytes may be any. -/
def ByS0 (w : World) (v : Value) (l : List Int) (g : Nat) : Prop := (∃ a c, v = .slice a 0 c ∧ l = []) ∨ (l ≠ [] ∧ g < w.heap.size ∧ BySl w v l g)

theorem ByS0.keep {w w' : World} {v : Value} {l : List Int} {g : Nat} (h : ByS0 w v l g) (u : Upd [] w w') : ByS0 w' v l g := by
  rcases h with h | ⟨h0, h1, h2⟩
  · exact .inl h
  · exact .inr ⟨h0, Nat.lt_of_lt_of_le h1 u.size, h2.keep u (by simp)⟩

theorem lt_of_cell {w : World} {b o : Nat} {s : Option Nat} {v : Value} (h : w.cell? ⟨b, o, s⟩ = some v) : s = none ∧ ∃ c t f, w.heap[b]? = some (.cells c t f) := by
  unfold World.cell? at h
  split at h
  · rename_i c t f hh
    cases s with
    | none => exact ⟨rfl, c, t, f, hh⟩
    | some k => simp at h
  · cases h

theorem wf8 {z : Int} (h : (Lit.int .u8 z).wf = true) : 0 ≤ z ∧ z ≤ 255 := by
  simp only [Lit.wf, Bool.and_eq_true, decide_eq_true_eq] at h
  have h1 : IntKind.u8.min = 0 := by decide
  have h2 : IntKind.u8.max = 255 := by decide
  omega

set_option maxRecDepth 100000 in
/-- Bytes in a cell of another row. -/
theorem bytes_of_cell {H : Type} {enc : TypeId × Value → H} {w : World} {base fuel : Nat} {spare : Nat → Bool} {held : Bool} {cs : List Value} {x : DataW H × List MemPlace}
    (h : DataW.trod enc Try.prog w base spare held fuel 43 cs = some x) : ∃ v L g, cs = [v] ∧ ByS0 w v L g ∧ (∀ i, 0 ≤ L.getD i 0 ∧ L.getD i 0 ≤ 255) ∧ L.length ≤ maxLen ∧ (∃ b c, v = .slice b L.length c) := by
  rcases open_ints (k := .u8) Try.underlying43 Try.underlying5 (by kernel_rfl) h with ⟨hcs, _⟩ | ⟨⟨ab, ao, sp⟩, len, cap, zs, hcs, _, hl, hm, hz, _, hcell, hwz⟩
  · exact ⟨_, [], 0, hcs, .inl ⟨_, _, rfl, rfl⟩, by simp, by simp, ⟨_, _, rfl⟩⟩
  · have hzl : len ≤ zs.length := by rw [hz]; split <;> omega
    by_cases h0 : len = 0
    · subst h0
      exact ⟨_, [], 0, hcs, .inl ⟨_, _, rfl, rfl⟩, by simp, by simp, ⟨_, _, rfl⟩⟩
    · have hc0 := hcell 0 (by omega)
      rw [show (⟨ab, ao, sp⟩ : Addr).add 0 = ⟨ab, ao, sp⟩ from rfl] at hc0
      obtain ⟨rfl, C, T, f, hb⟩ := lt_of_cell hc0
      have hlen : (zs.take len).length = len := by rw [List.length_take]; omega
      refine ⟨_, zs.take len, ab, hcs, .inr ⟨?_, lt_of_heap hb, .inr ⟨ao, cap, C, T, f, by rw [hlen], hb, fun i hi => ?_⟩⟩, fun i => ?_, by omega, ⟨_, _, by rw [hlen]⟩⟩
      · intro e; rw [e] at hlen; simp at hlen; omega
      · rw [hlen] at hi
        have hc := hcell i (by omega)
        rw [Addr.add_lit, cells_of hb] at hc
        rw [hc, List.getD_eq_getElem?_getD, List.getD_eq_getElem?_getD, List.getElem?_take, if_pos hi]
      · rw [List.getD_eq_getElem?_getD, List.getElem?_take]
        split
        · by_cases hi : i < zs.length
          · rw [List.getElem?_eq_getElem hi, Option.getD_some]; exact wf8 (hwz _ (List.getElem_mem hi))
          · rw [List.getElem?_eq_none (by omega)]; simp
        · simp

set_option maxRecDepth 100000 in
/-- Spans in a cell of another row. -/
theorem spans_of_cell {H : Type} {enc : TypeId × Value → H} {w : World} {base fuel : Nat} {spare : Nat → Bool} {held : Bool} {cs : List Value} {x : DataW H × List MemPlace}
    (hf : DataW.trod enc Try.prog w base spare held fuel 42 cs = some x) : ∃ v L g, cs = [v] ∧ SArg w v L g := by
  rcases DataW.trod_slice Try.underlying42 hf with ⟨hcs, hx⟩ | ⟨⟨ab, ao, sp⟩, len, cap, elems, rest, n, _, hcs, _, _, hl, hm, hel, he, _, _⟩
  · exact ⟨_, [], 0, hcs, .inl ⟨_, _, rfl, rfl⟩, by simp, by simp, Nat.zero_le _, fun b n c e => by injection e with _ e _; exact e.symm⟩
  · have hc4 : Try.prog.cellsOf 41 = 4 := by kernel_rfl
    by_cases h0 : len = 0
    · subst h0
      exact ⟨_, [], 0, hcs, .inl ⟨_, _, rfl, rfl⟩, by simp, by simp, Nat.zero_le _, fun b n c e => by injection e with _ e _; exact e.symm⟩
    · have hsp : sp = none ∧ ab < w.heap.size := by
        have h := he 0 (by omega)
        obtain ⟨y, hy⟩ : ∃ y, elems[0]? = some y := ⟨_, List.getElem?_eq_getElem (by omega)⟩
        rw [hy, hc4, Option.bind_eq_some_iff] at h
        obtain ⟨cs', hcs', _⟩ := h
        have hb := World.cells?_block hcs' (by decide)
        have hl2 := (World.cells?_some hcs').2.1
        have hc := (World.cells?_some hcs').2.2 0 (by decide)
        rw [show ((⟨ab, ao, sp⟩ : Addr).add (0 * 4)).add 0 = ⟨ab, ao, sp⟩ from rfl, List.getElem?_eq_getElem (by omega)] at hc
        exact ⟨(lt_of_cell hc).1, hb⟩
      obtain ⟨rfl, hlt⟩ := hsp
      have each : ∀ i, i < len → w.cell? ⟨ab, ao + i * 4, none⟩ = some (.int .i64 (spanAt w ab (ao + i * 4)).pg) ∧ w.cell? ⟨ab, ao + i * 4 + 1, none⟩ = some (.int .i64 (spanAt w ab (ao + i * 4)).ct) ∧ w.cell? ⟨ab, ao + i * 4 + 2, none⟩ = some (.int .i64 (spanAt w ab (ao + i * 4)).rt) ∧ w.cell? ⟨ab, ao + i * 4 + 3, none⟩ = some (.string (spanAt w ab (ao + i * 4)).by_) ∧ (spanAt w ab (ao + i * 4)).Ok ∧ ab < w.heap.size := fun i hi => by
        have h := he i hi
        obtain ⟨y, hy⟩ : ∃ y, elems[i]? = some y := ⟨_, List.getElem?_eq_getElem (by omega)⟩
        rw [hy, Addr.add_lit] at h
        have h2 := span_cells h
        rw [hc4] at h2
        exact h2
      have hl2 : ((List.range len).map fun i => spanAt w ab (ao + i * 4)).length = len := by simp
      refine ⟨_, (List.range len).map fun i => spanAt w ab (ao + i * 4), ab, hcs, .inr ⟨ao, cap, by rw [hl2], hlt, by rw [hl2]; unfold maxLen at hm; omega, fun i s hs => ?_⟩, fun s hs => ?_, by rw [hl2]; omega, Nat.le_of_lt hlt, fun b n c e => by injection e with _ e _; rw [hl2]; exact e.symm⟩
      · have hi : i < len := by
          have := (List.getElem?_eq_some_iff.1 hs).1
          rwa [hl2] at this
        rw [List.getElem?_map, List.getElem?_range hi] at hs
        simp only [Option.map_some, Option.some.injEq] at hs
        subst hs
        have h := each i hi
        exact ⟨h.1, h.2.1, h.2.2.1, h.2.2.2.1⟩
      · obtain ⟨i, hi, rfl⟩ := List.mem_map.1 hs
        have h := each i (List.mem_range.1 hi)
        exact h.2.2.2.2.1

/-- A step of the law PagePlays. -/
structure StepV where
  wt : Int
  pg : Int
  ct : Int
  rt : Int
  nb : Int
  at_ : Int
  v : Int
  vb : Value
  vs : Value
  B : List Int
  S : List SpanV
  gb : Nat
  gs : Nat

def StepV.cells (s : StepV) : Array Value := #[.int .i64 s.wt, .int .i64 s.pg, .int .i64 s.ct, .int .i64 s.rt, .int .i64 s.nb, .int .u32 s.at_, .int .u32 s.v, s.vb, s.vs]

structure StepV.Good (q : StepV) (w : World) : Prop where
  pg : -9223372036854775808 ≤ q.pg ∧ q.pg ≤ 9223372036854775807
  ct : -9223372036854775808 ≤ q.ct ∧ q.ct ≤ 9223372036854775807
  nb : -9223372036854775808 ≤ q.nb ∧ q.nb ≤ 9223372036854775807
  at_ : 0 ≤ q.at_ ∧ q.at_ < 4294967296
  v : 0 ≤ q.v ∧ q.v < 4294967296
  b : ByS0 w q.vb q.B q.gb
  bl : ∀ i, 0 ≤ q.B.getD i 0 ∧ q.B.getD i 0 ≤ 255
  bn : q.B.length ≤ maxLen
  bf : ∃ b c, q.vb = .slice b q.B.length c
  sa : SArg w q.vs q.S q.gs
  sf : ∃ b c, q.vs = .slice b q.S.length c

theorem StepV.Good.keep {s : StepV} {w w' : World} (h : s.Good w) (u : Upd [] w w') : s.Good w' := ⟨h.pg, h.ct, h.nb, h.at_, h.v, h.b.keep u, h.bl, h.bn, h.bf, h.sa.keep u, h.sf⟩

theorem wf32 {z : Int} (h : (Lit.int .u32 z).wf = true) : 0 ≤ z ∧ z < 4294967296 := by
  simp only [Lit.wf, Bool.and_eq_true, decide_eq_true_eq] at h
  have h1 : IntKind.u32.min = 0 := by decide
  have h2 : IntKind.u32.max = 4294967295 := by decide
  omega

set_option maxRecDepth 100000 in
theorem step_cells {H : Type} {enc : TypeId × Value → H} {w : World} {base : Nat} {spare : Nat → Bool} {held : Bool} {n : Nat} {g o : Nat} {y : DataW H × List MemPlace}
    (h : (w.cells? base ⟨g, o, none⟩ (Try.prog.cellsOf 54)).bind (DataW.trod enc Try.prog w base spare held n 54) = some y) :
    ∃ s : StepV, s.Good w ∧ (∀ j, j < 9 → w.cell? ⟨g, o + j, none⟩ = s.cells[j]?) ∧ g < w.heap.size := by
  rw [show Try.prog.cellsOf 54 = 9 by kernel_rfl, Option.bind_eq_some_iff] at h
  obtain ⟨cs, hcs, hy⟩ := h
  have hb := World.cells?_block hcs (by decide)
  obtain ⟨_, hl, hc⟩ := World.cells?_some hcs
  have cc : ∀ j, j < 9 → w.cell? ⟨g, o + j, none⟩ = cs[j]? := by
    intro j hj
    have := hc j hj
    rw [Addr.add_lit] at this
    exact this
  have c : ∀ j, j < 9 → ∀ lf, leafAt Try.prog 8 54 j = some lf → ∃ x, cs[j]? = some x ∧ LeafOk lf x := fun j hj lf hlf => leafAt_ok 8 _ _ _ _ j lf hy hlf
  obtain ⟨x0, h0, z0, rfl, w0⟩ := c 0 (by decide) (.int .i64) (by kernel_rfl)
  obtain ⟨x1, h1, z1, rfl, w1⟩ := c 1 (by decide) (.int .i64) (by kernel_rfl)
  obtain ⟨x2, h2, z2, rfl, w2⟩ := c 2 (by decide) (.int .i64) (by kernel_rfl)
  obtain ⟨x3, h3, z3, rfl, w3⟩ := c 3 (by decide) (.int .i64) (by kernel_rfl)
  obtain ⟨x4, h4, z4, rfl, w4⟩ := c 4 (by decide) (.int .i64) (by kernel_rfl)
  obtain ⟨x5, h5, z5, rfl, w5⟩ := c 5 (by decide) (.int .u32) (by kernel_rfl)
  obtain ⟨x6, h6, z6, rfl, w6⟩ := c 6 (by decide) (.int .u32) (by kernel_rfl)
  obtain ⟨xs, k, _, _, _, hxl, hi⟩ := DataW.trod_struct Try.underlying54 hy
  have hf := hi 7 _ rfl
  have hg := hi 8 _ rfl
  obtain ⟨y7, hy7⟩ : ∃ y, xs[7]? = some y := ⟨_, List.getElem?_eq_getElem (by rw [hxl]; decide)⟩
  obtain ⟨y8, hy8⟩ : ∃ y, xs[8]? = some y := ⟨_, List.getElem?_eq_getElem (by rw [hxl]; decide)⟩
  rw [hy7] at hf
  rw [hy8] at hg
  obtain ⟨vb, B, gb, e7, b1, b2, b3, b4⟩ := bytes_of_cell hf
  obtain ⟨vs, S, gs, e8, s1⟩ := spans_of_cell hg
  have g7 : cs[7]? = some vb := by
    have := congrArg (·[0]?) e7
    simpa [show Try.prog.cellsOf 43 = 1 by kernel_rfl] using this
  have g8 : cs[8]? = some vs := by
    have := congrArg (·[0]?) e8
    simpa [show Try.prog.cellsOf 42 = 1 by kernel_rfl] using this
  have hsf : ∃ b c, vs = .slice b S.length c := by
    rcases s1.sp with ⟨a, c, hv, hS⟩ | ⟨o', c, hv, _⟩
    · exact ⟨a, c, by rw [hv, hS]; rfl⟩
    · exact ⟨_, c, hv⟩
  refine ⟨⟨z0, z1, z2, z3, z4, z5, z6, vb, vs, B, S, gb, gs⟩, ⟨wf_i64 w1, wf_i64 w2, wf_i64 w4, wf32 w5, wf32 w6, b1, b2, b3, b4, s1, hsf⟩, fun j hj => ?_, hb⟩
  rw [cc j hj]
  have hj' : j = 0 ∨ j = 1 ∨ j = 2 ∨ j = 3 ∨ j = 4 ∨ j = 5 ∨ j = 6 ∨ j = 7 ∨ j = 8 := by omega
  rcases hj' with rfl | rfl | rfl | rfl | rfl | rfl | rfl | rfl | rfl <;> assumption

/-- The steps of the law, in a row. -/
structure Plays (w : World) (v : Value) (f : Nat → StepV) (n : Nat) : Prop where
  form : (∃ a c, v = .slice a 0 c ∧ n = 0) ∨ ∃ g o c, v = .slice (some ⟨g, o, none⟩) n c ∧ g < w.heap.size ∧ ∀ i, i < n → ∀ j, j < 9 → w.cell? ⟨g, o + i * 9 + j, none⟩ = (f i).cells[j]?
  good : ∀ i, i < n → (f i).Good w
  len : n ≤ maxLen

set_option maxRecDepth 100000 in
theorem open_plays {H : Type} {enc : TypeId × Value → H} {w : World} {t : TypeId} (ht : Try.prog.underlying t = some (.slice 54)) {b0 : Nat} {v : Value} {d : DataW H} {p : List MemPlace}
    (hval : Value.okWide Try.prog w .any b0 t v) (h : DataW.Trod enc Try.prog w 0 (fun _ => true) true t v d p) : ∃ f n, Plays w v f n := by
  obtain ⟨fuel, hf⟩ := h
  obtain ⟨a1, len, cap, rfl⟩ := okWide_slice ht hval
  rcases DataW.trod_slice ht hf with ⟨hcs, hx⟩ | ⟨⟨ab, ao, sp⟩, len', cap', elems, rest, n, _, hcs, _, _, hl, hm, hel, he, _, _⟩
  · simp [Value.cells] at hcs
    obtain ⟨rfl, rfl, rfl⟩ := hcs
    exact ⟨fun _ => ⟨0, 0, 0, 0, 0, 0, 0, undef, undef, [], [], 0, 0⟩, 0, .inl ⟨_, _, rfl, rfl⟩, by omega, by unfold maxLen; decide⟩
  · simp [Value.cells] at hcs
    obtain ⟨rfl, rfl, rfl⟩ := hcs
    have hc9 : Try.prog.cellsOf 54 = 9 := by kernel_rfl
    by_cases h0 : len = 0
    · subst h0
      exact ⟨fun _ => ⟨0, 0, 0, 0, 0, 0, 0, undef, undef, [], [], 0, 0⟩, 0, .inl ⟨_, _, rfl, rfl⟩, by omega, by unfold maxLen; decide⟩
    · have hsp : sp = none ∧ ab < w.heap.size := by
        have h := he 0 (by omega)
        obtain ⟨y, hy⟩ : ∃ y, elems[0]? = some y := ⟨_, List.getElem?_eq_getElem (by omega)⟩
        rw [hy, hc9, Option.bind_eq_some_iff] at h
        obtain ⟨cs', hcs', _⟩ := h
        have hb := World.cells?_block hcs' (by decide)
        have hl2 := (World.cells?_some hcs').2.1
        have hc := (World.cells?_some hcs').2.2 0 (by decide)
        rw [show ((⟨ab, ao, sp⟩ : Addr).add (0 * 9)).add 0 = ⟨ab, ao, sp⟩ from rfl, List.getElem?_eq_getElem (by omega)] at hc
        exact ⟨(lt_of_cell hc).1, hb⟩
      obtain ⟨rfl, hlt⟩ := hsp
      have each : ∀ i, ∃ s : StepV, i < len → s.Good w ∧ (∀ j, j < 9 → w.cell? ⟨ab, ao + i * 9 + j, none⟩ = s.cells[j]?) := fun i => by
        by_cases hi : i < len
        · have h := he i hi
          obtain ⟨y, hy⟩ : ∃ y, elems[i]? = some y := ⟨_, List.getElem?_eq_getElem (by omega)⟩
          rw [hy, Addr.add_lit] at h
          have h2 := step_cells h
          rw [hc9] at h2
          obtain ⟨s, h3, h4, _⟩ := h2
          exact ⟨s, fun _ => ⟨h3, h4⟩⟩
        · exact ⟨⟨0, 0, 0, 0, 0, 0, 0, undef, undef, [], [], 0, 0⟩, fun h => absurd h hi⟩
      obtain ⟨f, hf⟩ := Classical.axiomOfChoice each
      exact ⟨f, len, .inr ⟨ab, ao, cap, rfl, hlt, fun i hi => (hf i hi).2⟩, fun i hi => (hf i hi).1, by omega⟩

end Go.Proofs.Ytncafchgdgmeaaa
