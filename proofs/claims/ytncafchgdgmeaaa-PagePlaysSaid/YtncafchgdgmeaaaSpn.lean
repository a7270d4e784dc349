/-
  Spans of pages as an argument of a law, opened. No condition.
-/
import Derived.Test.YtncafchgdgmeaaaPgJ
import Derived.Test.YtncafchgdgmeaaaArgs
namespace Go.Proofs.Ytncafchgdgmeaaa
open Go Go.RowKit Go.WideShapes Go.ChangeShapes
set_option linter.unusedVariables false
set_option linter.unusedSimpArgs false

def intOfV : Option Value → Int
  | some (.int _ z) => z
  | _ => 0
def strOfV : Option Value → ByteArray
  | some (.string s) => s
  | _ => ByteArray.empty

/-- The span in four cells. -/
def spanAt (w : World) (g o : Nat) : SpanV := ⟨intOfV (w.cell? ⟨g, o, none⟩), intOfV (w.cell? ⟨g, o + 1, none⟩), intOfV (w.cell? ⟨g, o + 2, none⟩), strOfV (w.cell? ⟨g, o + 3, none⟩)⟩

structure SpanV.Ok (s : SpanV) : Prop where
  pg : -9223372036854775808 ≤ s.pg ∧ s.pg ≤ 9223372036854775807
  ct : -9223372036854775808 ≤ s.ct ∧ s.ct ≤ 9223372036854775807
  rt : -9223372036854775808 ≤ s.rt ∧ s.rt ≤ 9223372036854775807
  by_ : s.by_.size ≤ maxLen

theorem wf_i64 {z : Int} (h : (Lit.int .i64 z).wf = true) : -9223372036854775808 ≤ z ∧ z ≤ 9223372036854775807 := by
  simp only [Lit.wf, Bool.and_eq_true, decide_eq_true_eq] at h
  have h1 : IntKind.i64.min = -9223372036854775808 := by decide
  have h2 : IntKind.i64.max = 9223372036854775807 := by decide
  omega

/-- A span read as data lies in four cells. -/
theorem span_cells {H : Type} {enc : TypeId × Value → H} {w : World} {base : Nat} {spare : Nat → Bool} {held : Bool} {n : Nat} {g o : Nat} {y : DataW H × List MemPlace}
    (h : (w.cells? base ⟨g, o, none⟩ (Try.prog.cellsOf 41)).bind (DataW.trod enc Try.prog w base spare held n 41) = some y) :
    w.cell? ⟨g, o, none⟩ = some (.int .i64 (spanAt w g o).pg) ∧ w.cell? ⟨g, o + 1, none⟩ = some (.int .i64 (spanAt w g o).ct) ∧ w.cell? ⟨g, o + 2, none⟩ = some (.int .i64 (spanAt w g o).rt) ∧ w.cell? ⟨g, o + 3, none⟩ = some (.string (spanAt w g o).by_) ∧ (spanAt w g o).Ok ∧ g < w.heap.size := by
  rw [show Try.prog.cellsOf 41 = 4 by kernel_rfl, Option.bind_eq_some_iff] at h
  obtain ⟨cs, hcs, hy⟩ := h
  have hb := World.cells?_block hcs (by decide)
  obtain ⟨_, hl, hc⟩ := World.cells?_some hcs
  have c : ∀ j, j < 4 → ∀ lf, leafAt Try.prog 8 41 j = some lf → ∃ x, w.cell? ⟨g, o + j, none⟩ = some x ∧ LeafOk lf x := by
    intro j hj lf hlf
    obtain ⟨x, hx, hok⟩ := leafAt_ok 8 _ _ _ _ j lf hy hlf
    refine ⟨x, ?_, hok⟩
    have := hc j hj
    rw [Addr.add_lit] at this
    rw [this, hx]
  obtain ⟨x0, h0, z0, rfl, w0⟩ := c 0 (by decide) (.int .i64) (by kernel_rfl)
  obtain ⟨x1, h1, z1, rfl, w1⟩ := c 1 (by decide) (.int .i64) (by kernel_rfl)
  obtain ⟨x2, h2, z2, rfl, w2⟩ := c 2 (by decide) (.int .i64) (by kernel_rfl)
  obtain ⟨x3, h3, s, rfl, w3⟩ := c 3 (by decide) .string (by kernel_rfl)
  have e : spanAt w g o = ⟨z0, z1, z2, s⟩ := by
    have h0' : w.cell? ⟨g, o, none⟩ = _ := h0
    simp only [spanAt, h0', h1, h2, h3]
    rfl
  rw [e]
  exact ⟨h0, h1, h2, h3, ⟨wf_i64 w0, wf_i64 w1, wf_i64 w2, w3⟩, hb⟩

/-- Spans as a law's argument. -/
structure SArg (w : World) (v : Value) (L : List SpanV) (g : Nat) : Prop where
  sp : SpansIn w v L g
  ok : ∀ s ∈ L, s.Ok
  len : L.length ≤ maxLen
  lt : g ≤ w.heap.size
  form : ∀ b n c, v = .slice b n c → n = L.length

theorem SArg.keep {w w' : World} {v : Value} {L : List SpanV} {g : Nat} (h : SArg w v L g) (u : Upd [] w w') : SArg w' v L g :=
  ⟨h.sp.keep u (by simp), h.ok, h.len, Nat.le_trans h.lt u.size, h.form⟩

set_option maxRecDepth 100000 in
theorem spans_of_row {H : Type} {enc : TypeId × Value → H} {w : World} {t : TypeId} (ht : Try.prog.underlying t = some (.slice 41)) {base b0 fuel : Nat} {spare : Nat → Bool} {held : Bool} {r : Reach} {v : Value} {x : DataW H × List MemPlace}
    (hval : Value.okWide Try.prog w r b0 t v) (hf : DataW.trod enc Try.prog w base spare held fuel t v.cells.toList = some x) : ∃ L g, SArg w v L g := by
  obtain ⟨a1, len, cap, rfl⟩ := okWide_slice ht hval
  rcases DataW.trod_slice ht hf with ⟨hcs, hx⟩ | ⟨a, len', cap', elems, rest, n, _, hcs, _, _, hl, hm, hel, he, _, _⟩
  · simp [Value.cells] at hcs
    obtain ⟨rfl, rfl, rfl⟩ := hcs
    exact ⟨[], 0, .inl ⟨_, _, rfl, rfl⟩, by simp, by simp, Nat.zero_le _, fun b n c e => by injection e with _ e _; exact e.symm⟩
  · simp [Value.cells] at hcs
    obtain ⟨rfl, rfl, rfl⟩ := hcs
    simp only [Value.okWide, ht, Cell.okWide, Cell.ok, World.has] at hval
    obtain ⟨_, _, _, hsp, row, cells, hsh, _⟩ := hval
    obtain ⟨ab, ao, spot⟩ := a
    simp only at hsp
    subst hsp
    have hlt : ab < w.heap.size := by
      unfold World.shape? at hsh
      split at hsh
      · rename_i c e f hh
        exact lt_of_heap hh
      · cases hsh
    have hc4 : Try.prog.cellsOf 41 = 4 := by kernel_rfl
    have each : ∀ i, i < len → w.cell? ⟨ab, ao + i * 4, none⟩ = some (.int .i64 (spanAt w ab (ao + i * 4)).pg) ∧ w.cell? ⟨ab, ao + i * 4 + 1, none⟩ = some (.int .i64 (spanAt w ab (ao + i * 4)).ct) ∧ w.cell? ⟨ab, ao + i * 4 + 2, none⟩ = some (.int .i64 (spanAt w ab (ao + i * 4)).rt) ∧ w.cell? ⟨ab, ao + i * 4 + 3, none⟩ = some (.string (spanAt w ab (ao + i * 4)).by_) ∧ (spanAt w ab (ao + i * 4)).Ok ∧ ab < w.heap.size := fun i hi => by
      have h := he i hi
      obtain ⟨y, hy⟩ : ∃ y, elems[i]? = some y := ⟨_, List.getElem?_eq_getElem (by omega)⟩
      rw [hy, Addr.add_lit] at h
      have h2 := span_cells h
      rw [hc4] at h2
      exact h2
    have hl2 : ((List.range len).map fun i => spanAt w ab (ao + i * 4)).length = len := by simp
    refine ⟨(List.range len).map fun i => spanAt w ab (ao + i * 4), ab, .inr ⟨ao, cap, by rw [hl2], hlt, by rw [hl2]; unfold maxLen at hm; omega, fun i s hs => ?_⟩, fun s hs => ?_, by rw [hl2]; omega, Nat.le_of_lt hlt, fun b n c e => by injection e with _ e _; rw [hl2]; exact e.symm⟩
    · have hi : i < len := by
        have := (List.getElem?_eq_some_iff.1 hs).1
        rwa [hl2] at this
      rw [List.getElem?_map, List.getElem?_range hi] at hs
      simp only [Option.map_some, Option.some.injEq] at hs
      subst hs
      have h := each i hi
      exact ⟨h.1, h.2.1, h.2.2.1, h.2.2.2.1⟩
    · obtain ⟨i, hi, rfl⟩ := List.mem_map.1 hs
      have h := each i (List.mem_range.1 hi)
      exact h.2.2.2.2.1

set_option maxRecDepth 100000 in
theorem open_spans {H : Type} {enc : TypeId × Value → H} {w : World} {t : TypeId} (ht : Try.prog.underlying t = some (.slice 41)) {b0 : Nat} {v : Value} {d : DataW H} {p : List MemPlace}
    (hval : Value.okWide Try.prog w .any b0 t v) (h : DataW.Trod enc Try.prog w 0 (fun _ => true) true t v d p) : ∃ L g, SArg w v L g := by
  obtain ⟨fuel, hf⟩ := h
  exact spans_of_row ht hval hf

end Go.Proofs.Ytncafchgdgmeaaa
