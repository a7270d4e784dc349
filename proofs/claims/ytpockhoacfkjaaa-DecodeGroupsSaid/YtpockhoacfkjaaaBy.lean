/-
  Slices of bytes: those that a law is given, those that it makes itself, grown by append. No condition.
-/
import Derived.Test.YtpockhoacfkjaaaDcQ
import Derived.Test.YtpockhoacfkjaaaArgs
import Derived.Maps.AppendAt
import Derived.OwnWalk
import Derived.ChangeSlices
namespace Go.Proofs.Ytpockhoacfkjaaa
open Go Go.RowKit Go.WideShapes Go.ChangeShapes
set_option linter.unusedVariables false
set_option linter.unusedSimpArgs false

theorem wf_u8 {z : Int} (h : (Lit.int .u8 z).wf = true) : 0 ≤ z ∧ z ≤ 255 := by
  simp [Lit.wf, IntKind.min, IntKind.max, IntKind.signed, IntKind.bits] at h
  omega

set_option maxRecDepth 100000 in
theorem cells_u8 : Try.prog.cellsOf 5 = 1 := by kernel_rfl

set_option maxRecDepth 100000 in
/-- A slice of bytes that came in. -/
theorem open_bytes {H : Type} {enc : TypeId × Value → H} {w : World} {t : TypeId} (ht : Try.prog.underlying t = some (.slice 5)) {b0 : Nat} {v : Value} {d : DataW H} {p : List MemPlace}
    (hval : Value.okWide Try.prog w .any b0 t v) (h : DataW.Trod enc Try.prog w 0 (fun _ => true) true t v d p) : ∃ L g, BArg w v L g := by
  obtain ⟨a1, len, cap, rfl⟩ := okWide_slice ht hval
  obtain ⟨fuel, hf⟩ := h
  rcases open_ints ht Try.underlying5 cells_u8 hf with ⟨hcs, hx⟩ | ⟨a, len', cap', zs, hcs, _, hl, hm, hz, hx, hcell, hwz⟩
  · simp [Value.cells] at hcs
    obtain ⟨rfl, rfl, rfl⟩ := hcs
    exact ⟨[], 0, .inl ⟨rfl, rfl⟩, Nat.zero_le _, fun i => by simp, fun b n c e => by injection e; omega, Nat.zero_le _⟩
  · simp [Value.cells] at hcs
    obtain ⟨rfl, rfl, rfl⟩ := hcs
    simp only [if_true] at hz
    simp only [Value.okWide, ht, Cell.okWide, Cell.ok, World.has] at hval
    obtain ⟨_, _, _, hsp, row, cells, hsh, _⟩ := hval
    obtain ⟨ab, ao, spot⟩ := a
    simp only at hsp
    subst hsp
    have hb : ∃ C f, w.heap[ab]? = some (.cells C row f) := by
      unfold World.shape? at hsh
      split at hsh
      · rename_i c e f hh
        injection hsh with hsh
        injection hsh with h1 _
        subst h1
        exact ⟨c, f, hh⟩
      · cases hsh
    obtain ⟨C, f, hb⟩ := hb
    have hlen : (zs.take len).length = len := by rw [List.length_take]; omega
    refine ⟨zs.take len, ab, .inr ⟨ao, cap, C, row, f, by rw [hlen], hb, fun i hi => ?_⟩, by omega, fun i => ?_, fun b n c e => by injection e; omega, Nat.le_of_lt (lt_of_heap hb)⟩
    · rw [hlen] at hi
      have hc := hcell i (by omega)
      rw [Addr.add_lit, cells_of hb] at hc
      rw [hc, List.getD_eq_getElem?_getD, List.getD_eq_getElem?_getD, List.getElem?_take, if_pos hi]
    · rw [List.getD_eq_getElem?_getD, List.getElem?_take]
      split
      · by_cases hi : i < zs.length
        · rw [List.getElem?_eq_getElem hi, Option.getD_some]; exact wf_u8 (hwz _ (List.getElem_mem hi))
        · rw [List.getElem?_eq_none (by omega)]; simp
      · simp

theorem BOk.app {L M : List Int} (h : BOk L) (k : BOk M) : BOk (L ++ M) := by
  intro i
  rw [List.getD_eq_getElem?_getD]
  by_cases hi : i < L.length
  · rw [List.getElem?_append_left hi, ← List.getD_eq_getElem?_getD]; exact h i
  · rw [List.getElem?_append_right (by omega), ← List.getD_eq_getElem?_getD]; exact k _

theorem BOk.take {L : List Int} (h : BOk L) (n : Nat) : BOk (L.take n) := by
  intro i
  rw [List.getD_eq_getElem?_getD, List.getElem?_take]
  split
  · rw [← List.getD_eq_getElem?_getD]; exact h i
  · simp

theorem BArg.keep {w w' : World} {v : Value} {L : List Int} {g : Nat} (h : BArg w v L g) (u : Upd [] w w') : BArg w' v L g :=
  ⟨h.b.keep u (by simp), h.n, h.r, h.c, Nat.le_trans h.g u.size⟩

/-- A row of bytes of the walk's own. -/
def Own (w : World) (base : Nat) (v : Value) (L : List Int) : Prop := w.ownsRow base 5 1 v L.length (L.map (Value.int .u8))

theorem own_nil (w : World) (base : Nat) : Own w base (.slice none 0 0) [] := ⟨rfl, .inl ⟨rfl, rfl⟩⟩

theorem own_lit (w : World) (base : Nat) (L : List Int) (C : Array Value) (hC : C.toList = L.map (.int .u8)) (hb : base ≤ w.heap.size) (hn : L.length ≤ maxLen) :
    Own (w.alloc (.cells C 5)) base (.slice (some ⟨w.heap.size, 0, none⟩) L.length L.length) L := by
  have hs : C.size = L.length := by rw [← Array.length_toList, hC, List.length_map]
  refine ⟨by simp, .inr ⟨w.heap.size, L.length, C, rfl, hb, heap_alloc_new w _, Nat.le_refl _, hn, by omega, ?_⟩⟩
  rw [hC, Nat.mul_one, List.take_of_length_le (by simp)]

theorem Own.barg {w : World} {base : Nat} {v : Value} {L : List Int} (h : Own w base v L) (hr : BOk L) (hn : L.length ≤ maxLen) : ∃ g, BArg w v L g ∧ (v.ownBlock = none ∨ (v.ownBlock = some g ∧ base ≤ g ∧ g < w.heap.size)) := by
  rcases h.2 with ⟨rfl, h0⟩ | ⟨g, cap, cur, rfl, hb, hg, hnc, hcm, hs, ht⟩
  · have : L = [] := List.eq_nil_of_length_eq_zero h0
    subst this
    exact ⟨0, ⟨.inl ⟨rfl, rfl⟩, Nat.zero_le _, hr, fun b n c e => by injection e; omega, Nat.zero_le _⟩, .inl rfl⟩
  · refine ⟨g, ⟨.inr ⟨0, cap, cur, _, _, rfl, hg, fun i hi => ?_⟩, hn, hr, fun b n c e => by injection e; omega, Nat.le_of_lt (lt_of_heap hg)⟩, .inr ⟨rfl, hb, lt_of_heap hg⟩⟩
    have e : (cur.toList.take (L.length * 1))[i]? = some (.int .u8 (L.getD i 0)) := by
      rw [ht, List.getElem?_map, List.getD_eq_getElem?_getD, List.getElem?_eq_getElem hi]; rfl
    rw [Nat.mul_one, List.getElem?_take, if_pos hi, Array.getElem?_toList] at e
    rw [Nat.zero_add]; exact e

theorem Own.keep {w w' : World} {base : Nat} {v : Value} {L : List Int} {S : List Nat} (h : Own w base v L) (u : Upd S w w') (hS : ∀ g, v.ownBlock = some g → g ∉ S) : Own w' base v L := by
  refine ⟨h.1, ?_⟩
  rcases h.2 with h0 | ⟨g, cap, cur, rfl, hb, hg, hr⟩
  · exact .inl h0
  · exact .inr ⟨g, cap, cur, rfl, hb, u.get hg (hS g rfl), hr⟩

theorem Own.block {w : World} {base : Nat} {v : Value} {L : List Int} (h : Own w base v L) : ∀ g, v.ownBlock = some g → base ≤ g ∧ g < w.heap.size := by
  intro g e
  rcases h.2 with ⟨rfl, _⟩ | ⟨g', cap, cur, rfl, hb, hg, hr⟩
  · cases e
  · simp only [Value.ownBlock, Option.some.injEq] at e
    subst e
    exact ⟨hb, lt_of_heap hg⟩

theorem own_other {w : World} {base : Nat} {v : Value} {L : List Int} (h : Own w base v L) {b : Nat} {c : Array Value} {t : TypeId} {f : Nat × Nat} (hb : w.heap[b]? = some (.cells c t f)) (ht : t ≠ 5) : v.ownBlock ≠ some b := by
  intro e
  rcases h.2 with ⟨rfl, _⟩ | ⟨g', cap, cur, rfl, _, hg, hr⟩
  · cases e
  · simp only [Value.ownBlock, Option.some.injEq] at e
    subst e
    rw [hb] at hg
    injection hg with hg
    injection hg with _ h1
    exact ht h1

/-- What an append leaves. -/
structure Grew (w : World) (base : Nat) (v : Value) (L : List Int) (v' : Value) (w' : World) : Prop where
  o : Own w' base v' L
  u : Upd v.ownBlock.toList w w'
  b : v'.ownBlock = v.ownBlock ∨ v'.ownBlock = some w.heap.size

set_option maxRecDepth 100000 in
theorem info_u8 : (Try.prog.info? 5).map (fun i => (i.zero, i.size, i.bytes)) = some (some (.int .u8 0), 1, 1) := by kernel_rfl

theorem run_append_by (w : World) (base : Nat) (ty : TypeId) (v : Value) (L : List Int) (hown : Own w base v L) (vb : Value) (M : List Int) (g : Nat) (hb : BySl w vb M g) (hn : L.length + M.length ≤ 10000) (hbase : base ≤ w.heap.size) :
    ∃ v' w', (Builtin.append_ #[22, 22] ty #[v, vb]).run Try.prog w = .ok v' w' ∧ Grew w base v (L ++ M) v' w' := by
  obtain ⟨i, hi, hz0, hz1, hz2⟩ := info_parts info_u8
  have key : ∀ (a : Addr) (m c : Nat), M.length = m → (∀ j u, (M.map (Value.int .u8))[j]? = some u → w.cell? (a.add j) = some u) → ∃ v' w', (Builtin.append_ #[22, 22] ty #[v, .slice (some a) m c]).run Try.prog w = .ok v' w' ∧ Grew w base v (L ++ M) v' w' := by
    intro a m c hm hc
    subst hm
    obtain ⟨v', w', h1, h2, h3, _, h5⟩ := run_append_own_at (P := Try.prog) w base 22 ty 5 i _ 1 1 Try.underlying22 hi hz0 hz1 hz2 rfl (by decide) v L.length _ hown a M.length c (M.map (Value.int .u8)) (by simp) hc
      (by intro u hu; simp only [List.mem_map] at hu; obtain ⟨z, _, rfl⟩ := hu; rfl) (by unfold maxLen; omega) (by omega) hbase
    refine ⟨v', w', h1, ?_, Upd.of_grown h3, h5⟩
    unfold Own
    rw [List.length_append, List.map_append]
    exact h2
  rcases hb with ⟨rfl, rfl⟩ | ⟨o, c, C, T, f, rfl, hg, hc⟩
  · refine ⟨v, w, ?_, ?_, Upd.refl _ _, .inl rfl⟩
    · rcases hown.2 with ⟨rfl, h0⟩ | ⟨g, cap, cur, rfl, _, _, hnc, _⟩
      · simp [Builtin.append_, run_underlying Try.underlying22, sizeOf, typeInfo, hi, Builtin.lenOf, Builtin.firstCells]
      · simp [Builtin.append_, run_underlying Try.underlying22, sizeOf, typeInfo, hi, Builtin.lenOf, Builtin.firstCells, hnc, storeCells]
    · rw [List.append_nil]; exact hown
  · refine key _ _ _ rfl fun j u hu => ?_
    have hj : j < M.length := by
      have := (List.getElem?_eq_some_iff.1 hu).1
      simpa using this
    rw [Addr.add_lit, cells_of hg, hc j hj]
    rw [List.getElem?_map, List.getElem?_eq_getElem hj] at hu
    simp only [Option.map_some, Option.some.injEq] at hu
    rw [List.getD_eq_getElem?_getD, List.getElem?_eq_getElem hj, Option.getD_some, hu]

theorem wpList_append_by {ops : Array Oper} {rest : List Oper} {o : Oper} {a : Act} {w : World} {Q : Exit → Act → World → Prop} (hgd : o.guard = none) (s x : Operand)
    (ho : o.op = .call { callee := .builtin .append, args := #[s, x], argTypes := #[22, 22] })
    (base : Nat) (v : Value) (L : List Int) (hs : a.eval s = v) (hown : Own w base v L) (vb : Value) (M : List Int) (g : Nat) (hx : a.eval x = vb) (hb : BySl w vb M g) (hn : L.length + M.length ≤ 10000) (hbase : base ≤ w.heap.size)
    (h : ∀ v' w', Grew w base v (L ++ M) v' w' → wpList Try.prog ops Q rest (a.put o.dst v') w') : wpList Try.prog ops Q (o :: rest) a w := by
  refine wpList_plain hgd fun _ hK => ?_
  obtain ⟨v', w', hr, h2⟩ := run_append_by w base o.type v L hown vb M g hb hn hbase
  unfold Oper.wp execOp
  simp only [ho, resolve, invoke, builtin, Sem.run_bind, Sem.run_pure, Result.andThen_ok, List.map_toArray, List.map_cons, List.map_nil, hs, hx, hr]
  exact hK _ _ (h v' w' h2)

/-- A slice's front. -/
theorem BArg.cut {w : World} {b : Option Addr} {n c : Nat} {L : List Int} {g : Nat} (h : BArg w (.slice b n c) L g) (k : Nat) (hk : k ≤ L.length) : BArg w (.slice b k c) (L.take k) g := by
  have hl : (L.take k).length = k := by rw [List.length_take]; omega
  have hc := h.c _ _ _ rfl
  refine ⟨?_, by have := h.n; omega, h.r.take k, fun b' n' c' e => ?_, h.g⟩
  · rcases h.b with ⟨e, rfl⟩ | ⟨o, c', C, T, f, e, h2, h3⟩
    · injection e with e1 e2 e3
      subst e1 e2 e3
      refine .inl ⟨?_, by simp⟩
      have : k = 0 := by simpa using hk
      rw [this]
    · injection e with e1 e2 e3
      subst e1
      refine .inr ⟨o, c, C, T, f, by rw [hl], h2, fun i hi => ?_⟩
      rw [h3 i (by omega), List.getD_eq_getElem?_getD, List.getD_eq_getElem?_getD, List.getElem?_take, if_pos (by omega)]
  · injection e with e1 e2 e3
    rcases h.b with ⟨e, rfl⟩ | ⟨o, c2, C, T, f, e, h2, h3⟩
    · injection e with e4 e5 e6; simp at hk; omega
    · injection e with e4 e5 e6; omega

end Go.Proofs.Ytpockhoacfkjaaa
