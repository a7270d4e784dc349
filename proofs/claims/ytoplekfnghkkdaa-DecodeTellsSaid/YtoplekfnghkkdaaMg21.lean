/-
  Slices of bytes: those that a law is given, those that it makes itself, grown by append. No condition.
-/
import Derived.Test.YtoplekfnghkkdaaMg17
import Derived.Test.YtoplekfnghkkdaaMg01
import Derived.Maps.AppendAt
import Derived.OwnWalk
import Derived.ChangeSlices
import Derived.Test.YtoplekfnghkkdaaMg03
import Derived.Test.YtoplekfnghkkdaaMg08
namespace Go.Proofs.Ytoplekfnghkkdaa
open Go Go.RowKit Go.WideShapes Go.ChangeShapes
set_option linter.unusedVariables false
set_option linter.unusedSimpArgs false

theorem wf_u8 {z : Int} (h : (Lit.int .u8 z).wf = true) : 0 ≤ z ∧ z ≤ 255 := by
  simp [Lit.wf, IntKind.min, IntKind.max, IntKind.signed, IntKind.bits] at h
  omega

set_option maxRecDepth 100000 in
theorem cells_u8 : Try.prog.cellsOf 5 = 1 := by kernel_rfl

set_option maxRecDepth 100000 in
/-- A slice of bytes that came in. -/
theorem open_bytes {H : Type} {enc : TypeId × Value → H} {w : World} {t : TypeId} (ht : Try.prog.underlying t = some (.slice 5)) {b0 : Nat} {v : Value} {d : DataW H} {p : List MemPlace}
    (hval : Value.okWide Try.prog w .any b0 t v) (h : DataW.Trod enc Try.prog w 0 (fun _ => true) true t v d p) : ∃ L g, BArg w v L g := by
  obtain ⟨a1, len, cap, rfl⟩ := okWide_slice ht hval
  obtain ⟨fuel, hf⟩ := h
  rcases open_ints ht Try.underlying5 cells_u8 hf with ⟨hcs, hx⟩ | ⟨a, len', cap', zs, hcs, _, hl, hm, hz, hx, hcell, hwz⟩
  · simp [Value.cells] at hcs
    obtain ⟨rfl, rfl, rfl⟩ := hcs
    exact ⟨[], 0, .inl ⟨rfl, rfl⟩, Nat.zero_le _, fun i => by simp, fun b n c e => by injection e; omega, Nat.zero_le _⟩
  · simp [Value.cells] at hcs
    obtain ⟨rfl, rfl, rfl⟩ := hcs
    simp only [if_true] at hz
    simp only [Value.okWide, ht, Cell.okWide, Cell.ok, World.has] at hval
    obtain ⟨_, _, _, hsp, row, cells, hsh, _⟩ := hval
    obtain ⟨ab, ao, spot⟩ := a
    simp only at hsp
    subst hsp
    have hb : ∃ C f, w.heap[ab]? = some (.cells C row f) := by
      unfold World.shape? at hsh
      split at hsh
      · rename_i c e f hh
        injection hsh with hsh
        injection hsh with h1 _
        subst h1
        exact ⟨c, f, hh⟩
      · cases hsh
    obtain ⟨C, f, hb⟩ := hb
    have hlen : (zs.take len).length = len := by rw [List.length_take]; omega
    refine ⟨zs.take len, ab, .inr ⟨ao, cap, C, row, f, by rw [hlen], hb, fun i hi => ?_⟩, by omega, fun i => ?_, fun b n c e => by injection e; omega, Nat.le_of_lt (lt_of_heap hb)⟩
    · rw [hlen] at hi
      have hc := hcell i (by omega)
      rw [Addr.add_lit, cells_of hb] at hc
      rw [hc, List.getD_eq_getElem?_getD, List.getD_eq_getElem?_getD, List.getElem?_take, if_pos hi]
    · rw [List.getD_eq_getElem?_getD, List.getElem?_take]
      split
      · by_cases hi : i < zs.length
        · rw [List.getElem?_eq_getElem hi, Option.getD_some]; exact wf_u8 (hwz _ (List.getElem_mem hi))
        · rw [List.getElem?_eq_none (by omega)]; simp
      · simp

theorem BOk.app {L M : List Int} (h : BOk L) (k : BOk M) : BOk (L ++ M) := by
  intro i
  rw [List.getD_eq_getElem?_getD]
  by_cases hi : i < L.length
  · rw [List.getElem?_append_left hi, ← List.getD_eq_getElem?_getD]; exact h i
  · rw [List.getElem?_append_right (by omega), ← List.getD_eq_getElem?_getD]; exact k _

theorem BOk.take {L : List Int} (h : BOk L) (n : Nat) : BOk (L.take n) := by
  intro i
  rw [List.getD_eq_getElem?_getD, List.getElem?_take]
  split
  · rw [← List.getD_eq_getElem?_getD]; exact h i
  · simp

theorem BArg.keep {w w' : World} {v : Value} {L : List Int} {g : Nat} (h : BArg w v L g) (u : Upd [] w w') : BArg w' v L g :=
  ⟨h.b.keep u (by simp), h.n, h.r, h.c, Nat.le_trans h.g u.size⟩

/-- A row of bytes of the walk's own. -/
def Own (w : World) (base : Nat) (v : Value) (L : List Int) : Prop := w.ownsRow base 5 1 v L.length (L.map (Value.int .u8))

theorem own_nil (w : World) (base : Nat) : Own w base (.slice none 0 0) [] := ⟨rfl, .inl ⟨rfl, rfl⟩⟩

theorem own_lit (w : World) (base : Nat) (L : List Int) (C : Array Value) (hC : C.toList = L.map (.int .u8)) (hb : base ≤ w.heap.size) (hn : L.length ≤ maxLen) :
    Own (w.alloc (.cells C 5)) base (.slice (some ⟨w.heap.size, 0, none⟩) L.length L.length) L := by
  have hs : C.size = L.length := by rw [← Array.length_toList, hC, List.length_map]
  refine ⟨by simp, .inr ⟨w.heap.size, L.length, C, rfl, hb, heap_alloc_new w _, Nat.le_refl _, hn, by omega, ?_⟩⟩
  rw [hC, Nat.mul_one, List.take_of_length_le (by simp)]

theorem Own.barg {w : World} {base : Nat} {v : Value} {L : List Int} (h : Own w base v L) (hr : BOk L) (hn : L.length ≤ maxLen) : ∃ g, BArg w v L g ∧ (v.ownBlock = none ∨ (v.ownBlock = some g ∧ base ≤ g ∧ g < w.heap.size)) := by
  rcases h.2 with ⟨rfl, h0⟩ | ⟨g, cap, cur, rfl, hb, hg, hnc, hcm, hs, ht⟩
  · have : L = [] := List.eq_nil_of_length_eq_zero h0
    subst this
    exact ⟨0, ⟨.inl ⟨rfl, rfl⟩, Nat.zero_le _, hr, fun b n c e => by injection e; omega, Nat.zero_le _⟩, .inl rfl⟩
  · refine ⟨g, ⟨.inr ⟨0, cap, cur, _, _, rfl, hg, fun i hi => ?_⟩, hn, hr, fun b n c e => by injection e; omega, Nat.le_of_lt (lt_of_heap hg)⟩, .inr ⟨rfl, hb, lt_of_heap hg⟩⟩
    have e : (cur.toList.take (L.length * 1))[i]? = some (.int .u8 (L.getD i 0)) := by
      rw [ht, List.getElem?_map, List.getD_eq_getElem?_getD, List.getElem?_eq_getElem hi]; rfl
    rw [Nat.mul_one, List.getElem?_take, if_pos hi, Array.getElem?_toList] at e
    rw [Nat.zero_add]; exact e

theorem Own.keep {w w' : World} {base : Nat} {v : Value} {L : List Int} {S : List Nat} (h : Own w base v L) (u : Upd S w w') (hS : ∀ g, v.ownBlock = some g → g ∉ S) : Own w' base v L := by
  refine ⟨h.1, ?_⟩
  rcases h.2 with h0 | ⟨g, cap, cur, rfl, hb, hg, hr⟩
  · exact .inl h0
  · exact .inr ⟨g, cap, cur, rfl, hb, u.get hg (hS g rfl), hr⟩

theorem Own.block {w : World} {base : Nat} {v : Value} {L : List Int} (h : Own w base v L) : ∀ g, v.ownBlock = some g → base ≤ g ∧ g < w.heap.size := by
  intro g e
  rcases h.2 with ⟨rfl, _⟩ | ⟨g', cap, cur, rfl, hb, hg, hr⟩
  · cases e
  · simp only [Value.ownBlock, Option.some.injEq] at e
    subst e
    exact ⟨hb, lt_of_heap hg⟩

theorem own_other {w : World} {base : Nat} {v : Value} {L : List Int} (h : Own w base v L) {b : Nat} {c : Array Value} {t : TypeId} {f : Nat × Nat} (hb : w.heap[b]? = some (.cells c t f)) (ht : t ≠ 5) : v.ownBlock ≠ some b := by
  intro e
  rcases h.2 with ⟨rfl, _⟩ | ⟨g', cap, cur, rfl, _, hg, hr⟩
  · cases e
  · simp only [Value.ownBlock, Option.some.injEq] at e
    subst e
    rw [hb] at hg
    injection hg with hg
    injection hg with _ h1
    exact ht h1

/-- What an append leaves. -/
structure Grew (w : World) (base : Nat) (v : Value) (L : List Int) (v' : Value) (w' : World) : Prop where
  o : Own w' base v' L
  u : Upd v.ownBlock.toList w w'
  b : v'.ownBlock = v.ownBlock ∨ v'.ownBlock = some w.heap.size

set_option maxRecDepth 100000 in
theorem info_u8 : (Try.prog.info? 5).map (fun i => (i.zero, i.size, i.bytes)) = some (some (.int .u8 0), 1, 1) := by kernel_rfl

theorem run_append_by (w : World) (base : Nat) (ty : TypeId) (v : Value) (L : List Int) (hown : Own w base v L) (vb : Value) (M : List Int) (g : Nat) (hb : BySl w vb M g) (hn : L.length + M.length ≤ 10000) (hbase : base ≤ w.heap.size) :
    ∃ v' w', (Builtin.append_ #[22, 22] ty #[v, vb]).run Try.prog w = .ok v' w' ∧ Grew w base v (L ++ M) v' w' := by
  obtain ⟨i, hi, hz0, hz1, hz2⟩ := info_parts info_u8
  have key : ∀ (a : Addr) (m c : Nat), M.length = m → (∀ j u, (M.map (Value.int .u8))[j]? = some u → w.cell? (a.add j) = some u) → ∃ v' w', (Builtin.append_ #[22, 22] ty #[v, .slice (some a) m c]).run Try.prog w = .ok v' w' ∧ Grew w base v (L ++ M) v' w' := by
    intro a m c hm hc
    subst hm
    obtain ⟨v', w', h1, h2, h3, _, h5⟩ := run_append_own_at (P := Try.prog) w base 22 ty 5 i _ 1 1 Try.underlying22 hi hz0 hz1 hz2 rfl (by decide) v L.length _ hown a M.length c (M.map (Value.int .u8)) (by simp) hc
      (by intro u hu; simp only [List.mem_map] at hu; obtain ⟨z, _, rfl⟩ := hu; rfl) (by unfold maxLen; omega) (by omega) hbase
    refine ⟨v', w', h1, ?_, Upd.of_grown h3, h5⟩
    unfold Own
    rw [List.length_append, List.map_append]
    exact h2
  rcases hb with ⟨rfl, rfl⟩ | ⟨o, c, C, T, f, rfl, hg, hc⟩
  · refine ⟨v, w, ?_, ?_, Upd.refl _ _, .inl rfl⟩
    · rcases hown.2 with ⟨rfl, h0⟩ | ⟨g, cap, cur, rfl, _, _, hnc, _⟩
      · simp [Builtin.append_, run_underlying Try.underlying22, sizeOf, typeInfo, hi, Builtin.lenOf, Builtin.firstCells]
      · simp [Builtin.append_, run_underlying Try.underlying22, sizeOf, typeInfo, hi, Builtin.lenOf, Builtin.firstCells, hnc, storeCells]
    · rw [List.append_nil]; exact hown
  · refine key _ _ _ rfl fun j u hu => ?_
    have hj : j < M.length := by
      have := (List.getElem?_eq_some_iff.1 hu).1
      simpa using this
    rw [Addr.add_lit, cells_of hg, hc j hj]
    rw [List.getElem?_map, List.getElem?_eq_getElem hj] at hu
    simp only [Option.map_some, Option.some.injEq] at hu
    rw [List.getD_eq_getElem?_getD, List.getElem?_eq_getElem hj, Option.getD_some, hu]

theorem wpList_append_by {ops : Array Oper} {rest : List Oper} {o : Oper} {a : Act} {w : World} {Q : Exit → Act → World → Prop} (hgd : o.guard = none) (s x : Operand)
    (ho : o.op = .call { callee := .builtin .append, args := #[s, x], argTypes := #[22, 22] })
    (base : Nat) (v : Value) (L : List Int) (hs : a.eval s = v) (hown : Own w base v L) (vb : Value) (M : List Int) (g : Nat) (hx : a.eval x = vb) (hb : BySl w vb M g) (hn : L.length + M.length ≤ 10000) (hbase : base ≤ w.heap.size)
    (h : ∀ v' w', Grew w base v (L ++ M) v' w' → wpList Try.prog ops Q rest (a.put o.dst v') w') : wpList Try.prog ops Q (o :: rest) a w := by
  refine wpList_plain hgd fun _ hK => ?_
  obtain ⟨v', w', hr, h2⟩ := run_append_by w base o.type v L hown vb M g hb hn hbase
  unfold Oper.wp execOp
  simp only [ho, resolve, invoke, builtin, Sem.run_bind, Sem.run_pure, Result.andThen_ok, List.map_toArray, List.map_cons, List.map_nil, hs, hx, hr]
  exact hK _ _ (h v' w' h2)

end Go.Proofs.Ytoplekfnghkkdaa

/-
  Package decode: Kind, by its contract.
-/
namespace Go.Proofs.Ytoplekfnghkkdaa
open Go Go.RowKit
set_option linter.unusedVariables false
set_option linter.unusedSimpArgs false

set_option maxRecDepth 100000 in
set_option maxHeartbeats 2000000 in
theorem Kind_90 (v : Value) (L : List Int) (g : Nat) (w : World) (hv : BArg w v L g) (he : decE L = 90) :
    Calls Try.prog 15 #[v] w fun e w' => e = .returned (.int .i64 3) ∧ Upd [] w w' := by
  have HD := Lib.hid (Decode_any v L g w hv)
  have e1 : decE L = 90 := he
  clear hv he
  go_enter Try.func15, Try.ntmps15
  go_wp2_with (first | (have _t := HD; clear _t; go_at_call 13; refine HD.out.mono ?_; rintro e w2 ⟨rfl, hu⟩; have HU := Lib.hid hu; clear hu HD) | (have _t := HU; clear _t; refine at_store 28 rfl ?_; refine wpList_store_ins (decI L) w2.heap.size rfl _ _ rfl rfl rfl (heap_alloc_new w2 (.cells Ins.zero.cells 28)) rfl ?_; intro w3 hw; obtain ⟨_, z2⟩ := ins_new (S := []) (w0 := w2) hw (heap_alloc_new w2 (.cells Ins.zero.cells 28)) rfl ((Upd.refl [] w2).alloc _) (.inr (Nat.le_refl _)); have HV := Lib.hid (HU.out.also z2 (by simp)); clear z2 hw HU))
  go_ret
  exact ⟨rfl, HV.out⟩

set_option maxRecDepth 100000 in
set_option maxHeartbeats 2000000 in
theorem Kind_12 (v : Value) (L : List Int) (g : Nat) (w : World) (hv : BArg w v L g) (he : decE L = 12) :
    Calls Try.prog 15 #[v] w fun e w' => e = .returned (.int .i64 4) ∧ Upd [] w w' := by
  have HD := Lib.hid (Decode_any v L g w hv)
  have e1 : decE L = 12 := he
  clear hv he
  go_enter Try.func15, Try.ntmps15
  go_wp2_with (first | (have _t := HD; clear _t; go_at_call 13; refine HD.out.mono ?_; rintro e w2 ⟨rfl, hu⟩; have HU := Lib.hid hu; clear hu HD) | (have _t := HU; clear _t; refine at_store 28 rfl ?_; refine wpList_store_ins (decI L) w2.heap.size rfl _ _ rfl rfl rfl (heap_alloc_new w2 (.cells Ins.zero.cells 28)) rfl ?_; intro w3 hw; obtain ⟨_, z2⟩ := ins_new (S := []) (w0 := w2) hw (heap_alloc_new w2 (.cells Ins.zero.cells 28)) rfl ((Upd.refl [] w2).alloc _) (.inr (Nat.le_refl _)); have HV := Lib.hid (HU.out.also z2 (by simp)); clear z2 hw HU))
  go_ret
  exact ⟨rfl, HV.out⟩

set_option maxRecDepth 100000 in
set_option maxHeartbeats 2000000 in
theorem Kind_no (v : Value) (L : List Int) (g : Nat) (w : World) (hv : BArg w v L g) (he : decE L ≠ 90 ∧ decE L ≠ 12) :
    Calls Try.prog 15 #[v] w fun e w' => e = .returned (.int .i64 0) ∧ Upd [] w w' := by
  have HD := Lib.hid (Decode_any v L g w hv)
  have e1 : (decE L == 90) = false := by simpa using he.1
  have e2 : (decE L == 12) = false := by simpa using he.2
  clear hv he
  go_enter Try.func15, Try.ntmps15
  go_wp2_with (first | (have _t := HD; clear _t; go_at_call 13; refine HD.out.mono ?_; rintro e w2 ⟨rfl, hu⟩; have HU := Lib.hid hu; clear hu HD) | (have _t := HU; clear _t; refine at_store 28 rfl ?_; refine wpList_store_ins (decI L) w2.heap.size rfl _ _ rfl rfl rfl (heap_alloc_new w2 (.cells Ins.zero.cells 28)) rfl ?_; intro w3 hw; obtain ⟨_, z2⟩ := ins_new (S := []) (w0 := w2) hw (heap_alloc_new w2 (.cells Ins.zero.cells 28)) rfl ((Upd.refl [] w2).alloc _) (.inr (Nat.le_refl _)); have HV := Lib.hid (HU.out.also z2 (by simp)); clear z2 hw HU))
  go_ret
  exact ⟨rfl, HV.out⟩

theorem Kind_any (v : Value) (L : List Int) (g : Nat) (w : World) (hv : BArg w v L g) :
    Calls Try.prog 15 #[v] w fun e w' => e = .returned (.int .i64 (kindM L)) ∧ Upd [] w w' := by
  unfold kindM
  by_cases h1 : decE L = 90
  · rw [if_pos h1]; exact Kind_90 v L g w hv h1
  · rw [if_neg h1]
    by_cases h2 : decE L = 12
    · rw [if_pos h2]; exact Kind_12 v L g w hv h2
    · rw [if_neg h2]; exact Kind_no v L g w hv ⟨h1, h2⟩

end Go.Proofs.Ytoplekfnghkkdaa

/-
  The check of known answers of the laws on the decoder, by its contract.
-/
namespace Go.Proofs.Ytoplekfnghkkdaa
open Go Go.RowKit
set_option linter.unusedVariables false
set_option linter.unusedSimpArgs false

theorem BOk_of {L : List Int} (h : L.all (fun x => decide (0 ≤ x) && decide (x ≤ 255)) = true) : BOk L := by
  intro i
  rw [List.getD_eq_getElem?_getD]
  by_cases hi : i < L.length
  · rw [List.getElem?_eq_getElem hi, Option.getD_some]
    have := List.all_eq_true.1 h _ (List.getElem_mem hi)
    simpa using this
  · rw [List.getElem?_eq_none (by omega), Option.getD_none]
    exact ⟨by decide, by decide⟩

/-- A slice of bytes, new. -/
theorem barg_new (w : World) (L : List Int) (C : Array Value) (T : TypeId) (hC : ∀ i, i < L.length → C[i]? = some (.int .u8 (L.getD i 0))) (hr : L.all (fun x => decide (0 ≤ x) && decide (x ≤ 255)) = true) (hn : L.length ≤ maxLen) :
    BArg (w.alloc (.cells C T)) (.slice (some ⟨w.heap.size, 0, none⟩) L.length L.length) L w.heap.size := by
  refine ⟨.inr ⟨0, _, C, T, _, rfl, heap_alloc_new w _, fun i hi => by rw [Nat.zero_add]; exact hC i hi⟩, hn, BOk_of hr, fun b n c h => ?_, by simp⟩
  injection h with _ h1 h2
  omega

theorem kd_1_216_144 : decI [1, 216, 144] = ⟨3, 0, regO 0, regO 3, false, 2⟩ ∧ decN [1, 216, 144] = 2 ∧ decE [1, 216, 144] = 0 := ⟨rfl, rfl, rfl⟩
theorem kd_129 : decI [129] = Ins.zero ∧ decN [129] = 0 ∧ decE [129] = 10 := ⟨rfl, rfl, rfl⟩
theorem kd_15_11 : decI [15, 11] = Ins.zero ∧ decN [15, 11] = 0 ∧ decE [15, 11] = 90 := ⟨rfl, rfl, rfl⟩
theorem kd_244 : decI [244] = Ins.zero ∧ decN [244] = 0 ∧ decE [244] = 12 := ⟨rfl, rfl, rfl⟩
theorem kk_15_11 : kindM [15, 11] = 3 := rfl
theorem kk_244 : kindM [244] = 4 := rfl
theorem kk_144 : kindM [144] = 0 := rfl

theorem kb_1_216_144 (w : World) (T : TypeId) : BArg (w.alloc (.cells #[.int .u8 1, .int .u8 216, .int .u8 144] T)) (.slice (some ⟨w.heap.size, 0, none⟩) 3 3) [1, 216, 144] w.heap.size :=
  barg_new w [1, 216, 144] #[.int .u8 1, .int .u8 216, .int .u8 144] T (by intro i hi; have h : i = 0 ∨ i = 1 ∨ i = 2 := (by simp at hi; omega); rcases h with rfl | rfl | rfl <;> rfl) (by decide) (by unfold maxLen; decide)

theorem kb_129 (w : World) (T : TypeId) : BArg (w.alloc (.cells #[.int .u8 129] T)) (.slice (some ⟨w.heap.size, 0, none⟩) 1 1) [129] w.heap.size :=
  barg_new w [129] #[.int .u8 129] T (by intro i hi; have h : i = 0 := (by simp at hi; omega); rcases h with rfl <;> rfl) (by decide) (by unfold maxLen; decide)

theorem kb_15_11 (w : World) (T : TypeId) : BArg (w.alloc (.cells #[.int .u8 15, .int .u8 11] T)) (.slice (some ⟨w.heap.size, 0, none⟩) 2 2) [15, 11] w.heap.size :=
  barg_new w [15, 11] #[.int .u8 15, .int .u8 11] T (by intro i hi; have h : i = 0 ∨ i = 1 := (by simp at hi; omega); rcases h with rfl | rfl <;> rfl) (by decide) (by unfold maxLen; decide)

theorem kb_244 (w : World) (T : TypeId) : BArg (w.alloc (.cells #[.int .u8 244] T)) (.slice (some ⟨w.heap.size, 0, none⟩) 1 1) [244] w.heap.size :=
  barg_new w [244] #[.int .u8 244] T (by intro i hi; have h : i = 0 := (by simp at hi; omega); rcases h with rfl <;> rfl) (by decide) (by unfold maxLen; decide)

theorem kb_144 (w : World) (T : TypeId) : BArg (w.alloc (.cells #[.int .u8 144] T)) (.slice (some ⟨w.heap.size, 0, none⟩) 1 1) [144] w.heap.size :=
  barg_new w [144] #[.int .u8 144] T (by intro i hi; have h : i = 0 := (by simp at hi; omega); rcases h with rfl <;> rfl) (by decide) (by unfold maxLen; decide)

set_option maxRecDepth 100000 in
set_option maxHeartbeats 8000000 in
theorem known10_any (w : World) : Calls Try.prog 12 #[] w fun e w' => e = .returned (.bool true) ∧ Upd [] w w' := by
  have U0 := Lib.hid (Upd.refl [] w)
  go_enter Try.func12, Try.ntmps12
  go_wp2_with (first | (have _t := U0; clear _t; go_at_call 13; refine (Decode_any _ [1, 216, 144] _ _ (kb_1_216_144 w _)).mono ?_; rintro e w1 ⟨rfl, hu⟩; rw [kd_1_216_144.1, kd_1_216_144.2.1, kd_1_216_144.2.2]; have V1 := Lib.hid (((U0.out).alloc (.cells #[.int .u8 1, .int .u8 216, .int .u8 144] _)).also hu (by simp)); clear hu U0) | (have _t := V1; clear _t; refine at_store 28 rfl ?_; refine wpList_store_ins ⟨3, 0, regO 0, regO 3, false, 2⟩ w1.heap.size rfl _ _ rfl rfl rfl (heap_alloc_new w1 (.cells Ins.zero.cells 28)) rfl ?_; intro x1 hw; obtain ⟨z1, z2⟩ := ins_new (S := []) (w0 := w1) hw (heap_alloc_new w1 (.cells Ins.zero.cells 28)) rfl ((Upd.refl [] w1).alloc _) (.inr (Nat.le_refl _)); have U1 := Lib.hid (V1.out.also z2 (by simp)); have J1 := Lib.hid z1; have cj := cells_of z1; unfold Ins.cells regO at cj; clear z1 z2 hw V1) | (have _t := U1; clear _t; go_at_call 13; refine (Decode_any _ [129] _ _ (kb_129 x1 _)).mono ?_; rintro e w2 ⟨rfl, hu⟩; rw [kd_129.1, kd_129.2.1, kd_129.2.2]; have V2 := Lib.hid (((U1.out).alloc (.cells #[.int .u8 129] _)).also hu (by simp)); have J2 := Lib.hid (hu.get (heap_alloc_keep _ J1.out) (by simp)); clear J1; clear hu U1) | (have _t := V2; clear _t; refine at_store 28 rfl ?_; refine wpList_store_ins Ins.zero w2.heap.size rfl _ _ rfl rfl rfl (heap_alloc_new w2 (.cells Ins.zero.cells 28)) rfl ?_; intro x2 hw; obtain ⟨z1, z2⟩ := ins_new (S := []) (w0 := w2) hw (heap_alloc_new w2 (.cells Ins.zero.cells 28)) rfl ((Upd.refl [] w2).alloc _) (.inr (Nat.le_refl _)); have U2 := Lib.hid (V2.out.also z2 (by simp)); have J2x := Lib.hid (z2.get J2.out (by simp)); clear J2; have J2 := J2x; clear J2x; have cj := cells_of J2.out; unfold Ins.cells regO at cj; clear z1 z2 hw V2) | (have _t := U2; clear _t; go_at_call 13; refine (Decode_any _ [15, 11] _ _ (kb_15_11 x2 _)).mono ?_; rintro e w3 ⟨rfl, hu⟩; rw [kd_15_11.1, kd_15_11.2.1, kd_15_11.2.2]; have V3 := Lib.hid (((U2.out).alloc (.cells #[.int .u8 15, .int .u8 11] _)).also hu (by simp)); have J3 := Lib.hid (hu.get (heap_alloc_keep _ J2.out) (by simp)); clear J2; clear hu U2) | (have _t := V3; clear _t; refine at_store 28 rfl ?_; refine wpList_store_ins Ins.zero w3.heap.size rfl _ _ rfl rfl rfl (heap_alloc_new w3 (.cells Ins.zero.cells 28)) rfl ?_; intro x3 hw; obtain ⟨z1, z2⟩ := ins_new (S := []) (w0 := w3) hw (heap_alloc_new w3 (.cells Ins.zero.cells 28)) rfl ((Upd.refl [] w3).alloc _) (.inr (Nat.le_refl _)); have U3 := Lib.hid (V3.out.also z2 (by simp)); have J3x := Lib.hid (z2.get J3.out (by simp)); clear J3; have J3 := J3x; clear J3x; have cj := cells_of J3.out; unfold Ins.cells regO at cj; clear z1 z2 hw V3) | (have _t := U3; clear _t; go_at_call 13; refine (Decode_any _ [244] _ _ (kb_244 x3 _)).mono ?_; rintro e w4 ⟨rfl, hu⟩; rw [kd_244.1, kd_244.2.1, kd_244.2.2]; have V4 := Lib.hid (((U3.out).alloc (.cells #[.int .u8 244] _)).also hu (by simp)); have J4 := Lib.hid (hu.get (heap_alloc_keep _ J3.out) (by simp)); clear J3; clear hu U3) | (have _t := V4; clear _t; refine at_store 28 rfl ?_; refine wpList_store_ins Ins.zero w4.heap.size rfl _ _ rfl rfl rfl (heap_alloc_new w4 (.cells Ins.zero.cells 28)) rfl ?_; intro x4 hw; obtain ⟨z1, z2⟩ := ins_new (S := []) (w0 := w4) hw (heap_alloc_new w4 (.cells Ins.zero.cells 28)) rfl ((Upd.refl [] w4).alloc _) (.inr (Nat.le_refl _)); have U4 := Lib.hid (V4.out.also z2 (by simp)); have J4x := Lib.hid (z2.get J4.out (by simp)); clear J4; have J4 := J4x; clear J4x; have cj := cells_of J4.out; unfold Ins.cells regO at cj; clear z1 z2 hw V4) | (have _t := U4; clear _t; go_at_call 15; refine (Kind_any _ [15, 11] _ _ (kb_15_11 x4 _)).mono ?_; rintro e w5 ⟨rfl, hu⟩; rw [kk_15_11]; have U5 := Lib.hid (((U4.out).alloc (.cells #[.int .u8 15, .int .u8 11] _)).also hu (by simp)); clear hu U4) | (have _t := U5; clear _t; go_at_call 15; refine (Kind_any _ [244] _ _ (kb_244 w5 _)).mono ?_; rintro e w6 ⟨rfl, hu⟩; rw [kk_244]; have U6 := Lib.hid (((U5.out).alloc (.cells #[.int .u8 244] _)).also hu (by simp)); clear hu U5) | (have _t := U6; clear _t; go_at_call 15; refine (Kind_any _ [144] _ _ (kb_144 w6 _)).mono ?_; rintro e w7 ⟨rfl, hu⟩; rw [kk_144]; have U7 := Lib.hid (((U6.out).alloc (.cells #[.int .u8 144] _)).also hu (by simp)); clear hu U6))
  go_ret
  exact ⟨rfl, U7.out⟩

end Go.Proofs.Ytoplekfnghkkdaa

/-
  The law DecodeGroups: the plain part.
-/
namespace Go.Proofs.Ytoplekfnghkkdaa
open Go Go.RowKit
set_option linter.unusedVariables false
set_option linter.unusedSimpArgs false

/-! ### What holds along a walk: a block that stays, instructions that were laid -/
structure Gr (w : World) (bt : Nat) (o : Obj) (l : List (Nat × Ins)) (w1 : World) : Prop where
  t : w1.heap[bt]? = some o
  i : ∀ p, p ∈ l → w1.heap[p.1]? = some (.cells p.2.cells 28 (0, 0))
  u : Upd [] w w1
  n : w.heap.size ≤ bt

theorem Gr.step {w w1 w2 : World} {bt : Nat} {o : Obj} {l : List (Nat × Ins)} (h : Gr w bt o l w1) (u : Upd [] w1 w2) : Gr w bt o l w2 :=
  ⟨u.get h.t (by simp), fun p hp => u.get (h.i p hp) (by simp), h.u.also u (by simp), h.n⟩

theorem Gr.lay {w w1 w2 : World} {bt : Nat} {o : Obj} {l : List (Nat × Ins)} (h : Gr w bt o l w1) (j : Ins) (hw : (w1.alloc (.cells Ins.zero.cells 28)).setCells w1.heap.size 0 j.cells.toList = w2) : Gr w bt o ((w1.heap.size, j) :: l) w2 := by
  obtain ⟨z1, z2⟩ := ins_new (S := []) (w0 := w1) hw (heap_alloc_new w1 (.cells Ins.zero.cells 28)) rfl ((Upd.refl [] w1).alloc _) (.inr (Nat.le_refl _))
  have h2 := h.step z2
  refine ⟨h2.t, fun p hp => ?_, h2.u, h.n⟩
  rcases List.mem_cons.1 hp with rfl | hp
  · exact z1
  · exact h2.i p hp

theorem Gr.lt {w w1 : World} {bt : Nat} {o : Obj} {l : List (Nat × Ins)} (h : Gr w bt o l w1) : bt < w1.heap.size := lt_of_heap h.t

/-- Along a drawn region that lays an instruction (operation i) and stores into it (operation k). -/
structure GrD (w : World) (bt : Nat) (o : Obj) (l : List (Nat × Ins)) (I : Ins) (i k : Nat) (d : Nat → Bool) (r : Nat → Value) (w1 : World) : Prop where
  b : Gr w bt o l w1
  x : d i = true → ∃ g Z, r i = .pointer (some ⟨g, 0, none⟩) ∧ w1.heap[g]? = some (.cells Z 28 (0, 0)) ∧ Z.size = 16 ∧ (d k = true → Z = I.cells) ∧ g ≠ bt ∧ w.heap.size ≤ g ∧ ∀ p, p ∈ l → p.1 ≠ g
  o : d k = true → d i = true
  ne : i ≠ k

section
variable {w w1 w2 : World} {bt : Nat} {o : Obj} {l : List (Nat × Ins)} {I : Ins} {i k : Nat} {d : Nat → Bool} {r : Nat → Value}

theorem GrD.start (h : Gr w bt o l w1) (ne : i ≠ k) (r : Nat → Value) : GrD w bt o l I i k (fun _ => false) r w1 :=
  ⟨h, fun h => (by cases h), fun h => (by cases h), ne⟩

theorem GrD.quiet (h : GrD w bt o l I i k d r w1) (hu : Upd [] w1 w2) (m : Nat) (h1 : i ≠ m) (h2 : k ≠ m) : GrD w bt o l I i k (updD d m) r w2 := by
  refine ⟨h.b.step hu, fun hx => ?_, fun ho => ?_, h.ne⟩
  · rw [bD_ne h1] at hx
    obtain ⟨g, Z, e1, e2, e3, e4, e5⟩ := h.x hx
    exact ⟨g, Z, e1, hu.get e2 (by simp), e3, fun hk => e4 (by rwa [bD_ne h2] at hk), e5⟩
  · rw [bD_ne h2] at ho; rw [bD_ne h1]; exact h.o ho

theorem GrD.same (h : GrD w bt o l I i k d r w1) (m : Nat) (h1 : i ≠ m) (h2 : k ≠ m) : GrD w bt o l I i k (updD d m) r w1 := h.quiet (Upd.refl [] w1) m h1 h2

theorem GrD.lay (h : GrD w bt o l I i k d r w1) (hd : d i = false) : GrD w bt o l I i k (updD d i) (updV r i (.pointer (some ⟨w1.heap.size, 0, none⟩))) (w1.alloc (.cells Ins.zero.cells 28)) := by
  refine ⟨h.b.step ((Upd.refl [] w1).alloc _), fun _ => ⟨_, _, bV_eq, heap_alloc_new _ _, rfl, fun hk => ?_, ?_, h.b.u.size, fun p hp e => ?_⟩, fun _ => bD_eq, h.ne⟩
  · rw [bD_ne h.ne.symm] at hk
    rw [h.o hk] at hd; cases hd
  · have := h.b.lt; omega
  · have := lt_of_heap (h.b.i p hp); omega

theorem GrD.store (h : GrD w bt o l I i k d r w1) (hd : d i = true) {g : Nat} {Z : Array Value} (hg : r i = .pointer (some ⟨g, 0, none⟩)) (hb : w1.heap[g]? = some (.cells Z 28 (0, 0))) (hZ : Z.size = 16) (hn : g ≠ bt ∧ w.heap.size ≤ g ∧ ∀ p, p ∈ l → p.1 ≠ g) :
    GrD w bt o l I i k (updD d k) r (w1.setCells g 0 I.cells.toList) := by
  have hu : Upd [g] w1 (w1.setCells g 0 I.cells.toList) := (Upd.refl [g] w1).setCells (.inl (by simp)) _ _
  refine ⟨⟨hu.get h.b.t (by simp; exact fun e => hn.1 e.symm), fun p hp => hu.get (h.b.i p hp) (by simp; exact hn.2.2 p hp), h.b.u.also hu (by simp; exact hn.2.1), h.b.n⟩, fun _ => ⟨g, I.cells, hg, ?_, I.size, fun _ => rfl, hn⟩, fun _ => by rw [bD_ne h.ne]; exact hd, h.ne⟩
  rw [heap_setCells_same _ _ _ _ hb, wr_ins Z I hZ]

theorem GrD.fin (h : GrD w bt o l I i k d r w1) (hi : d i = true) (hk : d k = true) : ∃ g, r i = .pointer (some ⟨g, 0, none⟩) ∧ Gr w bt o ((g, I) :: l) w1 := by
  obtain ⟨g, Z, e1, e2, e3, e4, e5⟩ := h.x hi
  rw [e4 hk] at e2
  refine ⟨g, e1, h.b.t, fun p hp => ?_, h.b.u, h.b.n⟩
  rcases List.mem_cons.1 hp with rfl | hp
  · exact e2
  · exact h.b.i p hp
end
end Go.Proofs.Ytoplekfnghkkdaa

/-
  The law DecodeNone: the plain part; what holds along the walks that make slices of bytes and decode them. No condition.
-/
namespace Go.Proofs.Ytoplekfnghkkdaa
open Go Go.RowKit
set_option linter.unusedVariables false
set_option linter.unusedSimpArgs false

theorem BOk.cons {c : Int} {L : List Int} (hc : 0 ≤ c ∧ c ≤ 255) (h : BOk L) : BOk (c :: L) := by
  intro i
  cases i with
  | zero => simpa using hc
  | succ i => simpa using h i
theorem BOk.nil : BOk [] := fun i => by simp

/-- Along a walk: nothing that was there has changed; a slice of the walk's own reads as it did. -/
structure Dn (w : World) (v : Value) (L : List Int) (w1 : World) : Prop where
  u : Upd [] w w1
  o : Own w1 w.heap.size v L

section
variable {w w1 w2 : World} {v v' : Value} {L N : List Int}
theorem Dn.start (h : Upd [] w w1) : Dn w (.slice none 0 0) [] w1 := ⟨h, own_nil _ _⟩
theorem Dn.step (h : Dn w v L w1) (u : Upd [] w1 w2) : Dn w v L w2 := ⟨h.u.also u (by simp), h.o.keep u (by simp)⟩
theorem Dn.ins (h : Dn w v L w1) {j : Ins} (hw : (w1.alloc (.cells Ins.zero.cells 28)).setCells w1.heap.size 0 j.cells.toList = w2) : Dn w v L w2 := by
  obtain ⟨_, z2⟩ := ins_new (S := []) (w0 := w1) hw (heap_alloc_new w1 (.cells Ins.zero.cells 28)) rfl ((Upd.refl [] w1).alloc _) (.inr (Nat.le_refl _))
  exact h.step z2

theorem Dn.lit (h : Dn w v L w1) (C : Array Value) (N : List Int) (hC : C.toList = N.map (.int .u8)) (hn : N.length ≤ maxLen) :
    Own (w1.alloc (.cells C 5)) w.heap.size (.slice (some ⟨w1.heap.size, 0, none⟩) N.length N.length) N := own_lit w1 _ N C hC h.u.size hn

theorem Dn.app (h : Dn w v L w1) {C : Array Value} {n : Nat} (hg : Grew (w1.alloc (.cells C 5)) w.heap.size (.slice (some ⟨w1.heap.size, 0, none⟩) n n) N v' w2) : Dn w v L w2 := by
  have hu : Upd [] w w2 := (h.u.alloc _).also hg.u (by intro x hx; simp [Value.ownBlock] at hx; subst hx; exact .inr h.u.size)
  exact ⟨hu, (h.o.keep ((Upd.refl [] w1).alloc _) (by simp)).keep hg.u (by intro g e hx; simp [Value.ownBlock] at hx; have := (h.o.block g e).2; omega)⟩

/-- An append to the slice itself. -/
theorem Dn.grow (h : Dn w v L w1) (hg : Grew w1 w.heap.size v N v' w2) : Dn w v' N w2 :=
  ⟨h.u.also hg.u (by intro x hx; cases hv : v.ownBlock with | none => rw [hv] at hx; simp at hx | some g => rw [hv] at hx; simp at hx; exact .inr (by have := (h.o.block g hv).1; omega)), hg.o⟩

theorem Dn.take (h : Dn w v L w1) {C : Array Value} {n : Nat} (hg : Grew (w1.alloc (.cells C 5)) w.heap.size (.slice (some ⟨w1.heap.size, 0, none⟩) n n) N v' w2) : Dn w v' N w2 := ⟨(h.app hg).u, hg.o⟩
end
end Go.Proofs.Ytoplekfnghkkdaa

/-
  The law DecodeForms: the plain part; what holds along its walk. No condition.
-/
namespace Go.Proofs.Ytoplekfnghkkdaa
open Go Go.RowKit
set_option linter.unusedVariables false
set_option linter.unusedSimpArgs false

/-- Along the walk: the slice, the operand that is wanted. -/
structure Fm (w : World) (v : Value) (L : List Int) (ob : Nat) (o : Opd) (w1 : World) : Prop where
  d : Dn w v L w1
  o : w1.heap[ob]? = some (.cells o.cells 26 (0, 0))
  n : w.heap.size ≤ ob

section
variable {w w1 w2 : World} {v v' : Value} {L N : List Int} {ob : Nat} {o o' : Opd}
theorem Fm.step (h : Fm w v L ob o w1) (u : Upd [] w1 w2) : Fm w v L ob o w2 := ⟨h.d.step u, u.get h.o (by simp), h.n⟩

theorem Fm.grow (h : Fm w v L ob o w1) (hg : Grew w1 w.heap.size v N v' w2) : Fm w v' N ob o w2 := by
  refine ⟨h.d.grow hg, hg.u.get h.o ?_, h.n⟩
  intro hx
  have := own_other h.d.o h.o (by decide)
  cases hv : v.ownBlock with
  | none => rw [hv] at hx; simp at hx
  | some g => rw [hv] at hx this; simp at hx; subst hx; exact this rfl

theorem Fm.touch (h : Fm w v L ob o w1) (u : Upd [ob] w1 w2) (ho : w2.heap[ob]? = some (.cells o'.cells 26 (0, 0))) : Fm w v L ob o' w2 := by
  refine ⟨⟨h.d.u.also u (by simp; exact h.n), h.d.o.keep u ?_⟩, ho, h.n⟩
  intro g hg hx
  simp at hx
  subst hx
  exact own_other h.d.o h.o (by decide) hg

theorem Fm.set (h : Fm w v L ob o w1) (j : Nat) (x : Value) (ho : o.cells.setIfInBounds j x = o'.cells) : Fm w v L ob o' (w1.setCell ⟨ob, j, none⟩ x) := by
  have u : Upd [ob] w1 (w1.setCell ⟨ob, j, none⟩ x) := (Upd.refl _ w1).setCell (by simp) _
  have ho' := heap_set_same h.o j x
  rw [ho] at ho'
  exact h.touch u ho'

theorem Fm.all (h : Fm w v L ob o w1) (hw : w1.setCells ob 0 o'.cells.toList = w2) : Fm w v L ob o' w2 := by
  obtain ⟨z1, z2⟩ := opd_new hw h.o rfl
  exact h.touch z2 z1

theorem Fm.start {w0 : World} (h : Upd [] w w0) (C : Array Value) (N : List Int) (hC : C.toList = N.map (.int .u8)) (hn : N.length ≤ maxLen) :
    Fm w (.slice (some ⟨w0.heap.size, 0, none⟩) N.length N.length) N (w0.heap.size + 1) o ((w0.alloc (.cells C 5)).alloc (.cells o.cells 26)) := by
  have h1 := heap_alloc_new (w0.alloc (.cells C 5)) (.cells o.cells 26)
  rw [show (w0.alloc (.cells C 5)).heap.size = w0.heap.size + 1 by simp] at h1
  exact ⟨⟨(h.alloc _).alloc _, ((Dn.start h).lit C N hC hn).keep ((Upd.refl [] _).alloc _) (by simp)⟩, h1, by have := h.size; omega⟩
end

theorem Grew.form {w : World} {base : Nat} {v : Value} {L : List Int} {v' : Value} {w' : World} (h : Grew w base v L v' w') (n : Nat) (hn : L.length = n) : ∃ b c, v' = .slice b n c := by
  subst hn
  exact ownsRow_form h.o

end Go.Proofs.Ytoplekfnghkkdaa

/-
  The decoder reads nothing behind what it tells: plain facts. No condition; no program in sight.
-/
namespace Go.Proofs.Ytoplekfnghkkdaa
open Go Go.RowKit
set_option linter.unusedVariables false
set_option linter.unusedSimpArgs false

/-- Another list that agrees on the first n. -/
def Agree (n : Nat) (L L' : List Int) : Prop := n ≤ L'.length ∧ ∀ i, i < n → L'.getD i 0 = L.getD i 0

theorem Agree.le {n m : Nat} {L L' : List Int} (h : Agree n L L') (hm : m ≤ n) : Agree m L L' :=
  ⟨Nat.le_trans hm h.1, fun i hi => h.2 i (by omega)⟩

/-- Reads at most n, and nothing behind. -/
def Loc {α : Type} (n : Nat) (f : List Int → Nat → DR α) : Prop := ∀ L k, k ≤ L.length → match f L k with
  | .ok v k' => k ≤ k' ∧ k' ≤ k + n ∧ k' ≤ L.length ∧ ∀ L', Agree k' L L' → f L' k = .ok v k'
  | .err c => 10 ≤ c ∧ (c = 10 ∨ ∀ L', Agree L.length L L' → f L' k = .err c)

theorem Loc.pure {α : Type} (v : α) : Loc 0 (fun _ k => .ok v k) := fun L k h => ⟨Nat.le_refl _, Nat.le_refl _, h, fun _ _ => rfl⟩
theorem Loc.fail {α : Type} {c : Int} (hc : 10 ≤ c) : Loc 0 (fun _ _ => (.err c : DR α)) := fun L k _ => ⟨hc, .inr fun _ _ => rfl⟩

theorem Loc.mono {α : Type} {n m : Nat} {f : List Int → Nat → DR α} (h : Loc n f) (hm : n ≤ m) : Loc m f := by
  intro L k hk
  have := h L k hk
  split <;> rename_i he <;> rw [he] at this
  · exact ⟨this.1, by omega, this.2.2⟩
  · exact this

theorem Loc.bind {α β : Type} {n m : Nat} {f : List Int → Nat → DR α} {g : α → List Int → Nat → DR β} (hf : Loc n f) (hg : ∀ v, Loc m (g v)) :
    Loc (n + m) (fun L k => (f L k).bind fun v k => g v L k) := by
  intro L k hk
  have h := hf L k hk
  cases hfk : f L k with
  | err c =>
    rw [hfk] at h
    simp only [hfk, DR.bind_err]
    refine ⟨h.1, ?_⟩
    rcases h.2 with h | h
    · exact .inl h
    · exact .inr fun L' hL => by rw [h L' hL]; rfl
  | ok v k' =>
    rw [hfk] at h
    simp only [hfk, DR.bind_ok]
    have h2 := hg v L k' h.2.2.1
    cases hgk : g v L k' with
    | err c =>
      rw [hgk] at h2
      simp only [hgk]
      refine ⟨h2.1, ?_⟩
      rcases h2.2 with h2 | h2
      · exact .inl h2
      · exact .inr fun L' hL => by rw [h.2.2.2 L' (hL.le h.2.2.1), DR.bind_ok, h2 L' hL]
    | ok u k2 =>
      rw [hgk] at h2
      simp only [hgk]
      exact ⟨by omega, by omega, h2.2.2.1, fun L' hL => by rw [h.2.2.2 L' (hL.le h2.1), DR.bind_ok, h2.2.2.2 L' hL]⟩

end Go.Proofs.Ytoplekfnghkkdaa

/-
  The law DecodeFront: what holds along its walk. No condition.
-/
namespace Go.Proofs.Ytoplekfnghkkdaa
open Go Go.RowKit
set_option linter.unusedVariables false
set_option linter.unusedSimpArgs false

/-- Along a walk: a slice of the walk's own, instructions that were laid. -/
structure Fi (w : World) (l : List (Nat × Ins)) (v : Value) (L : List Int) (w1 : World) : Prop where
  d : Dn w v L w1
  i : ∀ p, p ∈ l → w1.heap[p.1]? = some (.cells p.2.cells 28 (0, 0))

section
variable {w w1 w2 : World} {v v' : Value} {L N : List Int} {l : List (Nat × Ins)}
theorem Fi.start (h : Upd [] w w1) : Fi w [] (.slice none 0 0) [] w1 := ⟨Dn.start h, fun _ h => by cases h⟩
theorem Fi.step (h : Fi w l v L w1) (u : Upd [] w1 w2) : Fi w l v L w2 := ⟨h.d.step u, fun p hp => u.get (h.i p hp) (by simp)⟩
theorem Fi.ins (h : Fi w l v L w1) {j : Ins} (hw : (w1.alloc (.cells Ins.zero.cells 28)).setCells w1.heap.size 0 j.cells.toList = w2) : Fi w ((w1.heap.size, j) :: l) v L w2 := by
  obtain ⟨z1, z2⟩ := ins_new (S := []) (w0 := w1) hw (heap_alloc_new w1 (.cells Ins.zero.cells 28)) rfl ((Upd.refl [] w1).alloc _) (.inr (Nat.le_refl _))
  have h2 := h.step z2
  refine ⟨h2.d, fun p hp => ?_⟩
  rcases List.mem_cons.1 hp with rfl | hp
  · exact z1
  · exact h2.i p hp

theorem Fi.grow (h : Fi w l v L w1) (hg : Grew w1 w.heap.size v N v' w2) : Fi w l v' N w2 := by
  refine ⟨h.d.grow hg, fun p hp => hg.u.get (h.i p hp) ?_⟩
  intro hx
  have := own_other h.d.o (h.i p hp) (by decide)
  cases hv : v.ownBlock with
  | none => rw [hv] at hx; simp at hx
  | some g => rw [hv] at hx this; simp at hx; subst hx; exact this rfl
end

end Go.Proofs.Ytoplekfnghkkdaa
