/-
  The guest's memory as plain data (rights of 64 pages, 16384 bytes), how it lies in the cells of the program's row of pages and of the reference's struct, and a frame relation between worlds ('Upd'). No condition; no walk here.
-/
import Derived.WalkKit
import Derived.Deep.MidRow
namespace Go.Proofs.Ytncafchgdgmeaaa
open Go Go.RowKit
set_option linter.unusedVariables false
set_option linter.unusedSimpArgs false

/-! ### A frame relation: but for the blocks listed, all that was there is as it was. -/
structure Upd (S : List Nat) (w w' : World) : Prop where
  os : w'.os = w.os
  tape : w'.tape = w.tape
  output : w'.output = w.output
  size : w.heap.size ≤ w'.heap.size
  block : ∀ k, k < w.heap.size → k ∉ S → w'.heap[k]? = w.heap[k]?

theorem Upd.refl (S : List Nat) (w : World) : Upd S w w := ⟨rfl, rfl, rfl, Nat.le_refl _, fun _ _ _ => rfl⟩

theorem Upd.trans {S S' T : List Nat} {a b c : World} (h : Upd S a b) (k : Upd S' b c) (hS : ∀ x, x ∈ S → x ∈ T) (hS' : ∀ x, x ∈ S' → x ∈ T ∨ a.heap.size ≤ x) : Upd T a c :=
  ⟨k.os.trans h.os, k.tape.trans h.tape, k.output.trans h.output, Nat.le_trans h.size k.size, fun i hi hn => by
    have h1 : i ∉ S := fun hh => hn (hS i hh)
    have h2 : i ∉ S' := fun hh => by
      rcases hS' i hh with h | h
      · exact hn h
      · omega
    rw [k.block i (Nat.lt_of_lt_of_le hi h.size) h2, h.block i hi h1]⟩

theorem Upd.mono {S T : List Nat} {a b : World} (h : Upd S a b) (hS : ∀ x, x ∈ S → x ∈ T) : Upd T a b :=
  h.trans (Upd.refl [] b) hS (by simp)

theorem Upd.new {S' : List Nat} {a b c : World} (h : Upd [] a b) (k : Upd S' b c) (hS' : ∀ x, x ∈ S' → a.heap.size ≤ x) : Upd [] a c :=
  h.trans k (by simp) (fun x hx => .inr (hS' x hx))

theorem Upd.also {S S' : List Nat} {a b c : World} (h : Upd S a b) (k : Upd S' b c) (hS' : ∀ x, x ∈ S' → x ∈ S ∨ a.heap.size ≤ x) : Upd S a c :=
  h.trans k (fun _ h => h) hS'

theorem Upd.drew {S : List Nat} {a b : World} (h : Upd S a b) : Upd S a b.drew := ⟨h.os, h.tape, h.output, h.size, h.block⟩

theorem Upd.alloc {S : List Nat} {a b : World} (h : Upd S a b) (o : Obj) : Upd S a (b.alloc o) :=
  h.trans (S' := []) ⟨rfl, rfl, rfl, by simp, fun k hk _ => Below.heap_alloc _ _ _ hk⟩ (fun _ h => h) (by simp)

theorem Upd.setCell {S : List Nat} {a b : World} (h : Upd S a b) {p : Addr} (hp : p.block ∈ S ∨ a.heap.size ≤ p.block) (u : Value) : Upd S a (b.setCell p u) :=
  h.trans (S' := [p.block]) ⟨rfl, rfl, rfl, by simp [World.setCell], fun k _ hn => Below.heap_setCell _ _ _ _ (by simpa using hn)⟩ (fun _ h => h) (by simpa using hp)

theorem Upd.below {a b : World} (h : Upd [] a b) : Below a.heap.size a b := ⟨h.os, h.tape, h.output, h.size, fun k hk => h.block k hk (by simp)⟩

theorem Upd.of_below {S : List Nat} {a b : World} (h : Below a.heap.size a b) : Upd S a b := ⟨h.os, h.tape, h.output, h.size, fun k hk _ => h.block k hk⟩

theorem Upd.get {S : List Nat} {w w' : World} (h : Upd S w w') {k : Nat} {o : Obj} (hk : w.heap[k]? = some o) (hn : k ∉ S) : w'.heap[k]? = some o := by
  have hlt : k < w.heap.size := by
    by_cases hl : k < w.heap.size
    · exact hl
    · rw [Array.getElem?_eq_none (by omega)] at hk; cases hk
  rw [h.block k hlt hn]; exact hk

theorem lt_of_heap {w : World} {k : Nat} {o : Obj} (hk : w.heap[k]? = some o) : k < w.heap.size := by
  by_cases hl : k < w.heap.size
  · exact hl
  · rw [Array.getElem?_eq_none (by omega)] at hk; cases hk

/-! ### A block known whole: its cells. -/
theorem cells_of {w : World} {b : Nat} {c : Array Value} {t : TypeId} {f : Nat × Nat} (h : w.heap[b]? = some (.cells c t f)) (o : Nat) : w.cell? ⟨b, o, none⟩ = c[o]? := by
  simp [World.cell?, h]

theorem free_of {w : World} {b : Nat} {c : Array Value} {t : TypeId} (h : w.heap[b]? = some (.cells c t (0, 0))) (o : Nat) : w.frozen? ⟨b, o, none⟩ = false := by
  simp [World.frozen?, h]

theorem heap_set_same {w : World} {b : Nat} {c : Array Value} {t : TypeId} {f : Nat × Nat} (h : w.heap[b]? = some (.cells c t f)) (o : Nat) (v : Value) :
    (w.setCell ⟨b, o, none⟩ v).heap[b]? = some (.cells (c.setIfInBounds o v) t f) := by
  simp [World.setCell, Array.getElem?_modify, h]

theorem heap_set_other {w : World} {a : Addr} {b : Nat} (v : Value) (hne : b ≠ a.block) : (w.setCell a v).heap[b]? = w.heap[b]? :=
  Below.heap_setCell _ _ _ _ hne

theorem heap_alloc_keep {w : World} {b : Nat} {x : Obj} (o : Obj) (h : w.heap[b]? = some x) : (w.alloc o).heap[b]? = some x := by
  rw [heap_alloc_old _ _ (lt_of_heap h)]; exact h

theorem heap_set_keep {w : World} {a : Addr} {b : Nat} {x : Obj} (v : Value) (hne : b ≠ a.block) (h : w.heap[b]? = some x) : (w.setCell a v).heap[b]? = some x := by
  rw [heap_set_other v hne]; exact h

/-! ### A struct or an array read out of, laid into the middle of a block: the cells as an array. -/
theorem wpList_load_arr {P : Program} {ops : Array Oper} {rest : List Oper} {op : Oper} {a : Act} {w : World} {Q : Exit → Act → World → Prop} (hgd : op.guard = none) (ty : TypeId) (x : Operand) (ho : op.op = .load ty x)
    (b o : Nat) (hx : a.eval x = .pointer (some ⟨b, o, none⟩)) (cs : Array Value) (d : TypeDesc) (hc : w.rangeAt b o cs.toList)
    (hu : P.underlying ty = some d) (hd : d.isRow = true) (hi : (P.info? ty).map (·.size) = some cs.size)
    (h : wpList P ops Q rest (a.put op.dst (.agg cs)) w) : wpList P ops Q (op :: rest) a w :=
  wpList_load_mid hgd ty x ho b o hx cs.toList d hc hu hd (by rw [hi, Array.length_toList]) (by rw [Array.toArray_toList]; exact h)

theorem range_whole {w : World} {b : Nat} {c : Array Value} {t : TypeId} {f : Nat × Nat} (h : w.heap[b]? = some (.cells c t f)) : w.rangeAt b 0 c.toList := by
  intro j v hv
  rw [cells_of h, Nat.zero_add, ← hv, Array.getElem?_toList]

/-- Cells written over from place o on. -/
def wr (c : Array Value) (o : Nat) : List Value → Array Value
  | [] => c
  | v :: r => wr (c.setIfInBounds o v) (o + 1) r

theorem wr_size (vs : List Value) : ∀ (c : Array Value) (o : Nat), (wr c o vs).size = c.size := by
  induction vs with
  | nil => intro c o; rfl
  | cons v r ih => intro c o; rw [wr, ih, Array.size_setIfInBounds]

theorem wr_get (vs : List Value) : ∀ (c : Array Value) (o k : Nat), o + vs.length ≤ c.size → (wr c o vs)[k]? = if o ≤ k ∧ k < o + vs.length then vs[k - o]? else c[k]? := by
  induction vs with
  | nil => intro c o k _; rw [wr, if_neg (by simp)]
  | cons v r ih =>
    intro c o k h
    simp only [List.length_cons] at h ⊢
    rw [wr, ih _ _ _ (by rw [Array.size_setIfInBounds]; omega)]
    by_cases e : o = k
    · subst e
      rw [if_neg (by omega), if_pos (by omega), Nat.sub_self, Array.getElem?_setIfInBounds, if_pos rfl, if_pos (by omega)]
      rfl
    · by_cases h1 : o + 1 ≤ k ∧ k < o + 1 + r.length
      · rw [if_pos h1, if_pos (by omega), show k - o = (k - (o + 1)) + 1 from by omega, List.getElem?_cons_succ]
      · rw [if_neg h1, if_neg (by omega), Array.getElem?_setIfInBounds, if_neg e]

theorem heap_setCells_same {b : Nat} {t : TypeId} {f : Nat × Nat} (vs : List Value) : ∀ (w : World) (c : Array Value) (o : Nat), w.heap[b]? = some (.cells c t f) →
    (w.setCells b o vs).heap[b]? = some (.cells (wr c o vs) t f) := by
  induction vs with
  | nil => intro w c o h; exact h
  | cons v r ih => intro w c o h; exact ih _ _ _ (heap_set_same h o v)

theorem heap_setCells_other {b b' : Nat} (hne : b' ≠ b) (vs : List Value) : ∀ (w : World) (o : Nat), (w.setCells b o vs).heap[b']? = w.heap[b']? := by
  induction vs with
  | nil => intro w o; rfl
  | cons v r ih => intro w o; rw [World.setCells, ih]; exact heap_set_other v hne

theorem Upd.setCells {S : List Nat} {a : World} {q : Nat} (hp : q ∈ S ∨ a.heap.size ≤ q) (vs : List Value) : ∀ {b : World} (o : Nat), Upd S a b → Upd S a (b.setCells q o vs) := by
  induction vs with
  | nil => intro b o h; exact h
  | cons v r ih => intro b o h; exact ih _ (h.setCell (p := ⟨q, o, none⟩) hp v)

theorem there_of {w : World} {b : Nat} {c : Array Value} {t : TypeId} (h : w.heap[b]? = some (.cells c t (0, 0))) (o n : Nat) (hn : o + n ≤ c.size) : w.there b o n := by
  intro j hj
  rw [cells_of h, free_of h]
  exact ⟨by rw [Array.getElem?_eq_getElem (by omega)]; rfl, rfl⟩

theorem wpList_store_arr {P : Program} {ops : Array Oper} {rest : List Oper} {op : Oper} {a : Act} {w : World} {Q : Exit → Act → World → Prop} (hgd : op.guard = none) (ty : TypeId) (x y : Operand) (ho : op.op = .store ty x y)
    (b o : Nat) (cs : Array Value) (hx : a.eval x = .pointer (some ⟨b, o, none⟩)) (hy : a.eval y = .agg cs)
    {c : Array Value} {t : TypeId} (hb : w.heap[b]? = some (.cells c t (0, 0))) (hn : o + cs.size ≤ c.size) (hi : (P.info? ty).map (·.size) = some cs.size) (h1 : cs.all (·.oneCell') = true)
    (h : wpList P ops Q rest (a.put op.dst undef) (w.setCells b o cs.toList)) : wpList P ops Q (op :: rest) a w :=
  wpList_store_mid hgd ty x y ho b o cs hx hy (there_of hb o cs.size hn) hi h1 h

/-- An operation that builds a struct, by its run. -/
theorem wpList_build {P : Program} {ops : Array Oper} {rest : List Oper} {op : Oper} {a : Act} {w : World} {Q : Exit → Act → World → Prop} (hgd : op.guard = none) (ty : TypeId) (ps : List (Nat × Operand)) (ho : op.op = .build ty ps.toArray)
    (vs : List (Nat × Value)) (hx : ps.map (fun x => (x.1, a.eval x.2)) = vs) (v : Value) (hr : (Instr.build ty vs.toArray).run P w = .ok v w)
    (h : wpList P ops Q rest (a.put op.dst v) w) : wpList P ops Q (op :: rest) a w :=
  wpList_plain hgd fun _ hK => by
    unfold Oper.wp execOp
    simp only [ho]
    have : (fun (x : Nat × Operand) => match x with | (i, x) => (i, a.eval x)) = (fun x : Nat × Operand => (x.1, a.eval x.2)) := by funext x; rfl
    rw [this, List.map_toArray, hx]
    simp only [Sem.run_bind, hr, Result.andThen_ok, Sem.run_pure]
    exact hK _ _ h

/-- A call of a builtin with one argument, by its run. -/
theorem wpList_builtin1 {P : Program} {ops : Array Oper} {rest : List Oper} {op : Oper} {a : Act} {w : World} {Q : Exit → Act → World → Prop} (hgd : op.guard = none) (b : Builtin) (x : Operand) (ats : Array TypeId)
    (ho : op.op = .call { callee := .builtin b, args := #[x], argTypes := ats }) (y : Value) (hx : a.eval x = y) (v : Value) (w' : World)
    (hr : ∀ cs, (builtin b ats op.type cs #[y]).run P w = .ok (.value v) w')
    (h : wpList P ops Q rest (a.put op.dst v) w') : wpList P ops Q (op :: rest) a w :=
  wpList_plain hgd fun _ hK => by
    obtain ⟨dst, o, type, pos, after, guard⟩ := op
    simp only at ho
    subst ho
    subst hx
    unfold Oper.wp
    rw [BigFrame.execOp_builtin]
    simp only [List.map_toArray, List.map_cons, List.map_nil] at hr ⊢
    rw [hr]
    exact hK _ _ h

/-! ### The guest's memory. -/
structure Mem where
  R : Nat → Int
  B : Nat → Int

@[ext] theorem Mem.ext' {a b : Mem} (h : a.R = b.R) (k : a.B = b.B) : a = b := by
  cases a; cases b; simp_all

structure Mem.Ok (M : Mem) : Prop where
  R : ∀ p, 0 ≤ M.R p ∧ M.R p ≤ 7
  B : ∀ a, 0 ≤ M.B a ∧ M.B a ≤ 255

def Mem.zero : Mem := ⟨fun _ => 0, fun _ => 0⟩

theorem Mem.zero_ok : Mem.zero.Ok := ⟨fun _ => by simp [Mem.zero], fun _ => by simp [Mem.zero]⟩

/-- The cell at place k of the program's row of pages: 257 cells a page, its rights first. -/
def Mem.at_ (M : Mem) (k : Nat) : Value :=
  if k % 257 = 0 then .int .i64 (M.R (k / 257)) else .int .u8 (M.B (k / 257 * 256 + (k % 257 - 1)))

def Mem.cells (M : Mem) : Array Value := (Array.range 16448).map M.at_

/-- The cells of one page. -/
def Mem.page (M : Mem) (p : Nat) : Array Value := (Array.range 257).map fun j => M.at_ (p * 257 + j)

theorem Mem.size_cells (M : Mem) : M.cells.size = 16448 := by simp [Mem.cells]
theorem Mem.size_page (M : Mem) (p : Nat) : (M.page p).size = 257 := by simp [Mem.page]

theorem Mem.getElem?_cells (M : Mem) (k : Nat) (h : k < 16448) : M.cells[k]? = some (M.at_ k) := by
  simp [Mem.cells, Array.getElem?_map, Array.getElem?_range, h]

theorem Mem.cells_R (M : Mem) (p : Nat) (h : p < 64) : M.cells[p * 257]? = some (.int .i64 (M.R p)) := by
  rw [M.getElem?_cells _ (by omega)]
  simp [Mem.at_]

theorem Mem.cells_B (M : Mem) (p o : Nat) (h : p < 64) (ho : o < 256) : M.cells[p * 257 + 1 + o]? = some (.int .u8 (M.B (p * 256 + o))) := by
  rw [M.getElem?_cells _ (by omega)]
  have h1 : (p * 257 + 1 + o) % 257 = o + 1 := by omega
  have h2 : (p * 257 + 1 + o) / 257 = p := by omega
  simp [Mem.at_, h1, h2]

def Mem.setR (M : Mem) (p : Nat) (r : Int) : Mem := { M with R := fun q => if q = p then r else M.R q }
def Mem.setB (M : Mem) (a : Nat) (v : Int) : Mem := { M with B := fun q => if q = a then v else M.B q }

theorem Mem.setR_ok {M : Mem} (h : M.Ok) (p : Nat) {r : Int} (h0 : 0 ≤ r) (h7 : r ≤ 7) : (M.setR p r).Ok :=
  ⟨fun q => by simp only [Mem.setR]; split; exact ⟨h0, h7⟩; exact h.R q, h.B⟩
theorem Mem.setB_ok {M : Mem} (h : M.Ok) (a : Nat) {v : Int} (h0 : 0 ≤ v) (h7 : v ≤ 255) : (M.setB a v).Ok :=
  ⟨h.R, fun q => by simp only [Mem.setB]; split; exact ⟨h0, h7⟩; exact h.B q⟩

theorem Mem.cells_setR (M : Mem) (p : Nat) (r : Int) (h : p < 64) : M.cells.setIfInBounds (p * 257) (.int .i64 r) = (M.setR p r).cells := by
  apply Array.ext_getElem?
  intro k
  by_cases hk : k < 16448
  · rw [Array.getElem?_setIfInBounds, Mem.getElem?_cells _ _ hk, Mem.getElem?_cells _ _ hk]
    by_cases e : p * 257 = k
    · subst e; simp [Mem.size_cells, Mem.at_, Mem.setR]; omega
    · rw [if_neg e]
      simp only [Mem.at_, Mem.setR]
      by_cases e2 : k % 257 = 0
      · have : ¬ k / 257 = p := by omega
        simp [e2, this]
      · simp [e2]
  · rw [Array.getElem?_eq_none (by rw [Array.size_setIfInBounds, Mem.size_cells]; omega), Array.getElem?_eq_none (by rw [Mem.size_cells]; omega)]

theorem Mem.cells_setB (M : Mem) (p o : Nat) (v : Int) (h : p < 64) (ho : o < 256) :
    M.cells.setIfInBounds (p * 257 + 1 + o) (.int .u8 v) = (M.setB (p * 256 + o) v).cells := by
  apply Array.ext_getElem?
  intro k
  by_cases hk : k < 16448
  · rw [Array.getElem?_setIfInBounds, Mem.getElem?_cells _ _ hk, Mem.getElem?_cells _ _ hk]
    by_cases e : p * 257 + 1 + o = k
    · subst e
      have h1 : (p * 257 + 1 + o) % 257 = o + 1 := by omega
      have h2 : (p * 257 + 1 + o) / 257 = p := by omega
      simp [Mem.size_cells, Mem.at_, Mem.setB, h1, h2]; omega
    · rw [if_neg e]
      simp only [Mem.at_, Mem.setB]
      by_cases e2 : k % 257 = 0
      · simp [e2]
      · have hd := Nat.div_add_mod k 257
        have hm := Nat.mod_lt k (show 257 > 0 by decide)
        have : ¬ k / 257 * 256 + (k % 257 - 1) = p * 256 + o := by
          generalize k / 257 = q at *
          generalize k % 257 = r at *
          intro hh
          have h1 : q = p := by omega
          subst h1
          omega
        simp [e2, this]
  · rw [Array.getElem?_eq_none (by rw [Array.size_setIfInBounds, Mem.size_cells]; omega), Array.getElem?_eq_none (by rw [Mem.size_cells]; omega)]

/-- Page p as it is in another memory. -/
def Mem.setPage (M : Mem) (p : Nat) (N : Mem) : Mem := ⟨fun q => if q = p then N.R p else M.R q, fun x => if x / 256 = p then N.B x else M.B x⟩

theorem Mem.wr_page (M N : Mem) (p : Nat) (h : p < 64) : wr M.cells (p * 257) (N.page p).toList = (M.setPage p N).cells := by
  have hl : (N.page p).toList.length = 257 := by simp [Mem.size_page]
  apply Array.ext_getElem?
  intro k
  rw [wr_get _ _ _ _ (by rw [hl, M.size_cells]; omega), hl]
  by_cases hk : k < 16448
  · rw [Mem.getElem?_cells _ _ hk, Mem.getElem?_cells _ _ hk]
    by_cases e : p * 257 ≤ k ∧ k < p * 257 + 257
    · rw [if_pos e]
      have h1 : k - p * 257 < 257 := by omega
      have hd : k / 257 = p := by omega
      rw [Array.getElem?_toList, Mem.page, Array.getElem?_map, Array.getElem?_range, if_pos h1]
      simp only [Option.map_some, Option.some.injEq]
      rw [show p * 257 + (k - p * 257) = k from by omega]
      simp only [Mem.at_, Mem.setPage, hd]
      by_cases e2 : k % 257 = 0
      · simp [e2]
      · have hm := Nat.mod_lt k (show 257 > 0 by decide)
        have : (p * 256 + (k % 257 - 1)) / 256 = p := by omega
        simp [e2, this]
    · rw [if_neg e]
      have hd : ¬ k / 257 = p := by omega
      simp only [Mem.at_, Mem.setPage, hd, if_false]
      by_cases e2 : k % 257 = 0
      · simp [e2]
      · have hm := Nat.mod_lt k (show 257 > 0 by decide)
        have : ¬ (k / 257 * 256 + (k % 257 - 1)) / 256 = p := by omega
        simp [e2, this]
  · rw [if_neg (by omega), Array.getElem?_eq_none (by rw [Mem.size_cells]; omega), Array.getElem?_eq_none (by rw [Mem.size_cells]; omega)]

theorem Mem.at_one (M : Mem) (k : Nat) : (M.at_ k).oneCell' = true := by
  unfold Mem.at_; split <;> rfl

theorem Mem.page_one (M : Mem) (p : Nat) : (M.page p).all (·.oneCell') = true := by
  rw [Array.all_eq_true_iff_forall_mem]
  intro v hv
  simp only [Mem.page, Array.mem_map] at hv
  obtain ⟨j, _, rfl⟩ := hv
  exact M.at_one _

/-- Cells that begin with a memory's (a row of pages may have room behind its 64). -/
structure Holds (C : Array Value) (M : Mem) : Prop where
  size : 16448 ≤ C.size
  get : ∀ k, k < 16448 → C[k]? = some (M.at_ k)

theorem Holds.cells (M : Mem) : Holds M.cells M := ⟨by rw [Mem.size_cells]; exact Nat.le_refl _, fun k h => M.getElem?_cells k h⟩

theorem Holds.R {C : Array Value} {M : Mem} (h : Holds C M) (p : Nat) (hp : p < 64) : C[p * 257]? = some (.int .i64 (M.R p)) := by
  rw [h.get _ (by omega), ← M.getElem?_cells _ (by omega), M.cells_R p hp]

theorem Holds.B {C : Array Value} {M : Mem} (h : Holds C M) (p o : Nat) (hp : p < 64) (ho : o < 256) : C[p * 257 + 1 + o]? = some (.int .u8 (M.B (p * 256 + o))) := by
  rw [h.get _ (by omega), ← M.getElem?_cells _ (by omega), M.cells_B p o hp ho]

theorem Holds.set {C : Array Value} {M M' : Mem} (h : Holds C M) (i : Nat) (v : Value) (hi : i < 16448) (e : M.cells.setIfInBounds i v = M'.cells) : Holds (C.setIfInBounds i v) M' := by
  refine ⟨by rw [Array.size_setIfInBounds]; exact h.size, fun k hk => ?_⟩
  have hs := h.size
  rw [← M'.getElem?_cells k hk, ← e, Array.getElem?_setIfInBounds, Array.getElem?_setIfInBounds, h.get k hk, M.getElem?_cells k hk, M.size_cells]
  by_cases e2 : i = k
  · rw [if_pos e2, if_pos e2, if_pos (by omega), if_pos (by omega)]
  · rw [if_neg e2, if_neg e2]

theorem Holds.wr {C : Array Value} {M M' : Mem} (h : Holds C M) (o : Nat) (vs : List Value) (ho : o + vs.length ≤ 16448) (e : Go.Proofs.Ytncafchgdgmeaaa.wr M.cells o vs = M'.cells) : Holds (Go.Proofs.Ytncafchgdgmeaaa.wr C o vs) M' := by
  refine ⟨by rw [wr_size]; exact h.size, fun k hk => ?_⟩
  have hs := h.size
  rw [← M'.getElem?_cells k hk, ← e, wr_get _ _ _ _ (by omega), wr_get _ _ _ _ (by rw [M.size_cells]; omega), h.get k hk, M.getElem?_cells k hk]

end Go.Proofs.Ytncafchgdgmeaaa
