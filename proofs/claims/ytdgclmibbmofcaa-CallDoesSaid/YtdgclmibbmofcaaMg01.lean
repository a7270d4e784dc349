/-
  The guest's memory as plain data (rights of 64 pages, 16384 bytes), how it lies in the cells of the program's row of pages and of the reference's struct, and a frame relation between worlds ('Upd'). No condition; no walk here.
-/
import Derived.WalkKit
import Derived.Deep.MidRow
import Derived.ProofKit
import Derived.OpenShut
import Derived.Carry
import Derived.WalkSpells
import Derived.Test.YtdgclmibbmofcaaRows
import Derived.WalkLawsBesides
import Derived.Lib.Hide
import Derived.Laws.Build
namespace Go.Proofs.Ytdgclmibbmofcaa
open Go Go.RowKit
set_option linter.unusedVariables false
set_option linter.unusedSimpArgs false

/-! ### A frame relation: but for the blocks listed, all that was there is as it was. -/
structure Upd (S : List Nat) (w w' : World) : Prop where
  os : w'.os = w.os
  tape : w'.tape = w.tape
  output : w'.output = w.output
  size : w.heap.size ≤ w'.heap.size
  block : ∀ k, k < w.heap.size → k ∉ S → w'.heap[k]? = w.heap[k]?

theorem Upd.refl (S : List Nat) (w : World) : Upd S w w := ⟨rfl, rfl, rfl, Nat.le_refl _, fun _ _ _ => rfl⟩

theorem Upd.trans {S S' T : List Nat} {a b c : World} (h : Upd S a b) (k : Upd S' b c) (hS : ∀ x, x ∈ S → x ∈ T) (hS' : ∀ x, x ∈ S' → x ∈ T ∨ a.heap.size ≤ x) : Upd T a c :=
  ⟨k.os.trans h.os, k.tape.trans h.tape, k.output.trans h.output, Nat.le_trans h.size k.size, fun i hi hn => by
    have h1 : i ∉ S := fun hh => hn (hS i hh)
    have h2 : i ∉ S' := fun hh => by
      rcases hS' i hh with h | h
      · exact hn h
      · omega
    rw [k.block i (Nat.lt_of_lt_of_le hi h.size) h2, h.block i hi h1]⟩

theorem Upd.mono {S T : List Nat} {a b : World} (h : Upd S a b) (hS : ∀ x, x ∈ S → x ∈ T) : Upd T a b :=
  h.trans (Upd.refl [] b) hS (by simp)

theorem Upd.new {S' : List Nat} {a b c : World} (h : Upd [] a b) (k : Upd S' b c) (hS' : ∀ x, x ∈ S' → a.heap.size ≤ x) : Upd [] a c :=
  h.trans k (by simp) (fun x hx => .inr (hS' x hx))

theorem Upd.also {S S' : List Nat} {a b c : World} (h : Upd S a b) (k : Upd S' b c) (hS' : ∀ x, x ∈ S' → x ∈ S ∨ a.heap.size ≤ x) : Upd S a c :=
  h.trans k (fun _ h => h) hS'

theorem Upd.drew {S : List Nat} {a b : World} (h : Upd S a b) : Upd S a b.drew := ⟨h.os, h.tape, h.output, h.size, h.block⟩

theorem Upd.alloc {S : List Nat} {a b : World} (h : Upd S a b) (o : Obj) : Upd S a (b.alloc o) :=
  h.trans (S' := []) ⟨rfl, rfl, rfl, by simp, fun k hk _ => Below.heap_alloc _ _ _ hk⟩ (fun _ h => h) (by simp)

theorem Upd.setCell {S : List Nat} {a b : World} (h : Upd S a b) {p : Addr} (hp : p.block ∈ S ∨ a.heap.size ≤ p.block) (u : Value) : Upd S a (b.setCell p u) :=
  h.trans (S' := [p.block]) ⟨rfl, rfl, rfl, by simp [World.setCell], fun k _ hn => Below.heap_setCell _ _ _ _ (by simpa using hn)⟩ (fun _ h => h) (by simpa using hp)

theorem Upd.below {a b : World} (h : Upd [] a b) : Below a.heap.size a b := ⟨h.os, h.tape, h.output, h.size, fun k hk => h.block k hk (by simp)⟩

theorem Upd.of_below {S : List Nat} {a b : World} (h : Below a.heap.size a b) : Upd S a b := ⟨h.os, h.tape, h.output, h.size, fun k hk _ => h.block k hk⟩

theorem Upd.get {S : List Nat} {w w' : World} (h : Upd S w w') {k : Nat} {o : Obj} (hk : w.heap[k]? = some o) (hn : k ∉ S) : w'.heap[k]? = some o := by
  have hlt : k < w.heap.size := by
    by_cases hl : k < w.heap.size
    · exact hl
    · rw [Array.getElem?_eq_none (by omega)] at hk; cases hk
  rw [h.block k hlt hn]; exact hk

theorem lt_of_heap {w : World} {k : Nat} {o : Obj} (hk : w.heap[k]? = some o) : k < w.heap.size := by
  by_cases hl : k < w.heap.size
  · exact hl
  · rw [Array.getElem?_eq_none (by omega)] at hk; cases hk

/-! ### A block known whole: its cells. -/
theorem cells_of {w : World} {b : Nat} {c : Array Value} {t : TypeId} {f : Nat × Nat} (h : w.heap[b]? = some (.cells c t f)) (o : Nat) : w.cell? ⟨b, o, none⟩ = c[o]? := by
  simp [World.cell?, h]

theorem free_of {w : World} {b : Nat} {c : Array Value} {t : TypeId} (h : w.heap[b]? = some (.cells c t (0, 0))) (o : Nat) : w.frozen? ⟨b, o, none⟩ = false := by
  simp [World.frozen?, h]

theorem heap_set_same {w : World} {b : Nat} {c : Array Value} {t : TypeId} {f : Nat × Nat} (h : w.heap[b]? = some (.cells c t f)) (o : Nat) (v : Value) :
    (w.setCell ⟨b, o, none⟩ v).heap[b]? = some (.cells (c.setIfInBounds o v) t f) := by
  simp [World.setCell, Array.getElem?_modify, h]

theorem heap_set_other {w : World} {a : Addr} {b : Nat} (v : Value) (hne : b ≠ a.block) : (w.setCell a v).heap[b]? = w.heap[b]? :=
  Below.heap_setCell _ _ _ _ hne

theorem heap_alloc_keep {w : World} {b : Nat} {x : Obj} (o : Obj) (h : w.heap[b]? = some x) : (w.alloc o).heap[b]? = some x := by
  rw [heap_alloc_old _ _ (lt_of_heap h)]; exact h

theorem heap_set_keep {w : World} {a : Addr} {b : Nat} {x : Obj} (v : Value) (hne : b ≠ a.block) (h : w.heap[b]? = some x) : (w.setCell a v).heap[b]? = some x := by
  rw [heap_set_other v hne]; exact h

/-! ### A struct or an array read out of, laid into the middle of a block: the cells as an array. -/
theorem wpList_load_arr {P : Program} {ops : Array Oper} {rest : List Oper} {op : Oper} {a : Act} {w : World} {Q : Exit → Act → World → Prop} (hgd : op.guard = none) (ty : TypeId) (x : Operand) (ho : op.op = .load ty x)
    (b o : Nat) (hx : a.eval x = .pointer (some ⟨b, o, none⟩)) (cs : Array Value) (d : TypeDesc) (hc : w.rangeAt b o cs.toList)
    (hu : P.underlying ty = some d) (hd : d.isRow = true) (hi : (P.info? ty).map (·.size) = some cs.size)
    (h : wpList P ops Q rest (a.put op.dst (.agg cs)) w) : wpList P ops Q (op :: rest) a w :=
  wpList_load_mid hgd ty x ho b o hx cs.toList d hc hu hd (by rw [hi, Array.length_toList]) (by rw [Array.toArray_toList]; exact h)

theorem range_whole {w : World} {b : Nat} {c : Array Value} {t : TypeId} {f : Nat × Nat} (h : w.heap[b]? = some (.cells c t f)) : w.rangeAt b 0 c.toList := by
  intro j v hv
  rw [cells_of h, Nat.zero_add, ← hv, Array.getElem?_toList]

/-- Cells written over from place o on. -/
def wr (c : Array Value) (o : Nat) : List Value → Array Value
  | [] => c
  | v :: r => wr (c.setIfInBounds o v) (o + 1) r

theorem wr_size (vs : List Value) : ∀ (c : Array Value) (o : Nat), (wr c o vs).size = c.size := by
  induction vs with
  | nil => intro c o; rfl
  | cons v r ih => intro c o; rw [wr, ih, Array.size_setIfInBounds]

theorem wr_get (vs : List Value) : ∀ (c : Array Value) (o k : Nat), o + vs.length ≤ c.size → (wr c o vs)[k]? = if o ≤ k ∧ k < o + vs.length then vs[k - o]? else c[k]? := by
  induction vs with
  | nil => intro c o k _; rw [wr, if_neg (by simp)]
  | cons v r ih =>
    intro c o k h
    simp only [List.length_cons] at h ⊢
    rw [wr, ih _ _ _ (by rw [Array.size_setIfInBounds]; omega)]
    by_cases e : o = k
    · subst e
      rw [if_neg (by omega), if_pos (by omega), Nat.sub_self, Array.getElem?_setIfInBounds, if_pos rfl, if_pos (by omega)]
      rfl
    · by_cases h1 : o + 1 ≤ k ∧ k < o + 1 + r.length
      · rw [if_pos h1, if_pos (by omega), show k - o = (k - (o + 1)) + 1 from by omega, List.getElem?_cons_succ]
      · rw [if_neg h1, if_neg (by omega), Array.getElem?_setIfInBounds, if_neg e]

theorem heap_setCells_same {b : Nat} {t : TypeId} {f : Nat × Nat} (vs : List Value) : ∀ (w : World) (c : Array Value) (o : Nat), w.heap[b]? = some (.cells c t f) →
    (w.setCells b o vs).heap[b]? = some (.cells (wr c o vs) t f) := by
  induction vs with
  | nil => intro w c o h; exact h
  | cons v r ih => intro w c o h; exact ih _ _ _ (heap_set_same h o v)

theorem heap_setCells_other {b b' : Nat} (hne : b' ≠ b) (vs : List Value) : ∀ (w : World) (o : Nat), (w.setCells b o vs).heap[b']? = w.heap[b']? := by
  induction vs with
  | nil => intro w o; rfl
  | cons v r ih => intro w o; rw [World.setCells, ih]; exact heap_set_other v hne

theorem Upd.setCells {S : List Nat} {a : World} {q : Nat} (hp : q ∈ S ∨ a.heap.size ≤ q) (vs : List Value) : ∀ {b : World} (o : Nat), Upd S a b → Upd S a (b.setCells q o vs) := by
  induction vs with
  | nil => intro b o h; exact h
  | cons v r ih => intro b o h; exact ih _ (h.setCell (p := ⟨q, o, none⟩) hp v)

theorem there_of {w : World} {b : Nat} {c : Array Value} {t : TypeId} (h : w.heap[b]? = some (.cells c t (0, 0))) (o n : Nat) (hn : o + n ≤ c.size) : w.there b o n := by
  intro j hj
  rw [cells_of h, free_of h]
  exact ⟨by rw [Array.getElem?_eq_getElem (by omega)]; rfl, rfl⟩

theorem wpList_store_arr {P : Program} {ops : Array Oper} {rest : List Oper} {op : Oper} {a : Act} {w : World} {Q : Exit → Act → World → Prop} (hgd : op.guard = none) (ty : TypeId) (x y : Operand) (ho : op.op = .store ty x y)
    (b o : Nat) (cs : Array Value) (hx : a.eval x = .pointer (some ⟨b, o, none⟩)) (hy : a.eval y = .agg cs)
    {c : Array Value} {t : TypeId} (hb : w.heap[b]? = some (.cells c t (0, 0))) (hn : o + cs.size ≤ c.size) (hi : (P.info? ty).map (·.size) = some cs.size) (h1 : cs.all (·.oneCell') = true)
    (h : wpList P ops Q rest (a.put op.dst undef) (w.setCells b o cs.toList)) : wpList P ops Q (op :: rest) a w :=
  wpList_store_mid hgd ty x y ho b o cs hx hy (there_of hb o cs.size hn) hi h1 h

/-- An operation that builds a struct, by its run. -/
theorem wpList_build {P : Program} {ops : Array Oper} {rest : List Oper} {op : Oper} {a : Act} {w : World} {Q : Exit → Act → World → Prop} (hgd : op.guard = none) (ty : TypeId) (ps : List (Nat × Operand)) (ho : op.op = .build ty ps.toArray)
    (vs : List (Nat × Value)) (hx : ps.map (fun x => (x.1, a.eval x.2)) = vs) (v : Value) (hr : (Instr.build ty vs.toArray).run P w = .ok v w)
    (h : wpList P ops Q rest (a.put op.dst v) w) : wpList P ops Q (op :: rest) a w :=
  wpList_plain hgd fun _ hK => by
    unfold Oper.wp execOp
    simp only [ho]
    have : (fun (x : Nat × Operand) => match x with | (i, x) => (i, a.eval x)) = (fun x : Nat × Operand => (x.1, a.eval x.2)) := by funext x; rfl
    rw [this, List.map_toArray, hx]
    simp only [Sem.run_bind, hr, Result.andThen_ok, Sem.run_pure]
    exact hK _ _ h

/-- A call of a builtin with one argument, by its run. -/
theorem wpList_builtin1 {P : Program} {ops : Array Oper} {rest : List Oper} {op : Oper} {a : Act} {w : World} {Q : Exit → Act → World → Prop} (hgd : op.guard = none) (b : Builtin) (x : Operand) (ats : Array TypeId)
    (ho : op.op = .call { callee := .builtin b, args := #[x], argTypes := ats }) (y : Value) (hx : a.eval x = y) (v : Value) (w' : World)
    (hr : ∀ cs, (builtin b ats op.type cs #[y]).run P w = .ok (.value v) w')
    (h : wpList P ops Q rest (a.put op.dst v) w') : wpList P ops Q (op :: rest) a w :=
  wpList_plain hgd fun _ hK => by
    obtain ⟨dst, o, type, pos, after, guard⟩ := op
    simp only at ho
    subst ho
    subst hx
    unfold Oper.wp
    rw [BigFrame.execOp_builtin]
    simp only [List.map_toArray, List.map_cons, List.map_nil] at hr ⊢
    rw [hr]
    exact hK _ _ h

/-! ### The guest's memory. -/
structure Mem where
  R : Nat → Int
  B : Nat → Int

@[ext] theorem Mem.ext' {a b : Mem} (h : a.R = b.R) (k : a.B = b.B) : a = b := by
  cases a; cases b; simp_all

structure Mem.Ok (M : Mem) : Prop where
  R : ∀ p, 0 ≤ M.R p ∧ M.R p ≤ 7
  B : ∀ a, 0 ≤ M.B a ∧ M.B a ≤ 255

def Mem.zero : Mem := ⟨fun _ => 0, fun _ => 0⟩

theorem Mem.zero_ok : Mem.zero.Ok := ⟨fun _ => by simp [Mem.zero], fun _ => by simp [Mem.zero]⟩

/-- The cell at place k of the program's row of pages: 257 cells a page, its rights first. -/
def Mem.at_ (M : Mem) (k : Nat) : Value :=
  if k % 257 = 0 then .int .i64 (M.R (k / 257)) else .int .u8 (M.B (k / 257 * 256 + (k % 257 - 1)))

def Mem.cells (M : Mem) : Array Value := (Array.range 16448).map M.at_

/-- The cells of one page. -/
def Mem.page (M : Mem) (p : Nat) : Array Value := (Array.range 257).map fun j => M.at_ (p * 257 + j)

theorem Mem.size_cells (M : Mem) : M.cells.size = 16448 := by simp [Mem.cells]
theorem Mem.size_page (M : Mem) (p : Nat) : (M.page p).size = 257 := by simp [Mem.page]

theorem Mem.getElem?_cells (M : Mem) (k : Nat) (h : k < 16448) : M.cells[k]? = some (M.at_ k) := by
  simp [Mem.cells, Array.getElem?_map, Array.getElem?_range, h]

theorem Mem.cells_R (M : Mem) (p : Nat) (h : p < 64) : M.cells[p * 257]? = some (.int .i64 (M.R p)) := by
  rw [M.getElem?_cells _ (by omega)]
  simp [Mem.at_]

theorem Mem.cells_B (M : Mem) (p o : Nat) (h : p < 64) (ho : o < 256) : M.cells[p * 257 + 1 + o]? = some (.int .u8 (M.B (p * 256 + o))) := by
  rw [M.getElem?_cells _ (by omega)]
  have h1 : (p * 257 + 1 + o) % 257 = o + 1 := by omega
  have h2 : (p * 257 + 1 + o) / 257 = p := by omega
  simp [Mem.at_, h1, h2]

def Mem.setR (M : Mem) (p : Nat) (r : Int) : Mem := { M with R := fun q => if q = p then r else M.R q }
def Mem.setB (M : Mem) (a : Nat) (v : Int) : Mem := { M with B := fun q => if q = a then v else M.B q }

theorem Mem.setR_ok {M : Mem} (h : M.Ok) (p : Nat) {r : Int} (h0 : 0 ≤ r) (h7 : r ≤ 7) : (M.setR p r).Ok :=
  ⟨fun q => by simp only [Mem.setR]; split; exact ⟨h0, h7⟩; exact h.R q, h.B⟩
theorem Mem.setB_ok {M : Mem} (h : M.Ok) (a : Nat) {v : Int} (h0 : 0 ≤ v) (h7 : v ≤ 255) : (M.setB a v).Ok :=
  ⟨h.R, fun q => by simp only [Mem.setB]; split; exact ⟨h0, h7⟩; exact h.B q⟩

theorem Mem.cells_setR (M : Mem) (p : Nat) (r : Int) (h : p < 64) : M.cells.setIfInBounds (p * 257) (.int .i64 r) = (M.setR p r).cells := by
  apply Array.ext_getElem?
  intro k
  by_cases hk : k < 16448
  · rw [Array.getElem?_setIfInBounds, Mem.getElem?_cells _ _ hk, Mem.getElem?_cells _ _ hk]
    by_cases e : p * 257 = k
    · subst e; simp [Mem.size_cells, Mem.at_, Mem.setR]; omega
    · rw [if_neg e]
      simp only [Mem.at_, Mem.setR]
      by_cases e2 : k % 257 = 0
      · have : ¬ k / 257 = p := by omega
        simp [e2, this]
      · simp [e2]
  · rw [Array.getElem?_eq_none (by rw [Array.size_setIfInBounds, Mem.size_cells]; omega), Array.getElem?_eq_none (by rw [Mem.size_cells]; omega)]

theorem Mem.cells_setB (M : Mem) (p o : Nat) (v : Int) (h : p < 64) (ho : o < 256) :
    M.cells.setIfInBounds (p * 257 + 1 + o) (.int .u8 v) = (M.setB (p * 256 + o) v).cells := by
  apply Array.ext_getElem?
  intro k
  by_cases hk : k < 16448
  · rw [Array.getElem?_setIfInBounds, Mem.getElem?_cells _ _ hk, Mem.getElem?_cells _ _ hk]
    by_cases e : p * 257 + 1 + o = k
    · subst e
      have h1 : (p * 257 + 1 + o) % 257 = o + 1 := by omega
      have h2 : (p * 257 + 1 + o) / 257 = p := by omega
      simp [Mem.size_cells, Mem.at_, Mem.setB, h1, h2]; omega
    · rw [if_neg e]
      simp only [Mem.at_, Mem.setB]
      by_cases e2 : k % 257 = 0
      · simp [e2]
      · have hd := Nat.div_add_mod k 257
        have hm := Nat.mod_lt k (show 257 > 0 by decide)
        have : ¬ k / 257 * 256 + (k % 257 - 1) = p * 256 + o := by
          generalize k / 257 = q at *
          generalize k % 257 = r at *
          intro hh
          have h1 : q = p := by omega
          subst h1
          omega
        simp [e2, this]
  · rw [Array.getElem?_eq_none (by rw [Array.size_setIfInBounds, Mem.size_cells]; omega), Array.getElem?_eq_none (by rw [Mem.size_cells]; omega)]

/-- Page p as it is in another memory. -/
def Mem.setPage (M : Mem) (p : Nat) (N : Mem) : Mem := ⟨fun q => if q = p then N.R p else M.R q, fun x => if x / 256 = p then N.B x else M.B x⟩

theorem Mem.wr_page (M N : Mem) (p : Nat) (h : p < 64) : wr M.cells (p * 257) (N.page p).toList = (M.setPage p N).cells := by
  have hl : (N.page p).toList.length = 257 := by simp [Mem.size_page]
  apply Array.ext_getElem?
  intro k
  rw [wr_get _ _ _ _ (by rw [hl, M.size_cells]; omega), hl]
  by_cases hk : k < 16448
  · rw [Mem.getElem?_cells _ _ hk, Mem.getElem?_cells _ _ hk]
    by_cases e : p * 257 ≤ k ∧ k < p * 257 + 257
    · rw [if_pos e]
      have h1 : k - p * 257 < 257 := by omega
      have hd : k / 257 = p := by omega
      rw [Array.getElem?_toList, Mem.page, Array.getElem?_map, Array.getElem?_range, if_pos h1]
      simp only [Option.map_some, Option.some.injEq]
      rw [show p * 257 + (k - p * 257) = k from by omega]
      simp only [Mem.at_, Mem.setPage, hd]
      by_cases e2 : k % 257 = 0
      · simp [e2]
      · have hm := Nat.mod_lt k (show 257 > 0 by decide)
        have : (p * 256 + (k % 257 - 1)) / 256 = p := by omega
        simp [e2, this]
    · rw [if_neg e]
      have hd : ¬ k / 257 = p := by omega
      simp only [Mem.at_, Mem.setPage, hd, if_false]
      by_cases e2 : k % 257 = 0
      · simp [e2]
      · have hm := Nat.mod_lt k (show 257 > 0 by decide)
        have : ¬ (k / 257 * 256 + (k % 257 - 1)) / 256 = p := by omega
        simp [e2, this]
  · rw [if_neg (by omega), Array.getElem?_eq_none (by rw [Mem.size_cells]; omega), Array.getElem?_eq_none (by rw [Mem.size_cells]; omega)]

theorem Mem.at_one (M : Mem) (k : Nat) : (M.at_ k).oneCell' = true := by
  unfold Mem.at_; split <;> rfl

theorem Mem.page_one (M : Mem) (p : Nat) : (M.page p).all (·.oneCell') = true := by
  rw [Array.all_eq_true_iff_forall_mem]
  intro v hv
  simp only [Mem.page, Array.mem_map] at hv
  obtain ⟨j, _, rfl⟩ := hv
  exact M.at_one _

/-- Cells that begin with a memory's (a row of pages may have room behind its 64). -/
structure Holds (C : Array Value) (M : Mem) : Prop where
  size : 16448 ≤ C.size
  get : ∀ k, k < 16448 → C[k]? = some (M.at_ k)

theorem Holds.cells (M : Mem) : Holds M.cells M := ⟨by rw [Mem.size_cells]; exact Nat.le_refl _, fun k h => M.getElem?_cells k h⟩

theorem Holds.R {C : Array Value} {M : Mem} (h : Holds C M) (p : Nat) (hp : p < 64) : C[p * 257]? = some (.int .i64 (M.R p)) := by
  rw [h.get _ (by omega), ← M.getElem?_cells _ (by omega), M.cells_R p hp]

theorem Holds.B {C : Array Value} {M : Mem} (h : Holds C M) (p o : Nat) (hp : p < 64) (ho : o < 256) : C[p * 257 + 1 + o]? = some (.int .u8 (M.B (p * 256 + o))) := by
  rw [h.get _ (by omega), ← M.getElem?_cells _ (by omega), M.cells_B p o hp ho]

theorem Holds.set {C : Array Value} {M M' : Mem} (h : Holds C M) (i : Nat) (v : Value) (hi : i < 16448) (e : M.cells.setIfInBounds i v = M'.cells) : Holds (C.setIfInBounds i v) M' := by
  refine ⟨by rw [Array.size_setIfInBounds]; exact h.size, fun k hk => ?_⟩
  have hs := h.size
  rw [← M'.getElem?_cells k hk, ← e, Array.getElem?_setIfInBounds, Array.getElem?_setIfInBounds, h.get k hk, M.getElem?_cells k hk, M.size_cells]
  by_cases e2 : i = k
  · rw [if_pos e2, if_pos e2, if_pos (by omega), if_pos (by omega)]
  · rw [if_neg e2, if_neg e2]

theorem Holds.wr {C : Array Value} {M M' : Mem} (h : Holds C M) (o : Nat) (vs : List Value) (ho : o + vs.length ≤ 16448) (e : Go.Proofs.Ytdgclmibbmofcaa.wr M.cells o vs = M'.cells) : Holds (Go.Proofs.Ytdgclmibbmofcaa.wr C o vs) M' := by
  refine ⟨by rw [wr_size]; exact h.size, fun k hk => ?_⟩
  have hs := h.size
  rw [← M'.getElem?_cells k hk, ← e, wr_get _ _ _ _ (by omega), wr_get _ _ _ _ (by rw [M.size_cells]; omega), h.get k hk, M.getElem?_cells k hk]

end Go.Proofs.Ytdgclmibbmofcaa

/-
  A law's last step, from the frame relation 'Upd []' of a walk. No condition.
-/
namespace Go.Proofs.Ytdgclmibbmofcaa
open Go Go.RowKit Go.WideShapes Go.ChangeShapes
set_option linter.unusedVariables false
set_option linter.unusedSimpArgs false

theorem post_of_upd {H : Type} {enc : TypeId × Value → H} {P : Program} {f : Func} {s : ChangeSpec} {apart fresh handsOn again : Bool} {W W' : World} {args : Array Value} {v : Value} {ds gs : List (DataW H)} {pl pa pv : List MemPlace}
    (hW : DataW.Whole enc P f.params.toList s.vars apart W args.toList ds gs pl)
    (hr : ∀ (b : Nat) (sp : Nat → Bool) (hd : Bool), DataW.TrodAll enc P W' b sp hd f.resultTypes.toList (v.resultList f.resultTypes.size) (s.fn H (ds ++ gs)).results [])
    (ha : ∀ sp : Nat → Bool, (∀ p ∈ pl, sp p.block = true) → DataW.TrodAll enc P W' 0 sp true f.params.toList args.toList (s.fn H (ds ++ gs)).args pa)
    (hv : ∀ sp : Nat → Bool, (∀ p ∈ pl, sp p.block = true) → DataW.TrodVars enc P W' sp s.vars (s.fn H (ds ++ gs)).vars pv)
    (hp : pl = pa ++ pv) (u : Upd [] W W')
    (hok : ∀ (j : Nat) (t : TypeId) (r : Value), f.resultTypes[j]? = some t → (v.resultList f.resultTypes.size)[j]? = some r → Value.okWide P W' .any 0 t r) :
    s.post enc P f apart fresh handsOn again W args v W' := by
  have hb := u.below
  have hin : ∀ p ∈ pl, p.block < W.heap.size := fun p h => hW.lt p h
  have hsp : ∀ p ∈ pl, (fun b => decide (b < W.heap.size)) p.block = true := fun p h => by simpa using hin p h
  refine ⟨ds, gs, pl, [], pa, pv, hW, hr _ _ _, ha _ hsp, hv _ hsp, World.keptBut_mono (fun p h => ⟨h, .inr ?_⟩) (hb.frame (· ∈ pl)), fun _ => ?_⟩
  · rw [hp, List.mem_append] at h
    exact h
  · obtain ⟨_, _, _, _, _, hz, hn⟩ := hW
    refine ⟨hok, _, _, ([] ++ pa) ++ pv, ⟨[] ++ pa, pv, trodAll_append (ha _ (fun _ _ => rfl)) (hr _ _ _), hv _ (fun _ _ => rfl), rfl, fun b o h => ?_, fun h => ?_⟩, ?_⟩
    · have hm : MemPlace.cell b o ∈ pl := by rw [hp]; simpa using h
      rw [hb.frozen (hin _ hm)]
      exact hz b o hm
    · have := hn h
      rw [hp] at this
      simpa using this
    · intro p h _
      rw [hp]
      simpa using h

end Go.Proofs.Ytdgclmibbmofcaa

/-
  A law's last step where the arguments are whatever plain data: they read behind the call as they did ahead of it; an argument that is a struct or an array of numbers, bools and strings, opened cell by cell. No condition.
-/
namespace Go.Proofs.Ytdgclmibbmofcaa
open Go Go.RowKit Go.WideShapes Go.ChangeShapes
set_option linter.unusedVariables false
set_option linter.unusedSimpArgs false

section
variable {H : Type} {enc : TypeId × Value → H} {P : Program}

def readableAll (P : Program) (ts : List TypeId) : Bool := ts.all fun t => P.readableRec t && decide (t < P.types.size)

theorem args_stay (hl : laidOutB P = true) {W W' : World} (u : Upd [] W W') {sp' : Nat → Bool} :
    ∀ (ts : List TypeId) (vs : List Value) (ds : List (DataW H)) (pl : List MemPlace), readableAll P ts = true → (∀ p ∈ pl, p.block < W.heap.size) → (∀ p ∈ pl, sp' p.block = true) →
      DataW.TrodAll enc P W 0 (fun _ => true) true ts vs ds pl → DataW.TrodAll enc P W' 0 sp' true ts vs ds pl
  | [], [], [], _, _, _, _, h => h
  | t :: ts, v :: vs, d :: ds, pl, hr, hlt, hs, h => by
    obtain ⟨p, q, h1, h2, rfl⟩ := h
    simp only [readableAll, List.all_cons, Bool.and_eq_true, decide_eq_true_eq] at hr
    refine ⟨p, q, WideElems.Trod_stays hl hr.1.1 hr.1.2 h1 (fun x hx => u.below.same (hlt x (List.mem_append_left _ hx))) (fun x hx => hs x (List.mem_append_left _ hx)), ?_, rfl⟩
    exact args_stay hl u ts vs ds q (by rw [readableAll]; exact hr.2) (fun x hx => hlt x (List.mem_append_right _ hx)) (fun x hx => hs x (List.mem_append_right _ hx)) h2

theorem post_of_upd_args {f : Func} {s : ChangeSpec} {apart fresh handsOn again : Bool} {W W' : World} {args : Array Value} {v : Value} {ds : List (DataW H)} {pl : List MemPlace}
    (hl : laidOutB P = true) (hrd : readableAll P f.params.toList = true) (hvars : s.vars = [])
    (hW : DataW.Whole enc P f.params.toList s.vars apart W args.toList ds [] pl)
    (hA : DataW.TrodAll enc P W 0 (fun _ => true) true f.params.toList args.toList ds pl)
    (hr : ∀ (b : Nat) (sp : Nat → Bool) (hd : Bool), DataW.TrodAll enc P W' b sp hd f.resultTypes.toList (v.resultList f.resultTypes.size) (s.fn H (ds ++ [])).results [])
    (hargs : (s.fn H (ds ++ [])).args = ds) (hgs : (s.fn H (ds ++ [])).vars = [])
    (u : Upd [] W W')
    (hok : ∀ (j : Nat) (t : TypeId) (r : Value), f.resultTypes[j]? = some t → (v.resultList f.resultTypes.size)[j]? = some r → Value.okWide P W' .any 0 t r) :
    s.post enc P f apart fresh handsOn again W args v W' := by
  refine post_of_upd (pa := pl) (pv := []) hW hr (fun sp hsp => ?_) (fun sp _ => ?_) (by simp) u hok
  · rw [hargs]
    exact args_stay hl u _ _ _ _ hrd (fun p h => hW.lt p h) hsp hA
  · rw [hgs, hvars]
    exact rfl

inductive Leaf where
  | int (k : IntKind)
  | bool
  | string

def LeafOk : Leaf → Value → Prop
  | .int k, v => ∃ n, v = .int k n ∧ (Lit.int k n).wf = true
  | .bool, v => ∃ b, v = .bool b
  | .string, v => ∃ s : ByteArray, v = .string s ∧ s.size ≤ maxLen

/-- What stands in cell j of a value of a type. -/
def leafAt (P : Program) : Nat → TypeId → Nat → Option Leaf
  | 0, _, _ => none
  | n + 1, t, j =>
    match P.underlying t with
    | some (.int k) => if j = 0 then some (.int k) else none
    | some .bool => if j = 0 then some .bool else none
    | some .string => if j = 0 then some .string else none
    | some (.array m e) => if 0 < P.cellsOf e ∧ j / P.cellsOf e < m then leafAt P n e (j % P.cellsOf e) else none
    | some (.struct fs) => fs.toList.findSome? fun f => if f.offset ≤ j ∧ j < f.offset + P.cellsOf f.type then leafAt P n f.type (j - f.offset) else none
    | _ => none

theorem leafAt_ok {w : World} {base : Nat} {spare : Nat → Bool} {held : Bool} : ∀ (n : Nat) (t : TypeId) (fuel : Nat) (cs : List Value) (x : DataW H × List MemPlace) (j : Nat) (lf : Leaf), DataW.trod enc P w base spare held fuel t cs = some x → leafAt P n t j = some lf → ∃ v, cs[j]? = some v ∧ LeafOk lf v
  | 0, _, _, _, _, _, _, _, h => by cases h
  | n + 1, t, fuel, cs, x, j, lf, hx, h => by
    unfold leafAt at h
    split at h
    · rename_i k hu
      obtain ⟨z, rfl, _, hw⟩ := DataW.trod_int hu hx
      split at h
      · rename_i hj; subst hj
        injection h with h; subst h
        exact ⟨_, rfl, z, rfl, hw⟩
      · cases h
    · rename_i hu
      obtain ⟨b, rfl, _⟩ := DataW.trod_bool hu hx
      split at h
      · rename_i hj; subst hj
        injection h with h; subst h
        exact ⟨_, rfl, b, rfl⟩
      · cases h
    · rename_i hu
      obtain ⟨s, rfl, _, hs⟩ := DataW.trod_string hu hx
      split at h
      · rename_i hj; subst hj
        injection h with h; subst h
        exact ⟨_, rfl, s, rfl, hs⟩
      · cases h
    · rename_i m e hu
      split at h
      · rename_i hj
        obtain ⟨xs, f, _, _, _, hl, hi⟩ := DataW.trod_array hu hx
        have h1 := hi _ hj.2
        obtain ⟨y, hy⟩ : ∃ y, xs[j / P.cellsOf e]? = some y := ⟨_, List.getElem?_eq_getElem (by omega)⟩
        rw [hy] at h1
        obtain ⟨v, hv, hlv⟩ := leafAt_ok n e f _ y _ lf h1 h
        refine ⟨v, ?_, hlv⟩
        have hm := Nat.mod_lt j hj.1
        have hd := Nat.div_add_mod j (P.cellsOf e)
        rw [List.getElem?_take, if_pos hm, List.getElem?_drop, Nat.mul_comm, hd] at hv
        exact hv
      · cases h
    · rename_i fs hu
      obtain ⟨f, hf, hc⟩ := List.exists_of_findSome?_eq_some h
      split at hc
      · rename_i hj
        obtain ⟨xs, k, _, _, _, hl, hi⟩ := DataW.trod_struct hu hx
        obtain ⟨i, hfi⟩ := List.getElem?_of_mem hf
        have hfi' : fs[i]? = some f := by rw [← hfi, Array.getElem?_toList]
        have hlt : i < fs.size := (Array.getElem?_eq_some_iff.1 hfi').1
        have h1 := hi i f hfi'
        obtain ⟨y, hy⟩ : ∃ y, xs[i]? = some y := ⟨_, List.getElem?_eq_getElem (by omega)⟩
        rw [hy] at h1
        obtain ⟨v, hv, hlv⟩ := leafAt_ok n f.type k _ y _ lf h1 hc
        refine ⟨v, ?_, hlv⟩
        rw [List.getElem?_take, if_pos (by omega), List.getElem?_drop, show f.offset + (j - f.offset) = j from by omega] at hv
        exact hv
      · cases hc
    · cases h

end

end Go.Proofs.Ytdgclmibbmofcaa

/-
  Rows that grew, slices of bytes: small facts. No condition.
-/
namespace Go.Proofs.Ytdgclmibbmofcaa
open Go Go.RowKit
set_option linter.unusedVariables false
set_option linter.unusedSimpArgs false

theorem Upd.of_grown {w w' : World} {row : Option Nat} (h : w.grownBy w' row) : Upd row.toList w w' :=
  ⟨h.os, h.tape, h.output, h.size, fun k hk hn => h.block k hk (fun e => hn (by rw [← e]; simp))⟩

def slLen : Value → Nat
  | .slice _ l _ => l
  | _ => 0

theorem ownsRow_form {w : World} {base e size : Nat} {v : Value} {n : Nat} {xs : List Value} (h : w.ownsRow base e size v n xs) : ∃ b c, v = .slice b n c := by
  obtain ⟨_, ⟨h1, h2⟩ | ⟨g, cap, cur, h1, _⟩⟩ := h
  · exact ⟨none, 0, by rw [h1, h2]⟩
  · exact ⟨_, _, h1⟩

theorem slLen_own {w : World} {base e size : Nat} {v : Value} {n : Nat} {xs : List Value} (h : w.ownsRow base e size v n xs) : slLen v = n := by
  obtain ⟨b, c, rfl⟩ := ownsRow_form h; rfl

theorem one_new (w : World) (v : Value) (t : TypeId) : ∀ j u, [v][j]? = some u → (w.alloc (.cells #[v] t)).cell? ((⟨w.heap.size, 0, none⟩ : Addr).add j) = some u := by
  intro j u hu
  rcases j with _ | j
  · simp only [List.getElem?_cons_zero, Option.some.injEq] at hu
    subst hu
    rw [Addr.add_mid, cells_of (heap_alloc_new _ _)]
    rfl
  · simp at hu

theorem one_oneCell (k : IntKind) (z : Int) : ∀ u ∈ [Value.int k z], u.oneCell' = true := by
  intro u hu
  simp only [List.mem_singleton] at hu
  subst hu; rfl

/-- A slice of bytes that reads as l; its cells, if any, lie in block g. -/
def BySl (w : World) (v : Value) (l : List Int) (g : Nat) : Prop :=
  (v = .slice none 0 0 ∧ l = []) ∨ ∃ o c C T f, v = .slice (some ⟨g, o, none⟩) l.length c ∧ w.heap[g]? = some (.cells C T f) ∧ ∀ i, i < l.length → C[o + i]? = some (.int .u8 (l.getD i 0))

theorem BySl.form {w : World} {v : Value} {l : List Int} {g : Nat} (h : BySl w v l g) : ∃ b c, v = .slice b l.length c := by
  rcases h with ⟨h1, h2⟩ | ⟨o, c, _, _, _, h1, _⟩
  · exact ⟨none, 0, by rw [h1, h2]; rfl⟩
  · exact ⟨_, _, h1⟩

theorem BySl.keep {w w' : World} {v : Value} {l : List Int} {g : Nat} {S : List Nat} (h : BySl w v l g) (u : Upd S w w') (hg : g ∉ S) : BySl w' v l g := by
  rcases h with h | ⟨o, c, C, T, f, h1, h2, h3⟩
  · exact .inl h
  · exact .inr ⟨o, c, C, T, f, h1, u.get h2 hg, h3⟩

theorem ret_of {v : Value} {v' : Value} (h : v = v') : Ending.returned v = .returned v' := by rw [h]

end Go.Proofs.Ytdgclmibbmofcaa

/-
  The small functions of package page, each by its contract: row, isRights, width, Rights, mapped, at, New.
-/
namespace Go.Proofs.Ytdgclmibbmofcaa
open Go Go.RowKit
set_option linter.unusedVariables false
set_option linter.unusedSimpArgs false

/-- The program's memory at block a, its row of pages at block pb. -/
structure IsMem (w : World) (a pb : Nat) (M : Mem) : Prop where
  hd : ∃ c, 64 ≤ c ∧ w.heap[a]? = some (.cells #[.slice (some ⟨pb, 0, none⟩) 64 c] 73 (0, 0))
  pg : ∃ C, Holds C M ∧ w.heap[pb]? = some (.cells C 108 (0, 0))
  ok : M.Ok

theorem IsMem.ne {w : World} {a pb : Nat} {M : Mem} (h : IsMem w a pb M) : a ≠ pb := by
  intro e; subst e
  obtain ⟨c, _, h1⟩ := h.hd
  obtain ⟨C, h2, h3⟩ := h.pg
  have := h1.symm.trans h3
  simp only [Option.some.injEq, Obj.cells.injEq] at this
  have h4 := h2.size
  rw [← this.1] at h4
  simp at h4

theorem IsMem.al {w : World} {a pb : Nat} {M : Mem} (h : IsMem w a pb M) : a < w.heap.size := by
  obtain ⟨c, _, h1⟩ := h.hd; exact lt_of_heap h1

theorem IsMem.pl {w : World} {a pb : Nat} {M : Mem} (h : IsMem w a pb M) : pb < w.heap.size := by
  obtain ⟨c, _, h1⟩ := h.pg; exact lt_of_heap h1

theorem IsMem.keep {w w' : World} {a pb : Nat} {M : Mem} {S : List Nat} (h : IsMem w a pb M) (u : Upd S w w') (ha : a ∉ S) (hp : pb ∉ S) : IsMem w' a pb M := by
  obtain ⟨c, h0, h1⟩ := h.hd
  obtain ⟨C, h2, h3⟩ := h.pg
  exact ⟨⟨c, h0, u.get h1 ha⟩, ⟨C, h2, u.get h3 hp⟩, h.ok⟩

theorem IsMem.drew {w : World} {a pb : Nat} {M : Mem} (h : IsMem w a pb M) : IsMem w.drew a pb M := ⟨h.hd, h.pg, h.ok⟩

theorem IsMem.c0 {w : World} {a pb : Nat} {M : Mem} (h : IsMem w a pb M) : ∃ c : Nat, 64 ≤ (c : Int) ∧ w.cell? ⟨a, 0, none⟩ = some (.slice (some ⟨pb, 0, none⟩) 64 c) := by
  obtain ⟨c, h0, h1⟩ := h.hd
  exact ⟨c, by omega, by rw [cells_of h1]; rfl⟩

theorem IsMem.cR {w : World} {a pb : Nat} {M : Mem} (h : IsMem w a pb M) (p : Nat) (hp : p < 64) : w.cell? ⟨pb, p * 257, none⟩ = some (.int .i64 (M.R p)) := by
  obtain ⟨C, h2, h3⟩ := h.pg
  rw [cells_of h3, h2.R p hp]

theorem IsMem.cB {w : World} {a pb : Nat} {M : Mem} (h : IsMem w a pb M) (p o : Nat) (hp : p < 64) (ho : o < 256) : w.cell? ⟨pb, p * 257 + 1 + o, none⟩ = some (.int .u8 (M.B (p * 256 + o))) := by
  obtain ⟨C, h2, h3⟩ := h.pg
  rw [cells_of h3, h2.B p o hp ho]

theorem IsMem.free {w : World} {a pb : Nat} {M : Mem} (h : IsMem w a pb M) (o : Nat) : w.frozen? ⟨pb, o, none⟩ = false := by
  obtain ⟨C, h2, h3⟩ := h.pg
  exact free_of h3 o

/-- One cell of the row of pages turned. -/
theorem IsMem.set {w : World} {a pb : Nat} {M M' : Mem} (h : IsMem w a pb M) (i : Nat) (v : Value) (hi : i < 16448) (e : M.cells.setIfInBounds i v = M'.cells) (hok : M'.Ok) : IsMem (w.setCell ⟨pb, i, none⟩ v) a pb M' := by
  obtain ⟨c, h0, h1⟩ := h.hd
  obtain ⟨C, h2, h3⟩ := h.pg
  exact ⟨⟨c, h0, heap_set_keep _ h.ne h1⟩, ⟨_, h2.set i v hi e, heap_set_same h3 i v⟩, hok⟩

/-- Many of them. -/
theorem IsMem.wr {w : World} {a pb : Nat} {M M' : Mem} (h : IsMem w a pb M) (o : Nat) (vs : List Value) (ho : o + vs.length ≤ 16448) (e : Go.Proofs.Ytdgclmibbmofcaa.wr M.cells o vs = M'.cells) (hok : M'.Ok) : IsMem (w.setCells pb o vs) a pb M' := by
  obtain ⟨c, h0, h1⟩ := h.hd
  obtain ⟨C, h2, h3⟩ := h.pg
  exact ⟨⟨c, h0, by rw [heap_setCells_other h.ne]; exact h1⟩, ⟨_, h2.wr o vs ho e, heap_setCells_same _ _ _ _ h3⟩, hok⟩

theorem IsMem.there {w : World} {a pb : Nat} {M : Mem} (h : IsMem w a pb M) (o n : Nat) (hn : o + n ≤ 16448) : w.there pb o n := by
  obtain ⟨C, h2, h3⟩ := h.pg
  exact there_of h3 o n (by have := h2.size; omega)

def rightsB (r : Int) : Bool := decide (1 ≤ r) && decide (r ≤ 7)

theorem rightsB_iff (r : Int) : rightsB r = true ↔ 1 ≤ r ∧ r ≤ 7 := by simp [rightsB]

set_option maxHeartbeats 400000 in
theorem isRights_any (r : Int) (w : World) :
    Calls Try.prog 43 #[.int .i64 r] w fun e w' => e = .returned (.bool (rightsB r)) ∧ w = w' := by
  by_cases h1 : 1 ≤ r
  all_goals
    go_enter Try.func43, Try.ntmps43
    go_wp2
    go_ret
    refine ⟨?_, rfl⟩
    simp [rightsB, h1]
    try omega

def widthI (n : Int) : Int := if n = 1 ∨ n = 2 then n else 4

set_option maxHeartbeats 400000 in
theorem width_any (n : Int) (w : World) :
    Calls Try.prog 67 #[.int .i64 n] w fun e w' => e = .returned (.int .i64 (widthI n)) ∧ w = w' := by
  by_cases h1 : n = 1
  · subst h1
    go_enter Try.func67, Try.ntmps67
    go_wp2
    go_ret
    exact ⟨rfl, rfl⟩
  · by_cases h2 : n = 2
    · subst h2
      go_enter Try.func67, Try.ntmps67
      go_wp2
      go_ret
      exact ⟨rfl, rfl⟩
    · have e1 : (n == 1) = false := by simpa using h1
      have e2 : (n == 2) = false := by simpa using h2
      go_enter Try.func67, Try.ntmps67
      go_wp2
      go_ret
      refine ⟨?_, rfl⟩
      simp [widthI, h1, h2]

/-- Pages at .. at+n-1 are all among the 64. -/
def rowB (at_ n : Int) : Bool := decide (0 ≤ at_) && (decide (1 ≤ n) && (decide (n ≤ 64) && decide (at_ ≤ 64 - n)))

theorem rowB_iff (at_ n : Int) : rowB at_ n = true ↔ 0 ≤ at_ ∧ 1 ≤ n ∧ n ≤ 64 ∧ at_ ≤ 64 - n := by
  simp [rowB]

set_option maxRecDepth 100000 in
set_option maxHeartbeats 400000 in
theorem row_yes (a pb : Nat) (at_ n : Int) (w : World) (M : Mem) (hM : IsMem w a pb M) (h : rowB at_ n = true) :
    Calls Try.prog 45 #[.pointer (some ⟨a, 0, none⟩), .int .i64 at_, .int .i64 n] w fun e w' =>
      ∃ c, e = .returned (.tuple #[.slice (some ⟨pb, at_.toNat * 257, none⟩) n.toNat c, .bool true]) ∧ w = w' := by
  obtain ⟨h1, h2, h3, h4⟩ := (rowB_iff at_ n).1 h
  clear h
  obtain ⟨c, hc, c0⟩ := hM.c0
  have hcp : ¬ c = at_.toNat := by omega
  clear hM
  go_enter Try.func45, Try.ntmps45
  go_wp2
  go_ret2
  refine ⟨c - at_.toNat, ?_, rfl⟩
  have e : (at_ + n).toNat - at_.toNat = n.toNat := by omega
  simp [e]

set_option maxRecDepth 100000 in
set_option maxHeartbeats 400000 in
theorem row_no (a pb : Nat) (at_ n : Int) (w : World) (M : Mem) (hM : IsMem w a pb M) (h : rowB at_ n = false) (hn : -9223372036854775808 ≤ n) :
    Calls Try.prog 45 #[.pointer (some ⟨a, 0, none⟩), .int .i64 at_, .int .i64 n] w fun e w' =>
      e = .returned (.tuple #[.slice none 0 0, .bool false]) ∧ w = w' := by
  clear hM
  by_cases h1 : at_ < 0
  · clear h
    go_enter Try.func45, Try.ntmps45
    go_wp2
    go_ret2
    exact ⟨rfl, rfl⟩
  · by_cases h2 : n < 1
    · clear h
      go_enter Try.func45, Try.ntmps45
      go_wp2
      go_ret2
      exact ⟨rfl, rfl⟩
    · by_cases h3 : 64 < n
      · clear h
        go_enter Try.func45, Try.ntmps45
        go_wp2
        go_ret2
        exact ⟨rfl, rfl⟩
      · have h4 : 64 - n < at_ := by
          have : ¬ rowB at_ n = true := by simp [h]
          rw [rowB_iff] at this
          omega
        clear h
        go_enter Try.func45, Try.ntmps45
        go_wp2
        go_ret2
        exact ⟨rfl, rfl⟩

/-- What (*Memory).Rights tells. -/
def Mem.rights (M : Mem) (p : Int) : Int := if p < 0 ∨ 64 ≤ p then 0 else M.R p.toNat

/-- May the byte at a be used so? -/
def Mem.can (M : Mem) (a right : Int) : Bool := decide (a < 16384) && !(bits .and .i64 (M.R (a / 256).toNat) right == 0)

/-- Where the byte at a lies in the row of pages. -/
def cellOf (a : Int) : Nat := (a / 256).toNat * 257 + 1 + (a % 256).toNat

set_option maxRecDepth 100000 in
set_option maxHeartbeats 400000 in
theorem at_ok (a pb : Nat) (x right : Int) (w : World) (M : Mem) (hM : IsMem w a pb M) (h0 : 0 ≤ x) (h : M.can x right = true) :
    Calls Try.prog 68 #[.pointer (some ⟨a, 0, none⟩), .int .u32 x, .int .i64 right] w fun e w' => e = .returned (.pointer (some ⟨pb, cellOf x, none⟩)) ∧ w = w' := by
  simp only [Mem.can, Bool.and_eq_true, decide_eq_true_eq, Bool.not_eq_true'] at h
  obtain ⟨h1, h2⟩ := h
  obtain ⟨c, hc, c0⟩ := hM.c0
  have cR := hM.cR (x / 256).toNat (by omega)
  clear hM
  go_enter Try.func68, Try.ntmps68
  go_wp2
  go_ret
  exact ⟨rfl, rfl⟩

/-- The fault that a byte's use ends in. -/
def pageFault (x right : Int) : Value := .agg #[.int .i64 1, .int .u32 0, .int .u32 x, .int .i64 right]

set_option maxRecDepth 100000 in
set_option maxHeartbeats 400000 in
theorem at_bad (a pb : Nat) (x right : Int) (w : World) (M : Mem) (hM : IsMem w a pb M) (h0 : 0 ≤ x) (h : M.can x right = false) :
    Calls Try.prog 68 #[.pointer (some ⟨a, 0, none⟩), .int .u32 x, .int .i64 right] w fun e w' => e = .panicked [{ v := .iface 112 (pageFault x right), recovered := false }] ∧ w = w' := by
  by_cases h1 : 16384 ≤ x
  · clear hM h
    go_enter Try.func68, Try.ntmps68
    go_wp2
    exact ⟨rfl, rfl, rfl⟩
  · have h2 : (bits .and .i64 (M.R (x / 256).toNat) right == 0) = true := by
      simpa [Mem.can, show x < 16384 by omega] using h
    obtain ⟨c, hc, c0⟩ := hM.c0
    have cR := hM.cR (x / 256).toNat (by omega)
    clear hM h
    go_enter Try.func68, Try.ntmps68
    go_wp2
    exact ⟨rfl, rfl, rfl⟩

def Mem.mappedB (M : Mem) (x : Int) : Bool := decide (x < 16384) && (M.R (x / 256).toNat != 0)

set_option maxRecDepth 100000 in
set_option maxHeartbeats 400000 in
theorem mapped_any (a pb : Nat) (x : Int) (w : World) (M : Mem) (hM : IsMem w a pb M) (h0 : 0 ≤ x) :
    Calls Try.prog 46 #[.pointer (some ⟨a, 0, none⟩), .int .u32 x] w fun e w' => e = .returned (.bool (M.mappedB x)) ∧ w = w' := by
  by_cases h1 : x < 16384
  · obtain ⟨c, hc, c0⟩ := hM.c0
    have cR := hM.cR (x / 256).toNat (by omega)
    clear hM
    go_enter Try.func46, Try.ntmps46
    go_wp2
    go_ret
    refine ⟨?_, rfl⟩
    rw [Mem.mappedB, decide_eq_true h1, Bool.true_and]
    rfl
  · clear hM
    go_enter Try.func46, Try.ntmps46
    go_wp2
    go_ret
    refine ⟨?_, rfl⟩
    rw [Mem.mappedB, decide_eq_false (by omega)]
    rfl
end Go.Proofs.Ytdgclmibbmofcaa

/-
  Package page: New, the search for a page (slices.ContainsFunc, IndexFunc), all: each by its contract.
-/
namespace Go.Proofs.Ytdgclmibbmofcaa
open Go Go.RowKit
set_option linter.unusedVariables false
set_option linter.unusedSimpArgs false

def zeroPage : Array Value := #[Value.int .i64 0] ++ Array.replicate 256 (Value.int .u8 0)
theorem zeroPage_size : zeroPage.size = 257 := by simp [zeroPage]

theorem page_zero : Try.t108.zero = some (.agg zeroPage) := by kernel_rfl

theorem made_zero_fn (k : Nat) : zeroPage[k % zeroPage.size]! = Mem.zero.at_ k := by
  have hm := Nat.mod_lt k (show 257 > 0 by decide)
  rw [zeroPage_size, getElem!_pos _ _ (by rw [zeroPage_size]; exact hm)]
  by_cases e : k % 257 = 0
  · simp [e, Mem.at_, Mem.zero, zeroPage]
  · simp only [Mem.at_, e, if_false, Mem.zero, zeroPage]
    rw [Array.getElem_append_right (by simp; omega)]
    simp

theorem made_zero (n : Nat) (hn : n = 16448) : madeCells zeroPage n = Mem.zero.cells := by
  have h : madeCells zeroPage n = (Array.range n).map Mem.zero.at_ := congrArg (fun f => (Array.range n).map f) (funext made_zero_fn)
  rw [h, hn, Mem.cells]

theorem info_page : Try.prog.info? 108 = some Try.t108 := by kernel_rfl

theorem run_make_pages (w : World) : (Instr.makeSlice 71 (.int .i64 64) (.int .i64 64)).run Try.prog w = .ok (.slice (some ⟨w.heap.size, 0, none⟩) 64 64) (w.alloc (.cells Mem.zero.cells 108 (0, 0))) := by
  have h := run_make (P := Try.prog) w 71 108 Try.t108 (.agg zeroPage) Try.underlying71 info_page page_zero .i64 .i64 64 64 (by decide) (by decide) (by decide) (by decide)
  have hz : (Value.agg zeroPage).cells = zeroPage := rfl
  rw [hz, made_zero _ (by decide)] at h
  exact h

theorem New_any (w : World) :
    Calls Try.prog 6 #[] w fun e w' => ∃ a pb, e = .returned (.pointer (some ⟨a, 0, none⟩)) ∧ w.heap.size ≤ a ∧ w.heap.size ≤ pb ∧ IsMem w' a pb Mem.zero ∧ Upd [] w w' := by
  have hmk := run_make_pages
  go_enter Try.func6, Try.ntmps6
  go_wp2
  go_ret
  refine ⟨w.heap.size + 1, w.heap.size, rfl, ?_, ?_, ?_, ?_⟩
  · omega
  · omega
  · exact ⟨⟨64, Nat.le_refl _, heap_alloc2_new _ _ _⟩, ⟨_, Holds.cells _, heap_alloc2_old _ _ _⟩, Mem.zero_ok⟩
  · exact ((Upd.refl _ _).alloc _).alloc _


theorem Mem.page0 (M : Mem) (p : Nat) : (M.page p)[0]? = some (.int .i64 (M.R p)) := by
  simp [Mem.page, Mem.at_]

theorem page_range {w : World} {a pb : Nat} {M : Mem} (h : IsMem w a pb M) (p : Nat) (hp : p < 64) : w.rangeAt pb (p * 257) (M.page p).toList := by
  intro j v hv
  have hj : j < 257 := by
    by_cases hl : j < 257
    · exact hl
    · have : (M.page p).toList.length ≤ j := by simp [Mem.size_page]; omega
      rw [List.getElem?_eq_none this] at hv; cases hv
  obtain ⟨C, h2, h3⟩ := h.pg
  rw [cells_of h3, h2.get _ (by omega)]
  simp [Mem.page, hj] at hv
  rw [hv]

theorem page_info : (Try.prog.info? 108).map (·.size) = some 257 := by kernel_rfl

/-- The closure in 'all': is the page mapped otherwise than asked? -/
theorem all1_any (M : Mem) (p bb : Nat) (mapped : Bool) (w : World) (hb : w.heap[bb]? = some (.cells #[.bool mapped] 4 (0, 0))) :
    Calls Try.prog 64 #[.agg (M.page p), .pointer (some ⟨bb, 0, none⟩)] w fun e w' => e = .returned (.bool ((M.R p != 0) != mapped)) ∧ Upd [] w w' := by
  have hlt := lt_of_heap hb
  have hc : w.cell? ⟨bb, 0, none⟩ = some (.bool mapped) := by rw [cells_of hb]; rfl
  clear hb
  have h0 := M.page0 p
  go_enter Try.func64, Try.ntmps64
  go_wp2
  go_ret
  refine ⟨?_, (Upd.refl _ _).alloc _⟩
  simp [bne]

/-- Is page p mapped otherwise than asked? -/
def Mem.odd (M : Mem) (mapped : Bool) (p : Nat) : Bool := (M.R p != 0) != mapped

set_option maxRecDepth 100000 in
set_option maxHeartbeats 1000000 in
theorem IndexFunc_any (M : Mem) (a pb p n c bb : Nat) (mapped : Bool) (w : World) (hM : IsMem w a pb M) (hb : w.heap[bb]? = some (.cells #[.bool mapped] 4 (0, 0))) (hn : p + n ≤ 64) :
    Calls Try.prog 73 #[.slice (some ⟨pb, p * 257, none⟩) n c, .func (.func 64) #[] #[.pointer (some ⟨bb, 0, none⟩)]] w fun e w' =>
      ∃ k : Int, e = .returned (.int .i64 k) ∧ decide (0 ≤ k) = (List.range n).any (fun i => M.odd mapped (p + i)) ∧ Upd [] w w' := by
  go_enter Try.func73, Try.ntmps73
  go_wp2
  go_loopw [5, 8] (fun _ i wr => ∃ k : Nat, k ≤ n ∧ i = .int .i64 k ∧ (∀ j, j < k → M.odd mapped (p + j) = false) ∧ Upd [] w wr) (fun _ i _ => n - (intOf i).toNat)
  case atStart => exact ⟨0, Nat.zero_le _, rfl, by simp, Upd.refl _ _⟩
  case round =>
    obtain ⟨k, hk, rfl, hno, hU⟩ := hrel
    have hM' := hM.keep hU (by simp) (by simp)
    have hb' := hU.get hb (by simp)
    have HN := Lib.hid hno
    clear hno hb
    by_cases hlt : k < n
    · have hr := page_range hM' (p + k) (by omega)
      rw [Nat.add_mul] at hr
      have HR := Lib.hid hr
      clear hr
      go_wp2_with (first | (refine wpList_load_arr rfl 108 _ rfl pb (p * 257 + k * 257) rfl (M.page (p + k)) _ HR.out Try.underlying108 rfl (by rw [M.size_page]; exact page_info) ?_) | (go_at_call 64; refine (all1_any M (p + k) bb mapped wr hb').mono ?_; rintro e w1 ⟨rfl, hU1⟩))
      · rename_i ht
        go_ret
        refine ⟨k, rfl, ?_, hU.trans hU1 (by simp) (by simp)⟩
        symm
        simp only [Int.natCast_nonneg, decide_true, List.any_eq_true, List.mem_range]
        exact ⟨k, hlt, ht⟩
      · rename_i ht
        go_roundw
        case rel =>
          refine ⟨k + 1, by omega, by go_num, ?_, hU.trans hU1 (by simp) (by simp)⟩
          intro j hj
          by_cases e : j = k
          · subst e; exact ht
          · exact HN.out j (by omega)
        case measure => simp [intOf]; omega
    · go_wp2
      go_ret
      refine ⟨-1, rfl, ?_, hU⟩
      symm
      rw [show decide (0 ≤ (-1 : Int)) = false from by decide, List.any_eq_false]
      intro i hi
      rw [HN.out i (by have := List.mem_range.1 hi; omega)]
      simp

set_option maxRecDepth 100000 in
set_option maxHeartbeats 400000 in
theorem ContainsFunc_any (M : Mem) (a pb p n c bb : Nat) (mapped : Bool) (w : World) (hM : IsMem w a pb M) (hb : w.heap[bb]? = some (.cells #[.bool mapped] 4 (0, 0))) (hn : p + n ≤ 64) :
    Calls Try.prog 63 #[.slice (some ⟨pb, p * 257, none⟩) n c, .func (.func 64) #[] #[.pointer (some ⟨bb, 0, none⟩)]] w fun e w' =>
      e = .returned (.bool ((List.range n).any (fun i => M.odd mapped (p + i)))) ∧ Upd [] w w' := by
  go_enter Try.func63, Try.ntmps63
  go_wp2_with (go_at_call 73; refine (IndexFunc_any M a pb p n c bb mapped w hM hb hn).mono ?_; rintro e w' ⟨k, rfl, hk, hU⟩; have HK := Lib.hid hk; clear hk)
  go_ret
  refine ⟨?_, hU⟩
  rw [← HK.out]
  rfl

/-- What 'all' tells: pages beside one another are all there, all mapped (or all not). -/
def Mem.all (M : Mem) (at_ n : Int) (mapped : Bool) : Bool :=
  rowB at_ n && !((List.range n.toNat).any (fun i => M.odd mapped (at_.toNat + i)))

set_option maxRecDepth 100000 in
set_option maxHeartbeats 1000000 in
theorem all_any (M : Mem) (a pb : Nat) (at_ n : Int) (mapped : Bool) (w : World) (hM : IsMem w a pb M) (hn : -9223372036854775808 ≤ n) :
    Calls Try.prog 44 #[.pointer (some ⟨a, 0, none⟩), .int .i64 at_, .int .i64 n, .bool mapped] w fun e w' =>
      e = .returned (.bool (M.all at_ n mapped)) ∧ Upd [] w w' := by
  have hmf : ∀ (fn : Fn) (first cap : Array Value) (w : World), (Instr.makeFunc fn first cap).run Try.prog w = .ok (.func fn first cap) w := fun _ _ _ _ => rfl
  cases hb : rowB at_ n
  · have HB := Lib.hid hb
    clear hb
    go_enter Try.func44, Try.ntmps44
    go_wp2_with (first | (go_at_call 45; refine (row_no a pb at_ n _ M (hM.keep ((Upd.refl [] _).alloc _) (by simp) (by simp)) HB.out hn).mono ?_; rintro e w' ⟨rfl, rfl⟩))
    go_ret
    refine ⟨?_, (Upd.refl _ _).alloc _⟩
    rw [Mem.all, HB.out]
    rfl
  · have h4 := (rowB_iff at_ n).1 hb
    obtain ⟨g1, g2, g3, g4⟩ := h4
    have HB := Lib.hid hb
    clear hb
    have hM1 : IsMem (w.alloc (.cells #[.bool mapped] 4 (0, 0))) a pb M := hM.keep ((Upd.refl [] _).alloc _) (by simp) (by simp)
    have hb1 : (w.alloc (.cells #[.bool mapped] 4 (0, 0))).heap[w.heap.size]? = some (.cells #[.bool mapped] 4 (0, 0)) := heap_alloc_new _ _
    have HB1 := Lib.hid hb1
    clear hb1
    go_enter Try.func44, Try.ntmps44
    go_wp2_with (first | (go_at_call 45; refine (row_yes a pb at_ n _ M hM1 HB.out).mono ?_; rintro e w' ⟨cc, rfl, rfl⟩) | (go_at_call 63; refine (ContainsFunc_any M a pb at_.toNat n.toNat _ w.heap.size mapped _ hM1 HB1.out (by omega)).mono ?_; rintro e w' ⟨rfl, hU⟩))
    go_ret
    refine ⟨?_, ((Upd.refl [] _).alloc _).trans hU (by simp) (by simp)⟩
    rw [Mem.all, HB.out]
    rfl

end Go.Proofs.Ytdgclmibbmofcaa

/-
  Package page: Map, Unmap, Protect: each by its contract.
-/
namespace Go.Proofs.Ytdgclmibbmofcaa
open Go Go.RowKit
set_option linter.unusedVariables false
set_option linter.unusedSimpArgs false

/-- Pages from p on, k of them, with these rights and noughts. -/
def Mem.mapN (M : Mem) (p k : Nat) (r : Int) : Mem :=
  ⟨fun q => if p ≤ q ∧ q < p + k then r else M.R q, fun x => if p ≤ x / 256 ∧ x / 256 < p + k then 0 else M.B x⟩

def Mem.protN (M : Mem) (p k : Nat) (r : Int) : Mem :=
  ⟨fun q => if p ≤ q ∧ q < p + k then r else M.R q, M.B⟩

theorem Mem.mapN_zero (M : Mem) (p : Nat) (r : Int) : M.mapN p 0 r = M := by
  apply Mem.ext'
  · funext q; simp only [Mem.mapN]; rw [if_neg (by omega)]
  · funext x; simp only [Mem.mapN]; rw [if_neg (by omega)]

theorem Mem.mapN_succ (M : Mem) (p k : Nat) (r : Int) : (M.mapN p k r).setPage (p + k) ⟨fun _ => r, fun _ => 0⟩ = M.mapN p (k + 1) r := by
  apply Mem.ext'
  · funext q
    simp only [Mem.mapN, Mem.setPage]
    by_cases e : q = p + k
    · rw [if_pos e, if_pos (by omega)]
    · rw [if_neg e]
      by_cases h : p ≤ q ∧ q < p + k
      · rw [if_pos h, if_pos (by omega)]
      · rw [if_neg h, if_neg (by omega)]
  · funext x
    simp only [Mem.mapN, Mem.setPage]
    by_cases e : x / 256 = p + k
    · rw [if_pos e, if_pos (by omega)]
    · rw [if_neg e]
      by_cases h : p ≤ x / 256 ∧ x / 256 < p + k
      · rw [if_pos h, if_pos (by omega)]
      · rw [if_neg h, if_neg (by omega)]

theorem Mem.protN_zero (M : Mem) (p : Nat) (r : Int) : M.protN p 0 r = M := by
  apply Mem.ext'
  · funext q; simp only [Mem.protN]; rw [if_neg (by omega)]
  · rfl

theorem Mem.protN_succ (M : Mem) (p k : Nat) (r : Int) : (M.protN p k r).setR (p + k) r = M.protN p (k + 1) r := by
  apply Mem.ext'
  · funext q
    simp only [Mem.protN, Mem.setR]
    by_cases e : q = p + k
    · rw [if_pos e, if_pos (by omega)]
    · rw [if_neg e]
      by_cases h : p ≤ q ∧ q < p + k
      · rw [if_pos h, if_pos (by omega)]
      · rw [if_neg h, if_neg (by omega)]
  · rfl

theorem Mem.mapN_ok {M : Mem} (h : M.Ok) (p k : Nat) {r : Int} (h0 : 0 ≤ r) (h7 : r ≤ 7) : (M.mapN p k r).Ok :=
  ⟨fun q => by simp only [Mem.mapN]; split; exact ⟨h0, h7⟩; exact h.R q, fun q => by simp only [Mem.mapN]; split; simp; exact h.B q⟩
theorem Mem.Ok.mapN_ok' {M : Mem} (h : M.Ok) (p k : Nat) : (M.mapN p k 0).Ok := Mem.mapN_ok h p k (by decide) (by decide)
theorem Mem.protN_ok {M : Mem} (h : M.Ok) (p k : Nat) {r : Int} (h0 : 0 ≤ r) (h7 : r ≤ 7) : (M.protN p k r).Ok :=
  ⟨fun q => by simp only [Mem.protN]; split; exact ⟨h0, h7⟩; exact h.R q, h.B⟩

/-- What Map does: may it, and what is there behind it. -/
def Mem.mapB (M : Mem) (at_ n r : Int) : Bool := rightsB r && M.all at_ n false
def Mem.unmapB (M : Mem) (at_ n : Int) : Bool := M.all at_ n true
def Mem.protB (M : Mem) (at_ n r : Int) : Bool := rightsB r && M.all at_ n true

def onePage (r : Int) : Mem := ⟨fun _ => r, fun _ => 0⟩

theorem zeroPage_eq (r : Int) : zeroPage.setIfInBounds 0 (.int .i64 r) = (onePage r).page 0 := by
  apply Array.ext_getElem?
  intro k
  rw [Array.getElem?_setIfInBounds, zeroPage_size]
  by_cases hk : k < 257
  · rw [Mem.page, Array.getElem?_map, Array.getElem?_range, if_pos hk]
    by_cases e : k = 0
    · subst e; simp [Mem.at_, onePage]
    · rw [if_neg (by omega), zeroPage, Array.getElem?_append_right (by simp; omega), Array.getElem?_replicate, if_pos (by simp; omega)]
      have : ¬ (0 * 257 + k) % 257 = 0 := by omega
      simp [Mem.at_, onePage, this]
      omega
  · rw [if_neg (by omega), Array.getElem?_eq_none (by rw [zeroPage_size]; omega), Array.getElem?_eq_none (by rw [Mem.size_page]; omega)]

theorem build_page (r : Int) (w : World) : (Instr.build 108 #[(0, .int .i64 r)]).run Try.prog w = .ok (.agg ((onePage r).page 0)) w := by
  rw [← zeroPage_eq]
  have hz : (zeroValue 108).run Try.prog w = .ok (.agg zeroPage) w := by
    simp [zeroValue, page_zero]
  unfold Instr.build
  simp only [Sem.run_bind, hz, Result.andThen_ok, Try.runUnderlying108]
  simp only [Array.mapM_eq_mapM_toList, List.mapM_cons, List.mapM_nil, Sem.run_bind, Sem.run_pure, Result.andThen_ok, Try.sizeOf3, Try.sizeOf106, Sem.run_map]
  have hf : Instr.fill (fun x => (#[(0, 1), (1, 256)] : Array (Nat × Nat))[x]?) (Value.agg zeroPage).cells [(0, Value.int .i64 r)] = some (zeroPage.setIfInBounds 0 (Value.int .i64 r)) := by
    simp [Instr.fill, Value.cells, zeroPage_size]
  rw [hf]
  rfl

set_option maxRecDepth 100000 in
set_option maxHeartbeats 1000000 in
theorem Map_no (M : Mem) (a pb : Nat) (at_ n r : Int) (w : World) (hM : IsMem w a pb M) (hn : -9223372036854775808 ≤ n) (h : M.mapB at_ n r = false) :
    Calls Try.prog 20 #[.pointer (some ⟨a, 0, none⟩), .int .i64 at_, .int .i64 n, .int .i64 r] w fun e w' => e = .returned (.int .i64 61) ∧ Upd [] w w' := by
  cases hr : rightsB r
  · have HR := Lib.hid hr
    clear hr h
    go_enter Try.func20, Try.ntmps20
    go_wp2_with (first | (go_at_call 43; refine (isRights_any r _).mono ?_; rintro e w' ⟨rfl, rfl⟩; rw [HR.out]))
    go_ret
    exact ⟨rfl, Upd.refl _ _⟩
  · have ha : M.all at_ n false = false := by simpa [Mem.mapB, hr] using h
    have HR := Lib.hid hr
    have HA := Lib.hid ha
    clear hr h ha
    go_enter Try.func20, Try.ntmps20
    go_wp2_with (first | (go_at_call 43; refine (isRights_any r _).mono ?_; rintro e w' ⟨rfl, rfl⟩; rw [HR.out]) | (go_at_call 44; refine (all_any M a pb at_ n false _ hM hn).mono ?_; rintro e w' ⟨rfl, hU⟩; rw [HA.out]))
    go_ret
    exact ⟨rfl, hU⟩

/-- A page laid into the row. -/
theorem IsMem.setPage {w : World} {a pb : Nat} {M : Mem} (h : IsMem w a pb M) (p : Nat) (N : Mem) (q : Nat) (hp : p < 64) (hN : N.page q = (N.page p)) (hok : N.Ok) :
    IsMem (w.setCells pb (p * 257) (N.page q).toList) a pb (M.setPage p N) := by
  refine h.wr _ _ ?_ ?_ ⟨fun q => by simp only [Mem.setPage]; split; exact hok.R p; exact h.ok.R q, fun x => by simp only [Mem.setPage]; split; exact hok.B x; exact h.ok.B x⟩
  · rw [Array.length_toList, Mem.size_page]; omega
  · rw [hN, Mem.wr_page _ _ _ hp]

theorem onePage_ok {r : Int} (h : 1 ≤ r ∧ r ≤ 7) : (onePage r).Ok := ⟨fun _ => by simp only [onePage]; omega, fun _ => by simp [onePage]⟩

theorem onePage_page (r : Int) (q p : Nat) : (onePage r).page q = (onePage r).page p := by
  unfold Mem.page
  have h : (fun j => (onePage r).at_ (q * 257 + j)) = (fun j => (onePage r).at_ (p * 257 + j)) := by
    funext j
    have h1 : ∀ i, (i * 257 + j) % 257 = j % 257 := fun i => by rw [Nat.mul_comm]; exact Nat.mul_add_mod _ _ _
    simp only [Mem.at_, onePage, h1]
  rw [h]

set_option maxRecDepth 100000 in
set_option maxHeartbeats 1000000 in
theorem Map_yes (M : Mem) (a pb : Nat) (at_ n r : Int) (w : World) (hM : IsMem w a pb M) (hn : -9223372036854775808 ≤ n) (h : M.mapB at_ n r = true) :
    Calls Try.prog 20 #[.pointer (some ⟨a, 0, none⟩), .int .i64 at_, .int .i64 n, .int .i64 r] w fun e w' => e = .returned (.int .i64 0) ∧ IsMem w' a pb (M.mapN at_.toNat n.toNat r) ∧ Upd [pb] w w' := by
  simp only [Mem.mapB, Bool.and_eq_true] at h
  obtain ⟨hr, ha⟩ := h
  have hrow : rowB at_ n = true := by
    simp only [Mem.all, Bool.and_eq_true] at ha; exact ha.1
  obtain ⟨g1, g2, g3, g4⟩ := (rowB_iff at_ n).1 hrow
  have HR := Lib.hid hr
  have HA := Lib.hid ha
  have HW := Lib.hid hrow
  clear hr ha hrow
  obtain ⟨p, rfl⟩ := Int.eq_ofNat_of_zero_le g1
  obtain ⟨k, rfl⟩ := Int.eq_ofNat_of_zero_le (show 0 ≤ n by omega)
  rw [Int.toNat_natCast, Int.toNat_natCast]
  go_enter Try.func20, Try.ntmps20
  go_wp2_with (first | (go_at_call 43; refine (isRights_any r _).mono ?_; rintro e w' ⟨rfl, rfl⟩; rw [HR.out]) | (go_at_call 44; refine (all_any M a pb p k false _ hM hn).mono ?_; rintro e w1 ⟨rfl, hU⟩; rw [HA.out]; have hM1 := hM.keep hU (by simp) (by simp); have HU := Lib.hid hU; have HM1 := Lib.hid hM1; clear hU hM1) | (go_at_call 45; refine (row_yes a pb p k _ M HM1.out HW.out).mono ?_; rintro e w2 ⟨cc, rfl, rfl⟩; rw [Int.toNat_natCast, Int.toNat_natCast]))
  go_loopw [11, 31] (fun _ i wr => ∃ j : Nat, j ≤ k ∧ i = .int .i64 j ∧ IsMem wr a pb (M.mapN p j r) ∧ Upd [pb] w wr) (fun _ i _ => k - (intOf i).toNat)
  case atStart => exact ⟨0, Nat.zero_le _, rfl, by rw [Mem.mapN_zero]; exact HM1.out, HU.out.mono (by simp)⟩
  case round =>
    obtain ⟨j, hj, rfl, hMj, hUj⟩ := hrel
    have HMj := Lib.hid hMj
    have HUj := Lib.hid hUj
    clear hMj hUj
    by_cases hlt : j < k
    · obtain ⟨CC, hpg1, hpg2⟩ := HMj.out.pg
      have HP1 := Lib.hid hpg1
      have HP := Lib.hid hpg2
      clear hpg1 hpg2
      go_wp2_with (first | (refine wpList_build rfl 108 _ rfl [(0, .int .i64 r)] rfl _ (build_page r _) ?_) | (refine wpList_store_arr rfl 108 _ _ rfl pb (p * 257 + j * 257) ((onePage r).page 0) rfl rfl HP.out (by have := HP1.out.size; rw [Mem.size_page]; omega) (by rw [Mem.size_page]; exact page_info) (Mem.page_one _ _) ?_))
      go_roundw
      case rel =>
        refine ⟨j + 1, by omega, by go_num, ?_, HUj.out.setCells (by simp) _ _⟩
        have h := HMj.out.setPage (p + j) (onePage r) 0 (by omega) (onePage_page _ _ _) (onePage_ok ((rightsB_iff r).1 HR.out))
        rw [show (p + j) * 257 = p * 257 + j * 257 from by omega] at h
        rw [← Mem.mapN_succ]
        exact h
      case measure => simp [intOf]; omega
    · go_wp2
      go_ret
      have e : j = k := by omega
      subst e
      exact ⟨rfl, HMj.out, HUj.out⟩

end Go.Proofs.Ytdgclmibbmofcaa
