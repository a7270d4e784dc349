/-
  The guest's memory as plain data (rights of 64 pages, 16384 bytes), how it lies in the cells of the program's row of pages and of the reference's struct, and a frame relation between worlds ('Upd'). No condition; no walk here.
-/
import Derived.WalkKit
import Derived.Deep.MidRow
import Derived.ProofKit
import Derived.OpenShut
import Derived.Carry
import Derived.WalkSpells
import Derived.ChangeKeysEq
import Derived.Lib.SliceRun
import Derived.Test.YtoplekfnghkkdaaRows
import Derived.Laws.BitsAllLaws
import Derived.WalkLawsBesides
import Derived.Lib.Hide
import Derived.Laws.IdiomCopy
namespace Go.Proofs.Ytoplekfnghkkdaa
open Go Go.RowKit
set_option linter.unusedVariables false
set_option linter.unusedSimpArgs false

/-! ### A frame relation: but for the blocks listed, all that was there is as it was. -/
structure Upd (S : List Nat) (w w' : World) : Prop where
  os : w'.os = w.os
  tape : w'.tape = w.tape
  output : w'.output = w.output
  size : w.heap.size ≤ w'.heap.size
  block : ∀ k, k < w.heap.size → k ∉ S → w'.heap[k]? = w.heap[k]?

theorem Upd.refl (S : List Nat) (w : World) : Upd S w w := ⟨rfl, rfl, rfl, Nat.le_refl _, fun _ _ _ => rfl⟩

theorem Upd.trans {S S' T : List Nat} {a b c : World} (h : Upd S a b) (k : Upd S' b c) (hS : ∀ x, x ∈ S → x ∈ T) (hS' : ∀ x, x ∈ S' → x ∈ T ∨ a.heap.size ≤ x) : Upd T a c :=
  ⟨k.os.trans h.os, k.tape.trans h.tape, k.output.trans h.output, Nat.le_trans h.size k.size, fun i hi hn => by
    have h1 : i ∉ S := fun hh => hn (hS i hh)
    have h2 : i ∉ S' := fun hh => by
      rcases hS' i hh with h | h
      · exact hn h
      · omega
    rw [k.block i (Nat.lt_of_lt_of_le hi h.size) h2, h.block i hi h1]⟩

theorem Upd.mono {S T : List Nat} {a b : World} (h : Upd S a b) (hS : ∀ x, x ∈ S → x ∈ T) : Upd T a b :=
  h.trans (Upd.refl [] b) hS (by simp)

theorem Upd.new {S' : List Nat} {a b c : World} (h : Upd [] a b) (k : Upd S' b c) (hS' : ∀ x, x ∈ S' → a.heap.size ≤ x) : Upd [] a c :=
  h.trans k (by simp) (fun x hx => .inr (hS' x hx))

theorem Upd.also {S S' : List Nat} {a b c : World} (h : Upd S a b) (k : Upd S' b c) (hS' : ∀ x, x ∈ S' → x ∈ S ∨ a.heap.size ≤ x) : Upd S a c :=
  h.trans k (fun _ h => h) hS'

theorem Upd.drew {S : List Nat} {a b : World} (h : Upd S a b) : Upd S a b.drew := ⟨h.os, h.tape, h.output, h.size, h.block⟩

theorem Upd.alloc {S : List Nat} {a b : World} (h : Upd S a b) (o : Obj) : Upd S a (b.alloc o) :=
  h.trans (S' := []) ⟨rfl, rfl, rfl, by simp, fun k hk _ => Below.heap_alloc _ _ _ hk⟩ (fun _ h => h) (by simp)

theorem Upd.setCell {S : List Nat} {a b : World} (h : Upd S a b) {p : Addr} (hp : p.block ∈ S ∨ a.heap.size ≤ p.block) (u : Value) : Upd S a (b.setCell p u) :=
  h.trans (S' := [p.block]) ⟨rfl, rfl, rfl, by simp [World.setCell], fun k _ hn => Below.heap_setCell _ _ _ _ (by simpa using hn)⟩ (fun _ h => h) (by simpa using hp)

theorem Upd.below {a b : World} (h : Upd [] a b) : Below a.heap.size a b := ⟨h.os, h.tape, h.output, h.size, fun k hk => h.block k hk (by simp)⟩

theorem Upd.get {S : List Nat} {w w' : World} (h : Upd S w w') {k : Nat} {o : Obj} (hk : w.heap[k]? = some o) (hn : k ∉ S) : w'.heap[k]? = some o := by
  have hlt : k < w.heap.size := by
    by_cases hl : k < w.heap.size
    · exact hl
    · rw [Array.getElem?_eq_none (by omega)] at hk; cases hk
  rw [h.block k hlt hn]; exact hk

theorem lt_of_heap {w : World} {k : Nat} {o : Obj} (hk : w.heap[k]? = some o) : k < w.heap.size := by
  by_cases hl : k < w.heap.size
  · exact hl
  · rw [Array.getElem?_eq_none (by omega)] at hk; cases hk

/-! ### A block known whole: its cells. -/
theorem cells_of {w : World} {b : Nat} {c : Array Value} {t : TypeId} {f : Nat × Nat} (h : w.heap[b]? = some (.cells c t f)) (o : Nat) : w.cell? ⟨b, o, none⟩ = c[o]? := by
  simp [World.cell?, h]

theorem free_of {w : World} {b : Nat} {c : Array Value} {t : TypeId} (h : w.heap[b]? = some (.cells c t (0, 0))) (o : Nat) : w.frozen? ⟨b, o, none⟩ = false := by
  simp [World.frozen?, h]

theorem heap_set_same {w : World} {b : Nat} {c : Array Value} {t : TypeId} {f : Nat × Nat} (h : w.heap[b]? = some (.cells c t f)) (o : Nat) (v : Value) :
    (w.setCell ⟨b, o, none⟩ v).heap[b]? = some (.cells (c.setIfInBounds o v) t f) := by
  simp [World.setCell, Array.getElem?_modify, h]

theorem heap_set_other {w : World} {a : Addr} {b : Nat} (v : Value) (hne : b ≠ a.block) : (w.setCell a v).heap[b]? = w.heap[b]? :=
  Below.heap_setCell _ _ _ _ hne

theorem heap_alloc_keep {w : World} {b : Nat} {x : Obj} (o : Obj) (h : w.heap[b]? = some x) : (w.alloc o).heap[b]? = some x := by
  rw [heap_alloc_old _ _ (lt_of_heap h)]; exact h

theorem heap_set_keep {w : World} {a : Addr} {b : Nat} {x : Obj} (v : Value) (hne : b ≠ a.block) (h : w.heap[b]? = some x) : (w.setCell a v).heap[b]? = some x := by
  rw [heap_set_other v hne]; exact h

/-! ### A struct or an array read out of, laid into the middle of a block: the cells as an array. -/
theorem wpList_load_arr {P : Program} {ops : Array Oper} {rest : List Oper} {op : Oper} {a : Act} {w : World} {Q : Exit → Act → World → Prop} (hgd : op.guard = none) (ty : TypeId) (x : Operand) (ho : op.op = .load ty x)
    (b o : Nat) (hx : a.eval x = .pointer (some ⟨b, o, none⟩)) (cs : Array Value) (d : TypeDesc) (hc : w.rangeAt b o cs.toList)
    (hu : P.underlying ty = some d) (hd : d.isRow = true) (hi : (P.info? ty).map (·.size) = some cs.size)
    (h : wpList P ops Q rest (a.put op.dst (.agg cs)) w) : wpList P ops Q (op :: rest) a w :=
  wpList_load_mid hgd ty x ho b o hx cs.toList d hc hu hd (by rw [hi, Array.length_toList]) (by rw [Array.toArray_toList]; exact h)

theorem range_whole {w : World} {b : Nat} {c : Array Value} {t : TypeId} {f : Nat × Nat} (h : w.heap[b]? = some (.cells c t f)) : w.rangeAt b 0 c.toList := by
  intro j v hv
  rw [cells_of h, Nat.zero_add, ← hv, Array.getElem?_toList]

/-- Cells written over from place o on. -/
def wr (c : Array Value) (o : Nat) : List Value → Array Value
  | [] => c
  | v :: r => wr (c.setIfInBounds o v) (o + 1) r

theorem wr_size (vs : List Value) : ∀ (c : Array Value) (o : Nat), (wr c o vs).size = c.size := by
  induction vs with
  | nil => intro c o; rfl
  | cons v r ih => intro c o; rw [wr, ih, Array.size_setIfInBounds]

theorem wr_get (vs : List Value) : ∀ (c : Array Value) (o k : Nat), o + vs.length ≤ c.size → (wr c o vs)[k]? = if o ≤ k ∧ k < o + vs.length then vs[k - o]? else c[k]? := by
  induction vs with
  | nil => intro c o k _; rw [wr, if_neg (by simp)]
  | cons v r ih =>
    intro c o k h
    simp only [List.length_cons] at h ⊢
    rw [wr, ih _ _ _ (by rw [Array.size_setIfInBounds]; omega)]
    by_cases e : o = k
    · subst e
      rw [if_neg (by omega), if_pos (by omega), Nat.sub_self, Array.getElem?_setIfInBounds, if_pos rfl, if_pos (by omega)]
      rfl
    · by_cases h1 : o + 1 ≤ k ∧ k < o + 1 + r.length
      · rw [if_pos h1, if_pos (by omega), show k - o = (k - (o + 1)) + 1 from by omega, List.getElem?_cons_succ]
      · rw [if_neg h1, if_neg (by omega), Array.getElem?_setIfInBounds, if_neg e]

theorem heap_setCells_same {b : Nat} {t : TypeId} {f : Nat × Nat} (vs : List Value) : ∀ (w : World) (c : Array Value) (o : Nat), w.heap[b]? = some (.cells c t f) →
    (w.setCells b o vs).heap[b]? = some (.cells (wr c o vs) t f) := by
  induction vs with
  | nil => intro w c o h; exact h
  | cons v r ih => intro w c o h; exact ih _ _ _ (heap_set_same h o v)

theorem heap_setCells_other {b b' : Nat} (hne : b' ≠ b) (vs : List Value) : ∀ (w : World) (o : Nat), (w.setCells b o vs).heap[b']? = w.heap[b']? := by
  induction vs with
  | nil => intro w o; rfl
  | cons v r ih => intro w o; rw [World.setCells, ih]; exact heap_set_other v hne

theorem Upd.setCells {S : List Nat} {a : World} {q : Nat} (hp : q ∈ S ∨ a.heap.size ≤ q) (vs : List Value) : ∀ {b : World} (o : Nat), Upd S a b → Upd S a (b.setCells q o vs) := by
  induction vs with
  | nil => intro b o h; exact h
  | cons v r ih => intro b o h; exact ih _ (h.setCell (p := ⟨q, o, none⟩) hp v)

theorem there_of {w : World} {b : Nat} {c : Array Value} {t : TypeId} (h : w.heap[b]? = some (.cells c t (0, 0))) (o n : Nat) (hn : o + n ≤ c.size) : w.there b o n := by
  intro j hj
  rw [cells_of h, free_of h]
  exact ⟨by rw [Array.getElem?_eq_getElem (by omega)]; rfl, rfl⟩

theorem wpList_store_arr {P : Program} {ops : Array Oper} {rest : List Oper} {op : Oper} {a : Act} {w : World} {Q : Exit → Act → World → Prop} (hgd : op.guard = none) (ty : TypeId) (x y : Operand) (ho : op.op = .store ty x y)
    (b o : Nat) (cs : Array Value) (hx : a.eval x = .pointer (some ⟨b, o, none⟩)) (hy : a.eval y = .agg cs)
    {c : Array Value} {t : TypeId} (hb : w.heap[b]? = some (.cells c t (0, 0))) (hn : o + cs.size ≤ c.size) (hi : (P.info? ty).map (·.size) = some cs.size) (h1 : cs.all (·.oneCell') = true)
    (h : wpList P ops Q rest (a.put op.dst undef) (w.setCells b o cs.toList)) : wpList P ops Q (op :: rest) a w :=
  wpList_store_mid hgd ty x y ho b o cs hx hy (there_of hb o cs.size hn) hi h1 h

/-! ### The guest's memory. -/
structure Mem where
  R : Nat → Int
  B : Nat → Int

@[ext] theorem Mem.ext' {a b : Mem} (h : a.R = b.R) (k : a.B = b.B) : a = b := by
  cases a; cases b; simp_all

structure Mem.Ok (M : Mem) : Prop where
  R : ∀ p, 0 ≤ M.R p ∧ M.R p ≤ 7
  B : ∀ a, 0 ≤ M.B a ∧ M.B a ≤ 255

def Mem.zero : Mem := ⟨fun _ => 0, fun _ => 0⟩

/-- The cell at place k of the program's row of pages: 257 cells a page, its rights first. -/
def Mem.at_ (M : Mem) (k : Nat) : Value :=
  if k % 257 = 0 then .int .i64 (M.R (k / 257)) else .int .u8 (M.B (k / 257 * 256 + (k % 257 - 1)))

def Mem.cells (M : Mem) : Array Value := (Array.range 16448).map M.at_

theorem Mem.size_cells (M : Mem) : M.cells.size = 16448 := by simp [Mem.cells]
theorem Mem.getElem?_cells (M : Mem) (k : Nat) (h : k < 16448) : M.cells[k]? = some (M.at_ k) := by
  simp [Mem.cells, Array.getElem?_map, Array.getElem?_range, h]

theorem Mem.cells_R (M : Mem) (p : Nat) (h : p < 64) : M.cells[p * 257]? = some (.int .i64 (M.R p)) := by
  rw [M.getElem?_cells _ (by omega)]
  simp [Mem.at_]

theorem Mem.cells_B (M : Mem) (p o : Nat) (h : p < 64) (ho : o < 256) : M.cells[p * 257 + 1 + o]? = some (.int .u8 (M.B (p * 256 + o))) := by
  rw [M.getElem?_cells _ (by omega)]
  have h1 : (p * 257 + 1 + o) % 257 = o + 1 := by omega
  have h2 : (p * 257 + 1 + o) / 257 = p := by omega
  simp [Mem.at_, h1, h2]

def Mem.setB (M : Mem) (a : Nat) (v : Int) : Mem := { M with B := fun q => if q = a then v else M.B q }

theorem Mem.setB_ok {M : Mem} (h : M.Ok) (a : Nat) {v : Int} (h0 : 0 ≤ v) (h7 : v ≤ 255) : (M.setB a v).Ok :=
  ⟨h.R, fun q => by simp only [Mem.setB]; split; exact ⟨h0, h7⟩; exact h.B q⟩

theorem Mem.cells_setB (M : Mem) (p o : Nat) (v : Int) (h : p < 64) (ho : o < 256) :
    M.cells.setIfInBounds (p * 257 + 1 + o) (.int .u8 v) = (M.setB (p * 256 + o) v).cells := by
  apply Array.ext_getElem?
  intro k
  by_cases hk : k < 16448
  · rw [Array.getElem?_setIfInBounds, Mem.getElem?_cells _ _ hk, Mem.getElem?_cells _ _ hk]
    by_cases e : p * 257 + 1 + o = k
    · subst e
      have h1 : (p * 257 + 1 + o) % 257 = o + 1 := by omega
      have h2 : (p * 257 + 1 + o) / 257 = p := by omega
      simp [Mem.size_cells, Mem.at_, Mem.setB, h1, h2]; omega
    · rw [if_neg e]
      simp only [Mem.at_, Mem.setB]
      by_cases e2 : k % 257 = 0
      · simp [e2]
      · have hd := Nat.div_add_mod k 257
        have hm := Nat.mod_lt k (show 257 > 0 by decide)
        have : ¬ k / 257 * 256 + (k % 257 - 1) = p * 256 + o := by
          generalize k / 257 = q at *
          generalize k % 257 = r at *
          intro hh
          have h1 : q = p := by omega
          subst h1
          omega
        simp [e2, this]
  · rw [Array.getElem?_eq_none (by rw [Array.size_setIfInBounds, Mem.size_cells]; omega), Array.getElem?_eq_none (by rw [Mem.size_cells]; omega)]

/-- Cells that begin with a memory's (a row of pages may have room behind its 64). -/
structure Holds (C : Array Value) (M : Mem) : Prop where
  size : 16448 ≤ C.size
  get : ∀ k, k < 16448 → C[k]? = some (M.at_ k)

theorem Holds.cells (M : Mem) : Holds M.cells M := ⟨by rw [Mem.size_cells]; exact Nat.le_refl _, fun k h => M.getElem?_cells k h⟩

theorem Holds.R {C : Array Value} {M : Mem} (h : Holds C M) (p : Nat) (hp : p < 64) : C[p * 257]? = some (.int .i64 (M.R p)) := by
  rw [h.get _ (by omega), ← M.getElem?_cells _ (by omega), M.cells_R p hp]

theorem Holds.B {C : Array Value} {M : Mem} (h : Holds C M) (p o : Nat) (hp : p < 64) (ho : o < 256) : C[p * 257 + 1 + o]? = some (.int .u8 (M.B (p * 256 + o))) := by
  rw [h.get _ (by omega), ← M.getElem?_cells _ (by omega), M.cells_B p o hp ho]

theorem Holds.set {C : Array Value} {M M' : Mem} (h : Holds C M) (i : Nat) (v : Value) (hi : i < 16448) (e : M.cells.setIfInBounds i v = M'.cells) : Holds (C.setIfInBounds i v) M' := by
  refine ⟨by rw [Array.size_setIfInBounds]; exact h.size, fun k hk => ?_⟩
  have hs := h.size
  rw [← M'.getElem?_cells k hk, ← e, Array.getElem?_setIfInBounds, Array.getElem?_setIfInBounds, h.get k hk, M.getElem?_cells k hk, M.size_cells]
  by_cases e2 : i = k
  · rw [if_pos e2, if_pos e2, if_pos (by omega), if_pos (by omega)]
  · rw [if_neg e2, if_neg e2]

theorem Holds.wr {C : Array Value} {M M' : Mem} (h : Holds C M) (o : Nat) (vs : List Value) (ho : o + vs.length ≤ 16448) (e : Go.Proofs.Ytoplekfnghkkdaa.wr M.cells o vs = M'.cells) : Holds (Go.Proofs.Ytoplekfnghkkdaa.wr C o vs) M' := by
  refine ⟨by rw [wr_size]; exact h.size, fun k hk => ?_⟩
  have hs := h.size
  rw [← M'.getElem?_cells k hk, ← e, wr_get _ _ _ _ (by omega), wr_get _ _ _ _ (by rw [M.size_cells]; omega), h.get k hk, M.getElem?_cells k hk]

end Go.Proofs.Ytoplekfnghkkdaa

/-
  A law's last step, from the frame relation 'Upd []' of a walk. No condition.
-/
namespace Go.Proofs.Ytoplekfnghkkdaa
open Go Go.RowKit Go.WideShapes Go.ChangeShapes
set_option linter.unusedVariables false
set_option linter.unusedSimpArgs false

theorem post_of_upd {H : Type} {enc : TypeId × Value → H} {P : Program} {f : Func} {s : ChangeSpec} {apart fresh handsOn again : Bool} {W W' : World} {args : Array Value} {v : Value} {ds gs : List (DataW H)} {pl pa pv : List MemPlace}
    (hW : DataW.Whole enc P f.params.toList s.vars apart W args.toList ds gs pl)
    (hr : ∀ (b : Nat) (sp : Nat → Bool) (hd : Bool), DataW.TrodAll enc P W' b sp hd f.resultTypes.toList (v.resultList f.resultTypes.size) (s.fn H (ds ++ gs)).results [])
    (ha : ∀ sp : Nat → Bool, (∀ p ∈ pl, sp p.block = true) → DataW.TrodAll enc P W' 0 sp true f.params.toList args.toList (s.fn H (ds ++ gs)).args pa)
    (hv : ∀ sp : Nat → Bool, (∀ p ∈ pl, sp p.block = true) → DataW.TrodVars enc P W' sp s.vars (s.fn H (ds ++ gs)).vars pv)
    (hp : pl = pa ++ pv) (u : Upd [] W W')
    (hok : ∀ (j : Nat) (t : TypeId) (r : Value), f.resultTypes[j]? = some t → (v.resultList f.resultTypes.size)[j]? = some r → Value.okWide P W' .any 0 t r) :
    s.post enc P f apart fresh handsOn again W args v W' := by
  have hb := u.below
  have hin : ∀ p ∈ pl, p.block < W.heap.size := fun p h => hW.lt p h
  have hsp : ∀ p ∈ pl, (fun b => decide (b < W.heap.size)) p.block = true := fun p h => by simpa using hin p h
  refine ⟨ds, gs, pl, [], pa, pv, hW, hr _ _ _, ha _ hsp, hv _ hsp, World.keptBut_mono (fun p h => ⟨h, .inr ?_⟩) (hb.frame (· ∈ pl)), fun _ => ?_⟩
  · rw [hp, List.mem_append] at h
    exact h
  · obtain ⟨_, _, _, _, _, hz, hn⟩ := hW
    refine ⟨hok, _, _, ([] ++ pa) ++ pv, ⟨[] ++ pa, pv, trodAll_append (ha _ (fun _ _ => rfl)) (hr _ _ _), hv _ (fun _ _ => rfl), rfl, fun b o h => ?_, fun h => ?_⟩, ?_⟩
    · have hm : MemPlace.cell b o ∈ pl := by rw [hp]; simpa using h
      rw [hb.frozen (hin _ hm)]
      exact hz b o hm
    · have := hn h
      rw [hp] at this
      simpa using this
    · intro p h _
      rw [hp]
      simpa using h

end Go.Proofs.Ytoplekfnghkkdaa

/-
  A law's last step where the arguments are whatever plain data: they read behind the call as they did ahead of it; an argument that is a struct or an array of numbers, bools and strings, opened cell by cell. No condition.
-/
namespace Go.Proofs.Ytoplekfnghkkdaa
open Go Go.RowKit Go.WideShapes Go.ChangeShapes
set_option linter.unusedVariables false
set_option linter.unusedSimpArgs false

section
variable {H : Type} {enc : TypeId × Value → H} {P : Program}

def readableAll (P : Program) (ts : List TypeId) : Bool := ts.all fun t => P.readableRec t && decide (t < P.types.size)

theorem args_stay (hl : laidOutB P = true) {W W' : World} (u : Upd [] W W') {sp' : Nat → Bool} :
    ∀ (ts : List TypeId) (vs : List Value) (ds : List (DataW H)) (pl : List MemPlace), readableAll P ts = true → (∀ p ∈ pl, p.block < W.heap.size) → (∀ p ∈ pl, sp' p.block = true) →
      DataW.TrodAll enc P W 0 (fun _ => true) true ts vs ds pl → DataW.TrodAll enc P W' 0 sp' true ts vs ds pl
  | [], [], [], _, _, _, _, h => h
  | t :: ts, v :: vs, d :: ds, pl, hr, hlt, hs, h => by
    obtain ⟨p, q, h1, h2, rfl⟩ := h
    simp only [readableAll, List.all_cons, Bool.and_eq_true, decide_eq_true_eq] at hr
    refine ⟨p, q, WideElems.Trod_stays hl hr.1.1 hr.1.2 h1 (fun x hx => u.below.same (hlt x (List.mem_append_left _ hx))) (fun x hx => hs x (List.mem_append_left _ hx)), ?_, rfl⟩
    exact args_stay hl u ts vs ds q (by rw [readableAll]; exact hr.2) (fun x hx => hlt x (List.mem_append_right _ hx)) (fun x hx => hs x (List.mem_append_right _ hx)) h2

theorem post_of_upd_args {f : Func} {s : ChangeSpec} {apart fresh handsOn again : Bool} {W W' : World} {args : Array Value} {v : Value} {ds : List (DataW H)} {pl : List MemPlace}
    (hl : laidOutB P = true) (hrd : readableAll P f.params.toList = true) (hvars : s.vars = [])
    (hW : DataW.Whole enc P f.params.toList s.vars apart W args.toList ds [] pl)
    (hA : DataW.TrodAll enc P W 0 (fun _ => true) true f.params.toList args.toList ds pl)
    (hr : ∀ (b : Nat) (sp : Nat → Bool) (hd : Bool), DataW.TrodAll enc P W' b sp hd f.resultTypes.toList (v.resultList f.resultTypes.size) (s.fn H (ds ++ [])).results [])
    (hargs : (s.fn H (ds ++ [])).args = ds) (hgs : (s.fn H (ds ++ [])).vars = [])
    (u : Upd [] W W')
    (hok : ∀ (j : Nat) (t : TypeId) (r : Value), f.resultTypes[j]? = some t → (v.resultList f.resultTypes.size)[j]? = some r → Value.okWide P W' .any 0 t r) :
    s.post enc P f apart fresh handsOn again W args v W' := by
  refine post_of_upd (pa := pl) (pv := []) hW hr (fun sp hsp => ?_) (fun sp _ => ?_) (by simp) u hok
  · rw [hargs]
    exact args_stay hl u _ _ _ _ hrd (fun p h => hW.lt p h) hsp hA
  · rw [hgs, hvars]
    exact rfl

end

end Go.Proofs.Ytoplekfnghkkdaa

/-
  Operands and instructions as plain data. No condition.
-/
namespace Go.Proofs.Ytoplekfnghkkdaa
open Go Go.RowKit
set_option linter.unusedVariables false

structure Opd where
  k : Int
  r : Int
  imm : Int
  b : Int
  x : Int
  sc : Int

structure Opd.Ok (o : Opd) : Prop where
  imm : 0 ≤ o.imm ∧ o.imm < 4294967296
  sc : 0 ≤ o.sc ∧ o.sc < 4294967296

def Opd.val (o : Opd) : Value := .agg #[.int .i64 o.k, .int .i64 o.r, .int .u32 o.imm, .int .i64 o.b, .int .i64 o.x, .int .u32 o.sc]

theorem Opd.ext' {a b : Opd} (h1 : a.k = b.k) (h2 : a.r = b.r) (h3 : a.imm = b.imm) (h4 : a.b = b.b) (h5 : a.x = b.x) (h6 : a.sc = b.sc) : a = b := by
  cases a; cases b; simp_all

def Opd.none : Opd := ⟨0, 0, 0, 0, 0, 0⟩
def regO (r : Int) : Opd := ⟨1, r, 0, 0, 0, 0⟩
def immO (v : Int) : Opd := ⟨2, 0, v, 0, 0, 0⟩

/-- An instruction: its operation, its condition, both operands, whether it is repeated, its bytes. -/
structure Ins where
  op : Int
  cond : Int
  a : Opd
  b : Opd
  rep : Bool
  len : Int

def Ins.zero : Ins := ⟨0, 0, Opd.none, Opd.none, false, 0⟩

def Ins.cells (i : Ins) : Array Value := #[.int .i64 i.op, .int .i64 i.cond,
  .int .i64 i.a.k, .int .i64 i.a.r, .int .u32 i.a.imm, .int .i64 i.a.b, .int .i64 i.a.x, .int .u32 i.a.sc,
  .int .i64 i.b.k, .int .i64 i.b.r, .int .u32 i.b.imm, .int .i64 i.b.b, .int .i64 i.b.x, .int .u32 i.b.sc,
  .bool i.rep, .int .i64 i.len]

theorem Ins.size (i : Ins) : i.cells.size = 16 := rfl
theorem Ins.one (i : Ins) : i.cells.all (·.oneCell') = true := by simp [Ins.cells, Value.oneCell']

end Go.Proofs.Ytoplekfnghkkdaa

/-
  Bytes as instructions, as plain data: what each function of the decoder makes of a list of bytes from a place on. No condition; no program in sight.
-/
namespace Go.Proofs.Ytoplekfnghkkdaa
open Go Go.RowKit
set_option linter.unusedVariables false

/-- What a reading makes: a value and the place behind it, or an error's number. -/
inductive DR (α : Type) where
  | ok (v : α) (k : Nat)
  | err (c : Int)

def DR.bind {α β : Type} (r : DR α) (f : α → Nat → DR β) : DR β :=
  match r with
  | .ok v k => f v k
  | .err c => .err c

theorem DR.bind_ok {α β : Type} (v : α) (k : Nat) (f : α → Nat → DR β) : (DR.ok v k).bind f = f v k := rfl
theorem DR.bind_err {α β : Type} (c : Int) (f : α → Nat → DR β) : (DR.err c : DR α).bind f = .err c := rfl

def dcByte (L : List Int) (k : Nat) : DR Int := if k < L.length then .ok (L.getD k 0) (k + 1) else .err 10

def wordAt (L : List Int) (k : Nat) : Int := L.getD k 0 + L.getD (k + 1) 0 * 256 + L.getD (k + 2) 0 * 65536 + L.getD (k + 3) 0 * 16777216

def dcWord (L : List Int) (k : Nat) : DR Int := if k + 4 ≤ L.length then .ok (wordAt L k) (k + 4) else .err 10

/-- A byte with its sign, as a word. -/
def sx8 (b : Int) : Int := if b < 128 then b else b + 4294967040

def dcImm8 (L : List Int) (k : Nat) : DR Opd := (dcByte L k).bind fun b k => .ok (immO (sx8 b)) k
def dcSmall (L : List Int) (k : Nat) : DR Opd := (dcByte L k).bind fun b k => .ok (immO b) k
def dcImm32 (L : List Int) (k : Nat) : DR Opd := (dcWord L k).bind fun v k => .ok (immO v) k

structure Mrm where
  mod : Int
  reg : Int
  rm : Int

def Mrm.cells (m : Mrm) : Array Value := #[.int .i64 m.mod, .int .i64 m.reg, .int .i64 m.rm]
def mrmOf (b : Int) : Mrm := ⟨b / 64, b / 8 % 8, b % 8⟩

def dcMrm (L : List Int) (k : Nat) : DR Mrm := (dcByte L k).bind fun b k => .ok (mrmOf b) k

def dcTail (L : List Int) (mod base x sc : Int) (k : Nat) : DR Opd :=
  if mod = 1 then (dcByte L k).bind fun b k => .ok ⟨3, 0, sx8 b, base, x, sc⟩ k
  else if mod = 2 then (dcWord L k).bind fun v k => .ok ⟨3, 0, v, base, x, sc⟩ k
  else if base = 5 then (dcWord L k).bind fun v k => .ok ⟨3, 0, v, -1, x, sc⟩ k
  else .ok ⟨3, 0, 0, base, x, sc⟩ k

def dcPlace (L : List Int) (m : Mrm) (k : Nat) : DR Opd :=
  if m.mod = 3 then .ok (regO m.rm) k
  else if m.rm = 4 then (dcByte L k).bind fun s k => dcTail L m.mod (s % 8) (if s / 8 % 8 = 4 then -1 else s / 8 % 8) (if s / 8 % 8 = 4 then 1 else 2 ^ (s / 64).toNat) k
  else dcTail L m.mod m.rm (-1) 1 k

def eightI (n : Int) : Int := n + 3
def shiftsI (n : Int) : Int := if n = 0 then 21 else if n = 1 then 22 else if n = 4 then 23 else if n = 5 then 24 else if n = 7 then 25 else 0
def othersI (n : Int) : Int := if n = 2 then 14 else if n = 3 then 15 else if n = 4 then 16 else if n = 5 then 17 else if n = 6 then 19 else if n = 7 then 20 else 0
def numbersI (n : Int) : Int := if n = 0 then 47 else if n = 1 then 48 else if n = 2 then 53 else if n = 4 then 49 else if n = 6 then 50 else 0
def fldI (n : Int) : Int := if n = 0 then 45 else if n = 3 then 46 else 0
def lastI (n : Int) : Int := if n = 0 then 12 else if n = 1 then 13 else if n = 2 then 30 else if n = 4 then 32 else if n = 6 then 28 else 0

def dcTwo (L : List Int) (op : Int) (toReg : Bool) (k : Nat) : DR Ins :=
  (dcMrm L k).bind fun m k => (dcPlace L m k).bind fun o k => .ok (if toReg = true then ⟨op, 0, regO m.reg, o, false, 0⟩ else ⟨op, 0, o, regO m.reg, false, 0⟩) k

def dcOne (L : List Int) (op : Int) (m : Mrm) (k : Nat) : DR Ins := (dcPlace L m k).bind fun o k => .ok ⟨op, 0, o, Opd.none, false, 0⟩ k

def dcRow (L : List Int) (c : Int) (k : Nat) : DR Ins :=
  if c % 8 = 1 then dcTwo L (eightI (c / 8)) false k
  else if c % 8 = 3 then dcTwo L (eightI (c / 8)) true k
  else if c % 8 = 5 then (dcImm32 L k).bind fun o k => .ok ⟨eightI (c / 8), 0, regO 0, o, false, 0⟩ k
  else .err 12

def dcLea (L : List Int) (k : Nat) : DR Ins :=
  (dcMrm L k).bind fun m k => if m.mod = 3 then .err 90 else (dcPlace L m k).bind fun o k => .ok ⟨26, 0, regO m.reg, o, false, 0⟩ k

def dcLays (L : List Int) (c : Int) (k : Nat) : DR Ins :=
  (dcMrm L k).bind fun m k => if m.reg ≠ 0 then .err 90 else (dcPlace L m k).bind fun o k =>
    if c = 199 then (dcImm32 L k).bind fun i k => .ok ⟨1, 0, o, i, false, 0⟩ k
    else (dcSmall L k).bind fun i k => .ok ⟨2, 0, o, i, false, 0⟩ k

def dcShift (L : List Int) (c : Int) (k : Nat) : DR Ins :=
  (dcMrm L k).bind fun m k => if shiftsI m.reg = 0 then .err 12 else (dcPlace L m k).bind fun o k =>
    if c = 193 then (dcSmall L k).bind fun i k => .ok ⟨shiftsI m.reg, 0, o, i, false, 0⟩ k
    else if c = 209 then .ok ⟨shiftsI m.reg, 0, o, immO 1, false, 0⟩ k
    else .ok ⟨shiftsI m.reg, 0, o, regO 1, false, 0⟩ k

def numOp (c : Int) (m : Mrm) : Int := if c = 221 then fldI m.reg else numbersI m.reg

def dcNumber (L : List Int) (c : Int) (k : Nat) : DR Ins :=
  (dcMrm L k).bind fun m k => if numOp c m = 0 ∨ m.mod = 3 then .err 12 else dcOne L (numOp c m) m k

def dcUnary (L : List Int) (k : Nat) : DR Ins :=
  (dcMrm L k).bind fun m k =>
    if m.reg = 0 then (dcPlace L m k).bind fun o k => (dcImm32 L k).bind fun i k => .ok ⟨11, 0, o, i, false, 0⟩ k
    else if othersI m.reg ≠ 0 then dcOne L (othersI m.reg) m k
    else .err 12

def dcLast (L : List Int) (k : Nat) : DR Ins :=
  (dcMrm L k).bind fun m k => if lastI m.reg ≠ 0 then dcOne L (lastI m.reg) m k else if m.reg = 7 then .err 90 else .err 12

def bareI (op : Int) : Ins := ⟨op, 0, Opd.none, Opd.none, false, 0⟩

def dcGroups (L : List Int) (c : Int) (k : Nat) : DR Ins :=
  if c = 193 ∨ c = 209 ∨ c = 211 then dcShift L c k
  else if c = 205 then (dcSmall L k).bind fun o k => if o.imm = 128 then .ok ⟨43, 0, o, Opd.none, false, 0⟩ k else .err 12
  else if c = 217 then (dcByte L k).bind fun x k => if x = 224 then .ok (bareI 51) k else if x = 225 then .ok (bareI 52) k else .err 12
  else if c = 220 ∨ c = 221 then dcNumber L c k
  else if c = 243 then (dcByte L k).bind fun x k => if x = 165 then .ok ⟨41, 0, Opd.none, Opd.none, true, 0⟩ k else if x = 171 then .ok ⟨42, 0, Opd.none, Opd.none, true, 0⟩ k else .err 12
  else if c = 247 then dcUnary L k
  else if c = 255 then dcLast L k
  else .err 12

def dcPlain (L : List Int) (c : Int) (k : Nat) : DR Ins :=
  if c = 144 then .ok (bareI 44) k
  else if c = 153 then .ok (bareI 38) k
  else if c = 165 then .ok (bareI 41) k
  else if c = 171 then .ok (bareI 42) k
  else if c = 195 then .ok (bareI 31) k
  else if c = 252 then .ok (bareI 39) k
  else if c = 253 then .ok (bareI 40) k
  else if c = 232 then (dcImm32 L k).bind fun o k => .ok ⟨30, 0, o, Opd.none, false, 0⟩ k
  else if c = 233 then (dcImm32 L k).bind fun o k => .ok ⟨32, 0, o, Opd.none, false, 0⟩ k
  else if c = 235 then (dcImm8 L k).bind fun o k => .ok ⟨32, 0, o, Opd.none, false, 0⟩ k
  else dcGroups L c k

def dcMoves (L : List Int) (c : Int) (k : Nat) : DR Ins :=
  if c = 104 then (dcImm32 L k).bind fun o k => .ok ⟨28, 0, o, Opd.none, false, 0⟩ k
  else if c = 106 then (dcImm8 L k).bind fun o k => .ok ⟨28, 0, o, Opd.none, false, 0⟩ k
  else if c = 129 then (dcMrm L k).bind fun m k => (dcPlace L m k).bind fun o k => (dcImm32 L k).bind fun i k => .ok ⟨eightI m.reg, 0, o, i, false, 0⟩ k
  else if c = 131 then (dcMrm L k).bind fun m k => (dcPlace L m k).bind fun o k => (dcImm8 L k).bind fun i k => .ok ⟨eightI m.reg, 0, o, i, false, 0⟩ k
  else if c = 133 then dcTwo L 11 false k
  else if c = 135 then dcTwo L 27 false k
  else if c = 136 then dcTwo L 2 false k
  else if c = 138 then dcTwo L 2 true k
  else if c = 137 then dcTwo L 1 false k
  else if c = 139 then dcTwo L 1 true k
  else if c = 141 then dcLea L k
  else if c = 169 then (dcImm32 L k).bind fun o k => .ok ⟨11, 0, regO 0, o, false, 0⟩ k
  else if c = 198 ∨ c = 199 then dcLays L c k
  else dcPlain L c k

def dcSecond (L : List Int) (k : Nat) : DR Ins :=
  (dcByte L k).bind fun c k =>
    if c = 11 then .err 90
    else if 64 ≤ c ∧ c < 80 then (dcTwo L 35 true k).bind fun i k => .ok { i with cond := c % 16 } k
    else if 128 ≤ c ∧ c < 144 then (dcImm32 L k).bind fun o k => .ok ⟨33, c % 16, o, Opd.none, false, 0⟩ k
    else if 144 ≤ c ∧ c < 160 then (dcMrm L k).bind fun m k => if m.reg ≠ 0 then .err 12 else (dcPlace L m k).bind fun o k => .ok ⟨34, c % 16, o, Opd.none, false, 0⟩ k
    else if c = 175 then dcTwo L 18 true k
    else if c = 182 then dcTwo L 36 true k
    else if c = 190 then dcTwo L 37 true k
    else .err 12

def dcRest (L : List Int) (c : Int) (k : Nat) : DR Ins :=
  if c = 15 then dcSecond L k
  else if c < 64 then dcRow L c k
  else if c < 72 then .ok ⟨12, 0, regO (c % 8), Opd.none, false, 0⟩ k
  else if c < 80 then .ok ⟨13, 0, regO (c % 8), Opd.none, false, 0⟩ k
  else if c < 88 then .ok ⟨28, 0, regO (c % 8), Opd.none, false, 0⟩ k
  else if c < 96 then .ok ⟨29, 0, regO (c % 8), Opd.none, false, 0⟩ k
  else if 112 ≤ c ∧ c < 128 then (dcImm8 L k).bind fun o k => .ok ⟨33, c % 16, o, Opd.none, false, 0⟩ k
  else if 176 ≤ c ∧ c < 184 then (dcSmall L k).bind fun o k => .ok ⟨2, 0, regO (c % 8), o, false, 0⟩ k
  else if 184 ≤ c ∧ c < 192 then (dcImm32 L k).bind fun o k => .ok ⟨1, 0, regO (c % 8), o, false, 0⟩ k
  else dcMoves L c k

def dcInsn (L : List Int) (k : Nat) : DR Ins := (dcByte L k).bind fun c k => dcRest L c k

/-- The instruction, how many bytes, the error. -/
def decI (L : List Int) : Ins := match dcInsn L 0 with | .ok i k => { i with len := k } | .err _ => Ins.zero
def decN (L : List Int) : Int := match dcInsn L 0 with | .ok _ k => k | .err _ => 0
def decE (L : List Int) : Int := match dcInsn L 0 with | .ok _ _ => 0 | .err c => c
def kindM (L : List Int) : Int := if decE L = 90 then 3 else if decE L = 12 then 4 else 0

/-- Bytes. -/
def BOk (L : List Int) : Prop := ∀ i, 0 ≤ L.getD i 0 ∧ L.getD i 0 ≤ 255

end Go.Proofs.Ytoplekfnghkkdaa

/-
  Rows that grew, slices of bytes: small facts. No condition.
-/
namespace Go.Proofs.Ytoplekfnghkkdaa
open Go Go.RowKit
set_option linter.unusedVariables false
set_option linter.unusedSimpArgs false

theorem Upd.of_grown {w w' : World} {row : Option Nat} (h : w.grownBy w' row) : Upd row.toList w w' :=
  ⟨h.os, h.tape, h.output, h.size, fun k hk hn => h.block k hk (fun e => hn (by rw [← e]; simp))⟩

theorem ownsRow_form {w : World} {base e size : Nat} {v : Value} {n : Nat} {xs : List Value} (h : w.ownsRow base e size v n xs) : ∃ b c, v = .slice b n c := by
  obtain ⟨_, ⟨h1, h2⟩ | ⟨g, cap, cur, h1, _⟩⟩ := h
  · exact ⟨none, 0, by rw [h1, h2]⟩
  · exact ⟨_, _, h1⟩

/-- A slice of bytes that reads as l; its cells, if any, lie in block g. -/
def BySl (w : World) (v : Value) (l : List Int) (g : Nat) : Prop :=
  (v = .slice none 0 0 ∧ l = []) ∨ ∃ o c C T f, v = .slice (some ⟨g, o, none⟩) l.length c ∧ w.heap[g]? = some (.cells C T f) ∧ ∀ i, i < l.length → C[o + i]? = some (.int .u8 (l.getD i 0))

theorem BySl.form {w : World} {v : Value} {l : List Int} {g : Nat} (h : BySl w v l g) : ∃ b c, v = .slice b l.length c := by
  rcases h with ⟨h1, h2⟩ | ⟨o, c, _, _, _, h1, _⟩
  · exact ⟨none, 0, by rw [h1, h2]; rfl⟩
  · exact ⟨_, _, h1⟩

theorem BySl.keep {w w' : World} {v : Value} {l : List Int} {g : Nat} {S : List Nat} (h : BySl w v l g) (u : Upd S w w') (hg : g ∉ S) : BySl w' v l g := by
  rcases h with h | ⟨o, c, C, T, f, h1, h2, h3⟩
  · exact .inl h
  · exact .inr ⟨o, c, C, T, f, h1, u.get h2 hg, h3⟩

theorem ret_of {v : Value} {v' : Value} (h : v = v') : Ending.returned v = .returned v' := by rw [h]

end Go.Proofs.Ytoplekfnghkkdaa

/-
  Structs held against one another, field by field. No condition.
-/
namespace Go.Proofs.Ytoplekfnghkkdaa
open Go Go.RowKit
set_option linter.unusedVariables false
set_option linter.unusedSimpArgs false

theorem part_range {P : Program} {t : TypeId} {xs : Array Value} {off n : Nat} {i : TypeInfo} (w : World) (ht : (isAgg t).run P w = .ok true w) (hi : P.info? t = some i) (hn : i.size = n) : (part t xs off).run P w = .ok (.agg (xs.extract off (off + n))) w := by
  subst hn
  simp [part, ht, sizeOf, typeInfo, hi]

theorem eqFields_cons {P : Program} {w : World} {d : Nat} {xs ys : Array Value} {f : Field} {fs : List Field} {u v : Value} {b c : Bool} (hne : (f.name ≠ "_") = True)
    (hx : (part f.type xs f.offset).run P w = .ok u w) (hy : (part f.type ys f.offset).run P w = .ok v w) (he : (Op.equalIn d f.type u v).run P w = .ok b w) (hr : (Op.eqFields d xs ys fs).run P w = .ok c w) :
    (Op.eqFields d xs ys (f :: fs)).run P w = .ok (b && c) w := by
  simp only [Op.eqFields, hne, if_true]
  rw [Sem.run_bind, hx, Result.andThen_ok, Sem.run_bind, hy, Result.andThen_ok, Sem.run_bind, he, Result.andThen_ok]
  cases b
  · rfl
  · simp only [Bool.not_true, Bool.false_eq_true, if_false]
    rw [hr]; rfl

theorem eqFields_nil {P : Program} {w : World} {d : Nat} {xs ys : Array Value} : (Op.eqFields d xs ys []).run P w = .ok true w := rfl

end Go.Proofs.Ytoplekfnghkkdaa

/-
  Package bits: Field, by its contract.
-/
namespace Go.Proofs.Ytoplekfnghkkdaa
open Go Go.RowKit
set_option linter.unusedVariables false
set_option linter.unusedSimpArgs false

theorem and_mask (x n : Nat) (hx : x < 18446744073709551616) (hn : n ≤ 32) : bits .and .u64 (x : Int) (IntKind.u64.wrap (IntKind.u64.wrap (2 ^ n) - 1)) = ((x % 2 ^ n : Nat) : Int) := by
  have h1 : (2 : Nat) ^ n ≤ 2 ^ 32 := Nat.pow_le_pow_right (by decide) hn
  have h2 : 0 < (2 : Nat) ^ n := Nat.pow_pos (by decide)
  have e : IntKind.u64.wrap (IntKind.u64.wrap (2 ^ n) - 1) = ((2 ^ n - 1 : Nat) : Int) := by
    have : ((2 : Int) ^ n) = ((2 ^ n : Nat) : Int) := by push_cast; rfl
    rw [this]
    generalize (2 : Nat) ^ n = m at *
    simp [IntKind.wrap, IntKind.signed, IntKind.bits]
    omega
  rw [e, u64_and_nat _ _ hx (by omega), Nat.and_two_pow_sub_one_eq_mod]

set_option maxRecDepth 100000 in
set_option maxHeartbeats 400000 in
theorem Field_any (x : Int) (a n : Nat) (w : World) (h0 : 0 ≤ x) (h1 : x < 4294967296) (ha : a < 32) (hn : n ≤ 32) :
    Calls Try.prog 163 #[.int .u32 x, .int .i64 a, .int .i64 n] w fun e w' => e = .returned (.int .u32 (x / 2 ^ a % 2 ^ n)) ∧ w = w' := by
  go_enter Try.func163, Try.ntmps163
  go_wp2
  go_ret
  refine ⟨ret_of (congrArg (Value.int .u32) ?_), rfl⟩
  obtain ⟨x, rfl⟩ := Int.eq_ofNat_of_zero_le h0
  have e : (x : Int) / 2 ^ a = ((x / 2 ^ a : Nat) : Int) := by push_cast; rfl
  have h3 : x / 2 ^ a ≤ x := Nat.div_le_self _ _
  rw [e, and_mask _ _ (by omega) hn]
  have h4 : x / 2 ^ a % 2 ^ n ≤ x / 2 ^ a := Nat.mod_le _ _
  have h5 : (((x / 2 ^ a % 2 ^ n : Nat) : Int)) % 4294967296 = ((x / 2 ^ a % 2 ^ n : Nat) : Int) := by omega
  rw [h5]
  push_cast
  rfl

end Go.Proofs.Ytoplekfnghkkdaa

/-
  Package bits: Sign8, Word: each by its contract.
-/
namespace Go.Proofs.Ytoplekfnghkkdaa
open Go Go.RowKit
set_option linter.unusedVariables false
set_option linter.unusedSimpArgs false

set_option maxRecDepth 100000 in
set_option maxHeartbeats 400000 in
theorem signed8_any (x : Int) (w : World) (h0 : 0 ≤ x) (h1 : x < 4294967296) :
    Calls Try.prog 204 #[.int .u32 x, .int .i64 8] w fun e w' => e = .returned (.int .i32 (if x % 256 < 128 then x % 256 else x % 256 - 256)) ∧ w = w' := by
  obtain ⟨r, hr⟩ : ∃ r : Int, (if x % 256 < 128 then x % 256 else x % 256 - 256) = r := ⟨_, rfl⟩
  have e1 : wrap32 (x * 16777216 % 4294967296) / 16777216 = r := by
    rw [← hr]
    unfold wrap32
    split <;> omega
  rw [hr]
  clear hr h0 h1
  go_enter Try.func204, Try.ntmps204
  go_wp2
  go_ret
  exact ⟨rfl, rfl⟩

/-- The lowest byte of a word with its sign. -/
def sign8 (x : Int) : Int := if x % 256 < 128 then x % 256 else x % 256 + 4294967040

set_option maxRecDepth 100000 in
set_option maxHeartbeats 400000 in
theorem Sign8_any (x : Int) (w : World) (h0 : 0 ≤ x) (h1 : x < 4294967296) :
    Calls Try.prog 168 #[.int .u32 x] w fun e w' => e = .returned (.int .u32 (sign8 x)) ∧ w = w' := by
  obtain ⟨r, hr⟩ : ∃ r : Int, (if x % 256 < 128 then x % 256 else x % 256 - 256) = r := ⟨_, rfl⟩
  have e1 : r % 4294967296 = sign8 x := by
    rw [← hr]
    unfold sign8
    split <;> omega
  have HX := Lib.hid (And.intro h0 h1)
  have HR := Lib.hid hr
  clear h0 h1 hr
  go_enter Try.func168, Try.ntmps168
  go_wp2_with (go_at_call 204; refine (signed8_any x _ HX.out.1 HX.out.2).mono ?_; rintro e w' ⟨rfl, rfl⟩; rw [HR.out])
  go_ret
  exact ⟨ret_of (congrArg (Value.int .u32) (by first | rfl | exact e1)), rfl⟩

theorem cell_alloc_keep {w : World} {p : Addr} {v : Value} (o : Obj) (h : w.cell? p = some v) (hp : p.block < w.heap.size) : (w.alloc o).cell? p = some v := by
  rw [World.cell?, heap_alloc_old _ _ hp]
  exact h

theorem word_join (a b c d : Int) (ha : 0 ≤ a ∧ a ≤ 255) (hb : 0 ≤ b ∧ b ≤ 255) (hc : 0 ≤ c ∧ c ≤ 255) (hd : 0 ≤ d ∧ d ≤ 255) :
    bits .or .u32 (bits .or .u32 (bits .or .u32 a (b * 256)) (c * 65536)) (d * 16777216) = a + b * 256 + c * 65536 + d * 16777216 := by
  obtain ⟨a, rfl⟩ := Int.eq_ofNat_of_zero_le ha.1
  obtain ⟨b, rfl⟩ := Int.eq_ofNat_of_zero_le hb.1
  obtain ⟨c, rfl⟩ := Int.eq_ofNat_of_zero_le hc.1
  obtain ⟨d, rfl⟩ := Int.eq_ofNat_of_zero_le hd.1
  have q1 := u32_or_nat a (b * 256) (by omega) (by omega)
  have q2 := u32_or_nat (b * 256 + a) (c * 65536) (by omega) (by omega)
  have q3 := u32_or_nat (c * 65536 + (b * 256 + a)) (d * 16777216) (by omega) (by omega)
  rw [Nat.or_comm, nat_join 8 _ _ (by omega) (by omega)] at q1
  rw [Nat.or_comm, nat_join 16 _ _ (by omega) (by omega)] at q2
  rw [Nat.or_comm, nat_join 24 _ _ (by omega) (by omega)] at q3
  have e1 : (b : Int) * 256 = ((b * 256 : Nat) : Int) := by omega
  have e2 : (c : Int) * 65536 = ((c * 65536 : Nat) : Int) := by omega
  have e3 : (d : Int) * 16777216 = ((d * 16777216 : Nat) : Int) := by omega
  rw [e1, q1, e2, q2, e3, q3]
  omega

set_option maxRecDepth 100000 in
set_option maxHeartbeats 400000 in
theorem Word_any (g o c : Nat) (f : Nat → Int) (w : World) (hf : ∀ i, i < 4 → w.cell? ⟨g, o + i, none⟩ = some (.int .u8 (f i))) (hr : ∀ i, 0 ≤ f i ∧ f i ≤ 255) (hg : g < w.heap.size) :
    Calls Try.prog 169 #[.slice (some ⟨g, o, none⟩) 4 c] w fun e w' => e = .returned (.int .u32 (f 0 + f 1 * 256 + f 2 * 65536 + f 3 * 16777216)) ∧ Upd [] w w' := by
  have hn := heap_alloc_new w (.cells #[Value.int .u8 0, .int .u8 0, .int .u8 0, .int .u8 0] 255)
  have hcp := run_copy_cells (P := Try.prog) (w.alloc (.cells #[Value.int .u8 0, .int .u8 0, .int .u8 0, .int .u8 0] 255)) 22 22 3 5 w.heap.size 0 4 4 ⟨g, o, none⟩ 4 c [.int .u8 (f 0), .int .u8 (f 1), .int .u8 (f 2), .int .u8 (f 3)]
    Try.underlying22 (by kernel_rfl) (by rfl) (by
      intro j v hv
      rw [Addr.add_mid]
      refine cell_alloc_keep _ ?_ hg
      rcases j with _ | _ | _ | _ | j
      · rw [List.getElem?_cons_zero, Option.some.injEq] at hv; subst hv; exact hf 0 (by decide)
      · rw [List.getElem?_cons_succ, List.getElem?_cons_zero, Option.some.injEq] at hv; subst hv; exact hf 1 (by decide)
      · rw [List.getElem?_cons_succ, List.getElem?_cons_succ, List.getElem?_cons_zero, Option.some.injEq] at hv; subst hv; exact hf 2 (by decide)
      · rw [List.getElem?_cons_succ, List.getElem?_cons_succ, List.getElem?_cons_succ, List.getElem?_cons_zero, Option.some.injEq] at hv; subst hv; exact hf 3 (by decide)
      · simp at hv) (by intro j hj; rw [cells_of hn]; simp at hj ⊢; omega) (by intro j hj; rw [free_of hn]) (by simp [Value.oneCell'])
  obtain ⟨w2, hw2⟩ : ∃ w2, (w.alloc (.cells #[Value.int .u8 0, .int .u8 0, .int .u8 0, .int .u8 0] 255)).setCells w.heap.size 0 [.int .u8 (f 0), .int .u8 (f 1), .int .u8 (f 2), .int .u8 (f 3)] = w2 := ⟨_, rfl⟩
  rw [hw2] at hcp
  have h2 : w2.heap[w.heap.size]? = some (.cells #[.int .u8 (f 0), .int .u8 (f 1), .int .u8 (f 2), .int .u8 (f 3)] 255 (0, 0)) := by
    rw [← hw2, heap_setCells_same _ _ _ _ hn]
    rfl
  have HU := Lib.hid (show Upd [] w w2 by rw [← hw2]; exact ((Upd.refl [] w).alloc _).setCells (.inr (Nat.le_refl _)) _ _)
  have hc2 := cells_of h2
  have hj := word_join (f 0) (f 1) (f 2) (f 3) (hr 0) (hr 1) (hr 2) (hr 3)
  have r0 := hr 0
  have r1 := hr 1
  have r2 := hr 2
  have r3 := hr 3
  have s0 : f 0 % 4294967296 = f 0 := by omega
  have s1 : f 1 * 256 % 4294967296 = f 1 * 256 := by omega
  have s2 : f 2 * 65536 % 4294967296 = f 2 * 65536 := by omega
  have s3 : f 3 * 16777216 % 4294967296 = f 3 * 16777216 := by omega
  clear hf hr hn hg r0 r1 r2 r3 hw2 h2
  go_enter Try.func169, Try.ntmps169
  go_wp2_with fail
  go_ret
  exact ⟨ret_of (congrArg (Value.int .u32) (by first | rfl | exact hj)), HU.out⟩

end Go.Proofs.Ytoplekfnghkkdaa

/-
  What a function tells, where a result lies in memory: one, two, three results, each by its own reading. No condition.
-/
namespace Go.Proofs.Ytoplekfnghkkdaa
open Go Go.RowKit
set_option linter.unusedVariables false
set_option linter.unusedSimpArgs false

def resRun (tmps : Array Value) : ResultVar → Sem Value
  | .tmp t => pure (tmps.getD t undef)
  | .cell a t => do loadVar t (← asAddr (tmps.getD a undef))

theorem results_eq (fn : Func) (tmps : Array Value) : results fn tmps = (do
    let vs ← fn.results.mapM (resRun tmps)
    pure (if h : vs.size = 1 then vs[0] else .tuple vs)) := by
  unfold results
  congr 1

section
variable {P : Program} {fn : Func} {tmps : Array Value} {w : World} {r0 r1 r2 : ResultVar} {v0 v1 v2 : Value}

theorem results_one' (h : fn.results = #[r0]) (h0 : (resRun tmps r0).run P w = .ok v0 w) : (results fn tmps).run P w = .ok v0 w := by
  rw [results_eq, h]
  simp [Sem.run_bind, h0]

theorem results_two' (h : fn.results = #[r0, r1]) (h0 : (resRun tmps r0).run P w = .ok v0 w) (h1 : (resRun tmps r1).run P w = .ok v1 w) : (results fn tmps).run P w = .ok (.tuple #[v0, v1]) w := by
  rw [results_eq, h]
  simp [Sem.run_bind, h0, h1]

theorem results_three' (h : fn.results = #[r0, r1, r2]) (h0 : (resRun tmps r0).run P w = .ok v0 w) (h1 : (resRun tmps r1).run P w = .ok v1 w) (h2 : (resRun tmps r2).run P w = .ok v2 w) : (results fn tmps).run P w = .ok (.tuple #[v0, v1, v2]) w := by
  rw [results_eq, h]
  simp [Sem.run_bind, h0, h1, h2]

theorem res_tmp (t : Tmp) (h : tmps.getD t undef = v0) : (resRun tmps (.tmp t)).run P w = .ok v0 w := by
  simp only [resRun, Sem.run_pure, h]

theorem res_row (a : Tmp) (ty : TypeId) (b : Nat) (cs : Array Value) {t : TypeId} {f : Nat × Nat} (d : TypeDesc) (ha : tmps.getD a undef = .pointer (some ⟨b, 0, none⟩)) (hb : w.heap[b]? = some (.cells cs t f))
    (hu : P.underlying ty = some d) (hd : d.isRow = true) (hi : (P.info? ty).map (·.size) = some cs.size) : (resRun tmps (.cell a ty)).run P w = .ok (.agg cs) w := by
  have h := run_loadVar_mid (P := P) w b 0 ty cs.toList d (range_whole hb) hu hd (by rw [Array.length_toList]; exact hi)
  rw [Array.toArray_toList] at h
  simp only [resRun, Sem.run_bind, ha]
  simp [asAddr, h]

end

/-- Stands the walk at a store, at a load of this type? (A guard for an arm: it fails at once elsewhere.) -/
theorem at_store {P : Program} {ops : Array Oper} {rest : List Oper} {op : Oper} {a : Act} {w : World} {Q : Exit → Act → World → Prop} (ty : TypeId) {x y : Operand} (ho : op.op = .store ty x y) (h : wpList P ops Q (op :: rest) a w) : wpList P ops Q (op :: rest) a w := h
theorem at_load {P : Program} {ops : Array Oper} {rest : List Oper} {op : Oper} {a : Act} {w : World} {Q : Exit → Act → World → Prop} (ty : TypeId) {x : Operand} (ho : op.op = .load ty x) (h : wpList P ops Q (op :: rest) a w) : wpList P ops Q (op :: rest) a w := h

end Go.Proofs.Ytoplekfnghkkdaa
