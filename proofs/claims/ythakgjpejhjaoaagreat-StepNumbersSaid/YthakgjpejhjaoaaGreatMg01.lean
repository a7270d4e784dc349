/-
  Parts of the proof (their names shortened by a program). No condition.
-/
import Derived.Lib.Hide
import Derived.WalkKit
import Derived.Deep.MidRow
import Derived.ProofKit
import Derived.OpenShut
import Derived.Carry
import Derived.StillTailTactics
namespace Go.Proofs.YthakgjpejhjaoaaGreat
open Go Go.RowKit
set_option linter.unusedVariables false
set_option linter.unusedSimpArgs false
set_option maxRecDepth 100000
set_option maxHeartbeats 16000000
theorem Yh_ {p : Prop} (h : p) : Hid p := h
structure Upd (S : List Nat) (w w' : World) : Prop where
 os : w'.os = w.os
 tape : w'.tape = w.tape
 output : w'.output = w.output
 size : w.heap.size ≤ w'.heap.size
 block : ∀ k, k < w.heap.size → k ∉ S → w'.heap[k]? = w.heap[k]?
theorem Upd.refl (S : List Nat) (w : World) : Upd S w w := ⟨rfl, rfl, rfl, Nat.le_refl _, fun _ _ _ => rfl⟩
theorem Upd.trans {S S' T : List Nat} {a b c : World} (h : Upd S a b) (k : Upd S' b c) (hS : ∀ x, x ∈ S → x ∈ T) (hS' : ∀ x, x ∈ S' → x ∈ T ∨ a.heap.size ≤ x) : Upd T a c :=
 ⟨k.os.trans h.os, k.tape.trans h.tape, k.output.trans h.output, Nat.le_trans h.size k.size, fun i hi hn => by
  have h1 : i ∉ S := fun hh => hn (hS i hh)
  have h2 : i ∉ S' := fun hh => by
   rcases hS' i hh with h | h
   ·exact hn h
   ·omega
  rw [k.block i (Nat.lt_of_lt_of_le hi h.size) h2, h.block i hi h1]⟩
theorem Upd.mono {S T : List Nat} {a b : World} (h : Upd S a b) (hS : ∀ x, x ∈ S → x ∈ T) : Upd T a b :=
 h.trans (Upd.refl [] b) hS (by simp)
theorem Upd.new {S' : List Nat} {a b c : World} (h : Upd [] a b) (k : Upd S' b c) (hS' : ∀ x, x ∈ S' → a.heap.size ≤ x) : Upd [] a c :=
 h.trans k (by simp) (fun x hx => .inr (hS' x hx))
theorem Upd.also {S S' : List Nat} {a b c : World} (h : Upd S a b) (k : Upd S' b c) (hS' : ∀ x, x ∈ S' → x ∈ S ∨ a.heap.size ≤ x) : Upd S a c :=
 h.trans k (fun _ h => h) hS'
theorem Upd.drew {S : List Nat} {a b : World} (h : Upd S a b) : Upd S a b.drew := ⟨h.os, h.tape, h.output, h.size, h.block⟩
theorem Upd.alloc {S : List Nat} {a b : World} (h : Upd S a b) (o : Obj) : Upd S a (b.alloc o) :=
 h.trans (S' := []) ⟨rfl, rfl, rfl, by simp, fun k hk _ => Below.heap_alloc _ _ _ hk⟩ (fun _ h => h) (by simp)
theorem Upd.setCell {S : List Nat} {a b : World} (h : Upd S a b) {p : Addr} (hp : p.block ∈ S ∨ a.heap.size ≤ p.block) (u : Value) : Upd S a (b.setCell p u) :=
 h.trans (S' := [p.block]) ⟨rfl, rfl, rfl, by simp [World.setCell], fun k _ hn => Below.heap_setCell _ _ _ _ (by simpa using hn)⟩ (fun _ h => h) (by simpa using hp)
theorem Upd.below {a b : World} (h : Upd [] a b) : Below a.heap.size a b := ⟨h.os, h.tape, h.output, h.size, fun k hk => h.block k hk (by simp)⟩
theorem Upd.get {S : List Nat} {w w' : World} (h : Upd S w w') {k : Nat} {o : Obj} (hk : w.heap[k]? = some o) (hn : k ∉ S) : w'.heap[k]? = some o := by
 have hlt : k < w.heap.size := by
  by_cases hl : k < w.heap.size
  ·exact hl
  ·rw [Array.getElem?_eq_none (by omega)] at hk; cases hk
 rw [h.block k hlt hn]; exact hk
theorem Yk {w : World} {k : Nat} {o : Obj} (hk : w.heap[k]? = some o) : k < w.heap.size := by
 by_cases hl : k < w.heap.size
 ·exact hl
 ·rw [Array.getElem?_eq_none (by omega)] at hk; cases hk
theorem Ya {w : World} {b : Nat} {c : Array Value} {t : TypeId} {f : Nat × Nat} (h : w.heap[b]? = some (.cells c t f)) (o : Nat) : w.cell? ⟨b, o, none⟩ = c[o]? := by
 simp [World.cell?, h]
theorem Yg {w : World} {b : Nat} {c : Array Value} {t : TypeId} (h : w.heap[b]? = some (.cells c t (0, 0))) (o : Nat) : w.frozen? ⟨b, o, none⟩ = false := by
 simp [World.frozen?, h]
theorem Yi {w : World} {b : Nat} {c : Array Value} {t : TypeId} {f : Nat × Nat} (h : w.heap[b]? = some (.cells c t f)) (o : Nat) (v : Value) :
  (w.setCell ⟨b, o, none⟩ v).heap[b]? = some (.cells (c.setIfInBounds o v) t f) := by
 simp [World.setCell, Array.getElem?_modify, h]
theorem Yf5 {w : World} {a : Addr} {b : Nat} (v : Value) (hne : b ≠ a.block) : (w.setCell a v).heap[b]? = w.heap[b]? :=
 Below.heap_setCell _ _ _ _ hne
theorem Yj {w : World} {b : Nat} {x : Obj} (o : Obj) (h : w.heap[b]? = some x) : (w.alloc o).heap[b]? = some x := by
 rw [heap_alloc_old _ _ (Yk h)]; exact h
theorem Yh {w : World} {a : Addr} {b : Nat} {x : Obj} (v : Value) (hne : b ≠ a.block) (h : w.heap[b]? = some x) : (w.setCell a v).heap[b]? = some x := by
 rw [Yf5 v hne]; exact h
theorem Yfq {P : Program} {ops : Array Oper} {rest : List Oper} {op : Oper} {a : Act} {w : World} {Q : Exit → Act → World → Prop} (hgd : op.guard = none) (ty : TypeId) (x : Operand) (ho : op.op = .load ty x)
  (b o : Nat) (hx : a.eval x = .pointer (some ⟨b, o, none⟩)) (cs : Array Value) (d : TypeDesc) (hc : w.rangeAt b o cs.toList)
  (hu : P.underlying ty = some d) (hd : d.isRow = true) (hi : (P.info? ty).map (·.size) = some cs.size)
  (h : wpList P ops Q rest (a.put op.dst (.agg cs)) w) : wpList P ops Q (op :: rest) a w :=
 wpList_load_mid hgd ty x ho b o hx cs.toList d hc hu hd (by rw [hi, Array.length_toList]) (by rw [Array.toArray_toList]; exact h)
theorem Yel {w : World} {b : Nat} {c : Array Value} {t : TypeId} {f : Nat × Nat} (h : w.heap[b]? = some (.cells c t f)) : w.rangeAt b 0 c.toList := by
 intro j v hv
 rw [Ya h, Nat.zero_add, ← hv, Array.getElem?_toList]
def wr (c : Array Value) (o : Nat) : List Value → Array Value
 |[] => c
 |v :: r => wr (c.setIfInBounds o v) (o + 1) r
theorem wr_size (vs : List Value) : ∀ (c : Array Value) (o : Nat), (wr c o vs).size = c.size := by
 induction vs with
 |nil => intro c o; rfl
 |cons v r ih => intro c o; rw [wr, ih, Array.size_setIfInBounds]
theorem Yfe (vs : List Value) : ∀ (c : Array Value) (o k : Nat), o + vs.length ≤ c.size → (wr c o vs)[k]? = if o ≤ k ∧ k < o + vs.length then vs[k - o]? else c[k]? := by
 induction vs with
 |nil => intro c o k _; rw [wr, if_neg (by simp)]
 |cons v r ih =>
  intro c o k h
  simp only [List.length_cons] at h ⊢
  rw [wr, ih _ _ _ (by rw [Array.size_setIfInBounds]; omega)]
  by_cases e : o = k
  ·subst e
   rw [if_neg (by omega), if_pos (by omega), Nat.sub_self, Array.getElem?_setIfInBounds, if_pos rfl, if_pos (by omega)]
   rfl
  ·by_cases h1 : o + 1 ≤ k ∧ k < o + 1 + r.length
   ·rw [if_pos h1, if_pos (by omega), show k - o = (k - (o + 1)) + 1 from by omega, List.getElem?_cons_succ]
   ·rw [if_neg h1, if_neg (by omega), Array.getElem?_setIfInBounds, if_neg e]
theorem Yai {b : Nat} {t : TypeId} {f : Nat × Nat} (vs : List Value) : ∀ (w : World) (c : Array Value) (o : Nat), w.heap[b]? = some (.cells c t f) →
  (w.setCells b o vs).heap[b]? = some (.cells (wr c o vs) t f) := by
 induction vs with
 |nil => intro w c o h; exact h
 |cons v r ih => intro w c o h; exact ih _ _ _ (Yi h o v)
theorem Ygo {b b' : Nat} (hne : b' ≠ b) (vs : List Value) : ∀ (w : World) (o : Nat), (w.setCells b o vs).heap[b']? = w.heap[b']? := by
 induction vs with
 |nil => intro w o; rfl
 |cons v r ih => intro w o; rw [World.setCells, ih]; exact Yf5 v hne
theorem Upd.setCells {S : List Nat} {a : World} {q : Nat} (hp : q ∈ S ∨ a.heap.size ≤ q) (vs : List Value) : ∀ {b : World} (o : Nat), Upd S a b → Upd S a (b.setCells q o vs) := by
 induction vs with
 |nil => intro b o h; exact h
 |cons v r ih => intro b o h; exact ih _ (h.setCell (p := ⟨q, o, none⟩) hp v)
theorem Yd0 {w : World} {b : Nat} {c : Array Value} {t : TypeId} (h : w.heap[b]? = some (.cells c t (0, 0))) (o n : Nat) (hn : o + n ≤ c.size) : w.there b o n := by
 intro j hj
 rw [Ya h, Yg h]
 exact ⟨by rw [Array.getElem?_eq_getElem (by omega)]; rfl, rfl⟩
theorem Ycl {P : Program} {ops : Array Oper} {rest : List Oper} {op : Oper} {a : Act} {w : World} {Q : Exit → Act → World → Prop} (hgd : op.guard = none) (ty : TypeId) (x y : Operand) (ho : op.op = .store ty x y)
  (b o : Nat) (cs : Array Value) (hx : a.eval x = .pointer (some ⟨b, o, none⟩)) (hy : a.eval y = .agg cs)
  {c : Array Value} {t : TypeId} (hb : w.heap[b]? = some (.cells c t (0, 0))) (hn : o + cs.size ≤ c.size) (hi : (P.info? ty).map (·.size) = some cs.size) (h1 : cs.all (·.oneCell') = true)
  (h : wpList P ops Q rest (a.put op.dst undef) (w.setCells b o cs.toList)) : wpList P ops Q (op :: rest) a w :=
 wpList_store_mid hgd ty x y ho b o cs hx hy (Yd0 hb o cs.size hn) hi h1 h
theorem Yjx {P : Program} {ops : Array Oper} {rest : List Oper} {op : Oper} {a : Act} {w : World} {Q : Exit → Act → World → Prop} (hgd : op.guard = none) (ty : TypeId) (ps : List (Nat × Operand)) (ho : op.op = .build ty ps.toArray)
  (vs : List (Nat × Value)) (hx : ps.map (fun x => (x.1, a.eval x.2)) = vs) (v : Value) (hr : (Instr.build ty vs.toArray).run P w = .ok v w)
  (h : wpList P ops Q rest (a.put op.dst v) w) : wpList P ops Q (op :: rest) a w :=
 wpList_plain hgd fun _ hK => by
  unfold Oper.wp execOp
  simp only [ho]
  have : (fun (x : Nat × Operand) => match x with | (i, x) => (i, a.eval x)) = (fun x : Nat × Operand => (x.1, a.eval x.2)) := by funext x; rfl
  rw [this, List.map_toArray, hx]
  simp only [Sem.run_bind, hr, Result.andThen_ok, Sem.run_pure]
  exact hK _ _ h
structure Mem where
 R : Nat → Int
 B : Nat → Int
@[ext] theorem Mem.ext' {a b : Mem} (h : a.R = b.R) (k : a.B = b.B) : a = b := by
 cases a; cases b; simp_all

structure Mem.Ok (M : Mem) : Prop where
 R : ∀ p, 0 ≤ M.R p ∧ M.R p ≤ 7
 B : ∀ a, 0 ≤ M.B a ∧ M.B a ≤ 255
def Mem.zero : Mem := ⟨fun _ => 0, fun _ => 0⟩
theorem Mem.zero_ok : Mem.zero.Ok := ⟨fun _ => by simp [Mem.zero], fun _ => by simp [Mem.zero]⟩
def Mem.at_ (M : Mem) (k : Nat) : Value :=
 if k % 257 = 0 then .int .i64 (M.R (k / 257)) else .int .u8 (M.B (k / 257 * 256 + (k % 257 - 1)))
def Mem.cells (M : Mem) : Array Value := (Array.range 16448).map M.at_
def Mem.page (M : Mem) (p : Nat) : Array Value := (Array.range 257).map fun j => M.at_ (p * 257 + j)
theorem Mem.size_cells (M : Mem) : M.cells.size = 16448 := by simp [Mem.cells]
theorem Mem.size_page (M : Mem) (p : Nat) : (M.page p).size = 257 := by simp [Mem.page]
theorem Mem.getElem?_cells (M : Mem) (k : Nat) (h : k < 16448) : M.cells[k]? = some (M.at_ k) := by
 simp [Mem.cells, Array.getElem?_map, Array.getElem?_range, h]
theorem Mem.cells_R (M : Mem) (p : Nat) (h : p < 64) : M.cells[p * 257]? = some (.int .i64 (M.R p)) := by
 rw [M.getElem?_cells _ (by omega)]
 simp [Mem.at_]
theorem Mem.cells_B (M : Mem) (p o : Nat) (h : p < 64) (ho : o < 256) : M.cells[p * 257 + 1 + o]? = some (.int .u8 (M.B (p * 256 + o))) := by
 rw [M.getElem?_cells _ (by omega)]
 have h1 : (p * 257 + 1 + o) % 257 = o + 1 := by omega
 have h2 : (p * 257 + 1 + o) / 257 = p := by omega
 simp [Mem.at_, h1, h2]
def Mem.setR (M : Mem) (p : Nat) (r : Int) : Mem := { M with R := fun q => if q = p then r else M.R q }
def Mem.setB (M : Mem) (a : Nat) (v : Int) : Mem := { M with B := fun q => if q = a then v else M.B q }
theorem Mem.setR_ok {M : Mem} (h : M.Ok) (p : Nat) {r : Int} (h0 : 0 ≤ r) (h7 : r ≤ 7) : (M.setR p r).Ok :=
 ⟨fun q => by simp only [Mem.setR]; split; exact ⟨h0, h7⟩; exact h.R q, h.B⟩
theorem Mem.setB_ok {M : Mem} (h : M.Ok) (a : Nat) {v : Int} (h0 : 0 ≤ v) (h7 : v ≤ 255) : (M.setB a v).Ok :=
 ⟨h.R, fun q => by simp only [Mem.setB]; split; exact ⟨h0, h7⟩; exact h.B q⟩
theorem Mem.cells_setR (M : Mem) (p : Nat) (r : Int) (h : p < 64) : M.cells.setIfInBounds (p * 257) (.int .i64 r) = (M.setR p r).cells := by
 apply Array.ext_getElem?
 intro k
 by_cases hk : k < 16448
 ·rw [Array.getElem?_setIfInBounds, Mem.getElem?_cells _ _ hk, Mem.getElem?_cells _ _ hk]
  by_cases e : p * 257 = k
  ·subst e; simp [Mem.size_cells, Mem.at_, Mem.setR]; omega
  ·rw [if_neg e]
   simp only [Mem.at_, Mem.setR]
   by_cases e2 : k % 257 = 0
   ·have : ¬ k / 257 = p := by omega
    simp [e2, this]
   ·simp [e2]
 ·rw [Array.getElem?_eq_none (by rw [Array.size_setIfInBounds, Mem.size_cells]; omega), Array.getElem?_eq_none (by rw [Mem.size_cells]; omega)]
theorem Mem.cells_setB (M : Mem) (p o : Nat) (v : Int) (h : p < 64) (ho : o < 256) :
  M.cells.setIfInBounds (p * 257 + 1 + o) (.int .u8 v) = (M.setB (p * 256 + o) v).cells := by
 apply Array.ext_getElem?
 intro k
 by_cases hk : k < 16448
 ·rw [Array.getElem?_setIfInBounds, Mem.getElem?_cells _ _ hk, Mem.getElem?_cells _ _ hk]
  by_cases e : p * 257 + 1 + o = k
  ·subst e
   have h1 : (p * 257 + 1 + o) % 257 = o + 1 := by omega
   have h2 : (p * 257 + 1 + o) / 257 = p := by omega
   simp [Mem.size_cells, Mem.at_, Mem.setB, h1, h2]; omega
  ·rw [if_neg e]
   simp only [Mem.at_, Mem.setB]
   by_cases e2 : k % 257 = 0
   ·simp [e2]
   ·have hd := Nat.div_add_mod k 257
    have hm := Nat.mod_lt k (show 257 > 0 by decide)
    have : ¬ k / 257 * 256 + (k % 257 - 1) = p * 256 + o := by
     generalize k / 257 = q at *
     generalize k % 257 = r at *
     intro hh
     have h1 : q = p := by omega
     subst h1
     omega
    simp [e2, this]
 ·rw [Array.getElem?_eq_none (by rw [Array.size_setIfInBounds, Mem.size_cells]; omega), Array.getElem?_eq_none (by rw [Mem.size_cells]; omega)]
def Mem.setPage (M : Mem) (p : Nat) (N : Mem) : Mem := ⟨fun q => if q = p then N.R p else M.R q, fun x => if x / 256 = p then N.B x else M.B x⟩
theorem Mem.wr_page (M N : Mem) (p : Nat) (h : p < 64) : wr M.cells (p * 257) (N.page p).toList = (M.setPage p N).cells := by
 have hl : (N.page p).toList.length = 257 := by simp [Mem.size_page]
 apply Array.ext_getElem?
 intro k
 rw [Yfe _ _ _ _ (by rw [hl, M.size_cells]; omega), hl]
 by_cases hk : k < 16448
 ·rw [Mem.getElem?_cells _ _ hk, Mem.getElem?_cells _ _ hk]
  by_cases e : p * 257 ≤ k ∧ k < p * 257 + 257
  ·rw [if_pos e]
   have h1 : k - p * 257 < 257 := by omega
   have hd : k / 257 = p := by omega
   rw [Array.getElem?_toList, Mem.page, Array.getElem?_map, Array.getElem?_range, if_pos h1]
   simp only [Option.map_some, Option.some.injEq]
   rw [show p * 257 + (k - p * 257) = k from by omega]
   simp only [Mem.at_, Mem.setPage, hd]
   by_cases e2 : k % 257 = 0
   ·simp [e2]
   ·have hm := Nat.mod_lt k (show 257 > 0 by decide)
    have : (p * 256 + (k % 257 - 1)) / 256 = p := by omega
    simp [e2, this]
  ·rw [if_neg e]
   have hd : ¬ k / 257 = p := by omega
   simp only [Mem.at_, Mem.setPage, hd, if_false]
   by_cases e2 : k % 257 = 0
   ·simp [e2]
   ·have hm := Nat.mod_lt k (show 257 > 0 by decide)
    have : ¬ (k / 257 * 256 + (k % 257 - 1)) / 256 = p := by omega
    simp [e2, this]
 ·rw [if_neg (by omega), Array.getElem?_eq_none (by rw [Mem.size_cells]; omega), Array.getElem?_eq_none (by rw [Mem.size_cells]; omega)]
theorem Mem.at_one (M : Mem) (k : Nat) : (M.at_ k).oneCell' = true := by
 unfold Mem.at_; split <;> rfl
theorem Mem.page_one (M : Mem) (p : Nat) : (M.page p).all (·.oneCell') = true := by
 rw [Array.all_eq_true_iff_forall_mem]
 intro v hv
 simp only [Mem.page, Array.mem_map] at hv
 obtain ⟨j, _, rfl⟩ := hv
 exact M.at_one _
structure Ydf (C : Array Value) (M : Mem) : Prop where
 size : 16448 ≤ C.size
 get : ∀ k, k < 16448 → C[k]? = some (M.at_ k)
theorem Ydf.cells (M : Mem) : Ydf M.cells M := ⟨by rw [Mem.size_cells]; exact Nat.le_refl _, fun k h => M.getElem?_cells k h⟩
theorem Ydf.R {C : Array Value} {M : Mem} (h : Ydf C M) (p : Nat) (hp : p < 64) : C[p * 257]? = some (.int .i64 (M.R p)) := by
 rw [h.get _ (by omega), ← M.getElem?_cells _ (by omega), M.cells_R p hp]
theorem Ydf.B {C : Array Value} {M : Mem} (h : Ydf C M) (p o : Nat) (hp : p < 64) (ho : o < 256) : C[p * 257 + 1 + o]? = some (.int .u8 (M.B (p * 256 + o))) := by
 rw [h.get _ (by omega), ← M.getElem?_cells _ (by omega), M.cells_B p o hp ho]
theorem Ydf.set {C : Array Value} {M M' : Mem} (h : Ydf C M) (i : Nat) (v : Value) (hi : i < 16448) (e : M.cells.setIfInBounds i v = M'.cells) : Ydf (C.setIfInBounds i v) M' := by
 refine ⟨by rw [Array.size_setIfInBounds]; exact h.size, fun k hk => ?_⟩
 have hs := h.size
 rw [← M'.getElem?_cells k hk, ← e, Array.getElem?_setIfInBounds, Array.getElem?_setIfInBounds, h.get k hk, M.getElem?_cells k hk, M.size_cells]
 by_cases e2 : i = k
 ·rw [if_pos e2, if_pos e2, if_pos (by omega), if_pos (by omega)]
 ·rw [if_neg e2, if_neg e2]
theorem Ydf.wr {C : Array Value} {M M' : Mem} (h : Ydf C M) (o : Nat) (vs : List Value) (ho : o + vs.length ≤ 16448) (e : Go.Proofs.YthakgjpejhjaoaaGreat.wr M.cells o vs = M'.cells) : Ydf (Go.Proofs.YthakgjpejhjaoaaGreat.wr C o vs) M' := by
 refine ⟨by rw [wr_size]; exact h.size, fun k hk => ?_⟩
 have hs := h.size
 rw [← M'.getElem?_cells k hk, ← e, Yfe _ _ _ _ (by omega), Yfe _ _ _ _ (by rw [M.size_cells]; omega), h.get k hk, M.getElem?_cells k hk]
section
open Go.WideShapes Go.ChangeShapes
theorem Ymc {H : Type} {enc : TypeId × Value → H} {P : Program} {f : Func} {s : ChangeSpec} {apart fresh handsOn again : Bool} {W W' : World} {args : Array Value} {v : Value} {ds gs : List (DataW H)} {pl pa pv : List MemPlace}
  (hW : DataW.Whole enc P f.params.toList s.vars apart W args.toList ds gs pl)
  (hr : ∀ (b : Nat) (sp : Nat → Bool) (hd : Bool), DataW.TrodAll enc P W' b sp hd f.resultTypes.toList (v.resultList f.resultTypes.size) (s.fn H (ds ++ gs)).results [])
  (ha : ∀ sp : Nat → Bool, (∀ p ∈ pl, sp p.block = true) → DataW.TrodAll enc P W' 0 sp true f.params.toList args.toList (s.fn H (ds ++ gs)).args pa)
  (hv : ∀ sp : Nat → Bool, (∀ p ∈ pl, sp p.block = true) → DataW.TrodVars enc P W' sp s.vars (s.fn H (ds ++ gs)).vars pv)
  (hp : pl = pa ++ pv) (u : Upd [] W W')
  (hok : ∀ (j : Nat) (t : TypeId) (r : Value), f.resultTypes[j]? = some t → (v.resultList f.resultTypes.size)[j]? = some r → Value.okWide P W' .any 0 t r) :
  s.post enc P f apart fresh handsOn again W args v W' := by
 have hb := u.below
 have hin : ∀ p ∈ pl, p.block < W.heap.size := fun p h => hW.lt p h
 have hsp : ∀ p ∈ pl, (fun b => decide (b < W.heap.size)) p.block = true := fun p h => by simpa using hin p h
 refine ⟨ds, gs, pl, [], pa, pv, hW, hr _ _ _, ha _ hsp, hv _ hsp, World.keptBut_mono (fun p h => ⟨h, .inr ?_⟩) (hb.frame (· ∈ pl)), fun _ => ?_⟩
 ·rw [hp, List.mem_append] at h
  exact h
 ·obtain ⟨_, _, _, _, _, hz, hn⟩ := hW
  refine ⟨hok, _, _, ([] ++ pa) ++ pv, ⟨[] ++ pa, pv, trodAll_append (ha _ (fun _ _ => rfl)) (hr _ _ _), hv _ (fun _ _ => rfl), rfl, fun b o h => ?_, fun h => ?_⟩, ?_⟩
  ·have hm : MemPlace.cell b o ∈ pl := by rw [hp]; simpa using h
   rw [hb.frozen (hin _ hm)]
   exact hz b o hm
  ·have := hn h
   rw [hp] at this
   simpa using this
  ·intro p h _
   rw [hp]
   simpa using h
end
section
open Go.WideShapes Go.ChangeShapes
section
variable {H : Type} {enc : TypeId × Value → H} {P : Program}
def Yeq (P : Program) (ts : List TypeId) : Bool := ts.all fun t => P.readableRec t && decide (t < P.types.size)
theorem Yjc (hl : laidOutB P = true) {W W' : World} (u : Upd [] W W') {sp' : Nat → Bool} :
  ∀ (ts : List TypeId) (vs : List Value) (ds : List (DataW H)) (pl : List MemPlace), Yeq P ts = true → (∀ p ∈ pl, p.block < W.heap.size) → (∀ p ∈ pl, sp' p.block = true) →
   DataW.TrodAll enc P W 0 (fun _ => true) true ts vs ds pl → DataW.TrodAll enc P W' 0 sp' true ts vs ds pl
 |[], [], [], _, _, _, _, h => h
 |t :: ts, v :: vs, d :: ds, pl, hr, hlt, hs, h => by
  obtain ⟨p, q, h1, h2, rfl⟩ := h
  simp only [Yeq, List.all_cons, Bool.and_eq_true, decide_eq_true_eq] at hr
  refine ⟨p, q, WideElems.Trod_stays hl hr.1.1 hr.1.2 h1 (fun x hx => u.below.same (hlt x (List.mem_append_left _ hx))) (fun x hx => hs x (List.mem_append_left _ hx)), ?_, rfl⟩
  exact Yjc hl u ts vs ds q (by rw [Yeq]; exact hr.2) (fun x hx => hlt x (List.mem_append_right _ hx)) (fun x hx => hs x (List.mem_append_right _ hx)) h2
theorem Yhw {f : Func} {s : ChangeSpec} {apart fresh handsOn again : Bool} {W W' : World} {args : Array Value} {v : Value} {ds : List (DataW H)} {pl : List MemPlace}
  (hl : laidOutB P = true) (hrd : Yeq P f.params.toList = true) (hvars : s.vars = [])
  (hW : DataW.Whole enc P f.params.toList s.vars apart W args.toList ds [] pl)
  (hA : DataW.TrodAll enc P W 0 (fun _ => true) true f.params.toList args.toList ds pl)
  (hr : ∀ (b : Nat) (sp : Nat → Bool) (hd : Bool), DataW.TrodAll enc P W' b sp hd f.resultTypes.toList (v.resultList f.resultTypes.size) (s.fn H (ds ++ [])).results [])
  (hargs : (s.fn H (ds ++ [])).args = ds) (hgs : (s.fn H (ds ++ [])).vars = [])
  (u : Upd [] W W')
  (hok : ∀ (j : Nat) (t : TypeId) (r : Value), f.resultTypes[j]? = some t → (v.resultList f.resultTypes.size)[j]? = some r → Value.okWide P W' .any 0 t r) :
  s.post enc P f apart fresh handsOn again W args v W' := by
 refine Ymc (pa := pl) (pv := []) hW hr (fun sp hsp => ?_) (fun sp _ => ?_) (by simp) u hok
 ·rw [hargs]
  exact Yjc hl u _ _ _ _ hrd (fun p h => hW.lt p h) hsp hA
 ·rw [hgs, hvars]
  exact rfl
inductive Leaf where
 |int (k : IntKind)
 |bool
 |string
def LeafOk : Leaf → Value → Prop
 |.int k, v => ∃ n, v = .int k n ∧ (Lit.int k n).wf = true
 |.bool, v => ∃ b, v = .bool b
 |.string, v => ∃ s : ByteArray, v = .string s ∧ s.size ≤ maxLen
def Ygp (P : Program) : Nat → TypeId → Nat → Option Leaf
 |0, _, _ => none
 |n + 1, t, j =>
  match P.underlying t with
  |some (.int k) => if j = 0 then some (.int k) else none
  |some .bool => if j = 0 then some .bool else none
  |some .string => if j = 0 then some .string else none
  |some (.array m e) => if 0 < P.cellsOf e ∧ j / P.cellsOf e < m then Ygp P n e (j % P.cellsOf e) else none
  |some (.struct fs) => fs.toList.findSome? fun f => if f.offset ≤ j ∧ j < f.offset + P.cellsOf f.type then Ygp P n f.type (j - f.offset) else none
  |_ => none
theorem Ygq {w : World} {base : Nat} {spare : Nat → Bool} {held : Bool} : ∀ (n : Nat) (t : TypeId) (fuel : Nat) (cs : List Value) (x : DataW H × List MemPlace) (j : Nat) (lf : Leaf), DataW.trod enc P w base spare held fuel t cs = some x → Ygp P n t j = some lf → ∃ v, cs[j]? = some v ∧ LeafOk lf v
 |0, _, _, _, _, _, _, _, h => by cases h
 |n + 1, t, fuel, cs, x, j, lf, hx, h => by
  unfold Ygp at h
  split at h
  ·rename_i k hu
   obtain ⟨z, rfl, _, hw⟩ := DataW.trod_int hu hx
   split at h
   ·rename_i hj; subst hj
    injection h with h; subst h
    exact ⟨_, rfl, z, rfl, hw⟩
   ·cases h
  ·rename_i hu
   obtain ⟨b, rfl, _⟩ := DataW.trod_bool hu hx
   split at h
   ·rename_i hj; subst hj
    injection h with h; subst h
    exact ⟨_, rfl, b, rfl⟩
   ·cases h
  ·rename_i hu
   obtain ⟨s, rfl, _, hs⟩ := DataW.trod_string hu hx
   split at h
   ·rename_i hj; subst hj
    injection h with h; subst h
    exact ⟨_, rfl, s, rfl, hs⟩
   ·cases h
  ·rename_i m e hu
   split at h
   ·rename_i hj
    obtain ⟨xs, f, _, _, _, hl, hi⟩ := DataW.trod_array hu hx
    have h1 := hi _ hj.2
    obtain ⟨y, hy⟩ : ∃ y, xs[j / P.cellsOf e]? = some y := ⟨_, List.getElem?_eq_getElem (by omega)⟩
    rw [hy] at h1
    obtain ⟨v, hv, hlv⟩ := Ygq n e f _ y _ lf h1 h
    refine ⟨v, ?_, hlv⟩
    have hm := Nat.mod_lt j hj.1
    have hd := Nat.div_add_mod j (P.cellsOf e)
    rw [List.getElem?_take, if_pos hm, List.getElem?_drop, Nat.mul_comm, hd] at hv
    exact hv
   ·cases h
  ·rename_i fs hu
   obtain ⟨f, hf, hc⟩ := List.exists_of_findSome?_eq_some h
   split at hc
   ·rename_i hj
    obtain ⟨xs, k, _, _, _, hl, hi⟩ := DataW.trod_struct hu hx
    obtain ⟨i, hfi⟩ := List.getElem?_of_mem hf
    have hfi' : fs[i]? = some f := by rw [← hfi, Array.getElem?_toList]
    have hlt : i < fs.size := (Array.getElem?_eq_some_iff.1 hfi').1
    have h1 := hi i f hfi'
    obtain ⟨y, hy⟩ : ∃ y, xs[i]? = some y := ⟨_, List.getElem?_eq_getElem (by omega)⟩
    rw [hy] at h1
    obtain ⟨v, hv, hlv⟩ := Ygq n f.type k _ y _ lf h1 hc
    refine ⟨v, ?_, hlv⟩
    rw [List.getElem?_take, if_pos (by omega), List.getElem?_drop, show f.offset + (j - f.offset) = j from by omega] at hv
    exact hv
   ·cases hc
  ·cases h
def isAggB (P : Program) (t : TypeId) : Bool :=
 match P.underlying t with
 |some (.struct _) => true
 |some (.array _ _) => true
 |_ => false
theorem Ylr {w : World} {base : Nat} {spare : Nat → Bool} {held : Bool} {r : Reach} {b0 : Nat} {t : TypeId} {v : Value} {d : DataW H} {p : List MemPlace} (ha : isAggB P t = true)
  (hv : Value.okWide P w r b0 t v) (h : DataW.Trod enc P w base spare held t v d p) :
  ∃ cs : Array Value, v = .agg cs ∧ cs.size = P.cellsOf t ∧ ∀ n j lf, Ygp P n t j = some lf → ∃ x, cs[j]? = some x ∧ LeafOk lf x := by
 have : ∃ cs : Array Value, v = .agg cs ∧ cs.size = P.cellsOf t := by
  unfold isAggB at ha
  unfold Value.okWide at hv
  split at ha
  ·rename_i hu; rw [hu] at hv; obtain ⟨cs, h1, h2, _⟩ := hv; exact ⟨cs, h1, h2⟩
  ·rename_i hu; rw [hu] at hv; obtain ⟨cs, h1, h2, _⟩ := hv; exact ⟨cs, h1, h2⟩
  ·cases ha
 obtain ⟨cs, rfl, hs⟩ := this
 refine ⟨cs, rfl, hs, fun n j lf hl => ?_⟩
 obtain ⟨fuel, hf⟩ := h
 obtain ⟨x, hx, hxl⟩ := Ygq n t fuel _ _ j lf hf hl
 have e : (Value.agg cs).cells = cs := rfl
 exact ⟨x, by rw [e, Array.getElem?_toList] at hx; exact hx, hxl⟩
end
end
section
def Yc3 (P : Program) (o : Oper) (a : Act) (w : World) (K : Value → World → Prop) (X : List PanicEntry → World → Prop) : Prop :=
 match (execOp a.eval o).run P w with
 |.ok (.value v) w' => K v w'
 |.ok .skip w' => K undef w'
 |.ok (.enter f args) w' => Calls P f args w' fun
   |.returned v, w'' => K v w''
   |.panicked c, w'' => X c w''
   |.outgrown, _ => False
 |.ok (.row row args) w' => Rows P row args w' K
 |.halt (.panic v) w' => X [{ v, recovered := false }] w'
 |_ => False
theorem Ydi {P : Program} {o : Oper} {a : Act} {w : World} {K K' : Value → World → Prop} {X X' : List PanicEntry → World → Prop} (h : Yc3 P o a w K X)
  (hk : ∀ v w', K v w' → K' v w') (hx : ∀ c w', X c w' → X' c w') : Yc3 P o a w K' X' := by
 unfold Yc3 at *
 generalize (execOp a.eval o).run P w = r at *
 cases r with
 |ok n w' =>
  cases n
  case value v => exact hk _ _ h
  case skip => exact hk _ _ h
  case enter f args => exact Calls.mono h (fun e w'' he => by cases e <;> first | exact hk _ _ he | exact hx _ _ he | exact he)
  case row row args => exact Rows.mono h (fun _ _ he => hk _ _ he)
  all_goals exact h
 |halt x w' =>
  cases x
  case panic v => exact hx _ _ h
  all_goals exact h
theorem Yc7 {P : Program} {o : Oper} {a : Act} {w : World} {K : Act → World → Prop} {Q : Exit → Act → World → Prop}
  (h : Yc3 P o a w (fun v w' => K (a.put o.dst v) w') (fun c w' => Q (.panic c) a w')) : o.wp P a w K Q := by
 unfold Yc3 at h
 unfold Oper.wp
 generalize (execOp a.eval o).run P w = r at *
 cases r with
 |ok n w' =>
  cases n
  case value v => exact h
  case skip => exact h
  case enter f args => exact Calls.mono h (fun e w'' he => by cases e <;> first | exact he | exact he.elim)
  case row row args => exact h
  all_goals exact h.elim
 |halt x w' =>
  cases x
  case panic v => exact h
  all_goals exact h.elim
def PX (X : List PanicEntry → World → Prop) : Exit → Act → World → Prop
 |.panic c, _, w => X c w
 |_, _, _ => False
def same (dst : Option Tmp) (n : Nat) (v u : Value) : Prop := ∀ t, dst = some t → t < n → v = u
theorem Ydu {a : Act} {dst : Option Tmp} {v u : Value} (h : a.put dst v = a.put dst u) : same dst a.tmps.size v u := by
 intro t ht hlt
 subst ht
 have := congrArg (fun b : Act => b.tmps[t]?) h
 simpa [Act.put, hlt] using this
theorem Yfv (a : Act) (dst : Option Tmp) (v u : Value) (d : Deferred) : ({ a with defers := d :: a.defers } : Act).put dst v ≠ a.put dst u := by
 intro h
 have := congrArg (fun b : Act => b.defers.length) h
 cases dst <;> simp [Act.put] at this
theorem Ygj {P : Program} {o : Oper} {a : Act} {w : World} {v : Value} {B : World → Prop} {X : List PanicEntry → World → Prop}
  (h : o.wp P a w (fun a' w' => a' = a.put o.dst v ∧ B w') (PX X)) : Yc3 P o a w (fun v' w' => same o.dst a.tmps.size v' v ∧ B w') X := by
 unfold Oper.wp at h
 unfold Yc3
 generalize (execOp a.eval o).run P w = r at *
 cases r with
 |ok n w' =>
  cases n
  case value u => exact ⟨Ydu h.1, h.2⟩
  case skip => exact ⟨Ydu h.1, h.2⟩
  case defer d => exact absurd h.1 (Yfv a o.dst undef v d)
  case enter f args =>
   refine Calls.mono h (fun e w'' he => ?_)
   cases e with
   |returned u => exact ⟨Ydu he.1, he.2⟩
   |panicked c => exact he
   |outgrown => obtain ⟨_, _, hf⟩ := he; exact hf
  case row row args => exact Rows.mono h (fun u w'' he => ⟨Ydu he.1, he.2⟩)
  all_goals exact h
 |halt x w' =>
  cases x
  case panic v => exact h
  all_goals exact h
theorem Yfh {P : Program} {o : Oper} {a : Act} {w : World} {X : List PanicEntry → World → Prop}
  (h : o.wp P a w (fun _ _ => False) (PX X)) : Yc3 P o a w (fun _ _ => False) X := by
 unfold Oper.wp at h
 unfold Yc3
 generalize (execOp a.eval o).run P w = r at *
 cases r with
 |ok n w' =>
  cases n
  case enter f args =>
   refine Calls.mono h (fun e w'' he => ?_)
   cases e with
   |returned u => exact he
   |panicked c => exact he
   |outgrown => obtain ⟨_, _, hf⟩ := he; exact hf
  case row row args => exact Rows.mono h (fun u w'' he => he)
  all_goals exact h
 |halt x w' =>
  cases x
  case panic v => exact h
  all_goals exact h
def Yaq (dead : List Nat) (o : Oper) : Bool := o.after.toList.any fun e => Region.binds .any e && dead.contains e.on
def Ydo (P : Program) (ops : Array Oper) (B : World → Prop) (X : List PanicEntry → World → Prop) (fin : List Nat → Act → Prop) : List Nat → Nat → List Oper → Act → Prop
 |dead, _, [], a => fin dead a
 |dead, i, o :: rest, a =>
  (Yaq dead o = true ∧ Ydo P ops B X fin (i :: dead) (i + 1) rest a) ∨
  (Yaq dead o = false ∧ Region.wanted o (yielded ops a.tmps) = true ∧ ∃ v, (∀ w, B w → o.wp P a w (fun a' w' => a' = a.put o.dst v ∧ B w') (PX X)) ∧ Ydo P ops B X fin dead (i + 1) rest (a.put o.dst v)) ∨
  (Yaq dead o = false ∧ Region.wanted o (yielded ops a.tmps) = true ∧ (∀ w, B w → o.wp P a w (fun _ _ => False) (PX X)) ∧ Ydo P ops B X fin (i :: dead) (i + 1) rest a) ∨
  (Yaq dead o = false ∧ Region.wanted o (yielded ops a.tmps) = false ∧ Ydo P ops B X fin dead (i + 1) rest (a.put o.dst undef))
section
variable {P : Program} {ops : Array Oper} {B : World → Prop} {X : List PanicEntry → World → Prop} {fin : List Nat → Act → Prop} {dead : List Nat} {i : Nat} {o : Oper} {rest : List Oper} {a : Act}
theorem Yal (h : fin dead a) : Ydo P ops B X fin dead i [] a := h
theorem Yab {a2 : Act} (hd : Yaq dead o = false) (hw : Region.wanted o (yielded ops a.tmps) = true)
  (h : ∀ K : Act → World → Prop, (∀ w', B w' → K a2 w') → ∀ w, B w → o.wp P a w K (PX X))
  (hv : ∃ v, a2 = a.put o.dst v) (k : Ydo P ops B X fin dead (i + 1) rest a2) : Ydo P ops B X fin dead i (o :: rest) a := by
 obtain ⟨v, rfl⟩ := hv
 exact .inr (.inl ⟨hd, hw, v, h _ fun w' hB => ⟨rfl, hB⟩, k⟩)
theorem Ye4 (hd : Yaq dead o = false) (hw : Region.wanted o (yielded ops a.tmps) = true) (h : ∀ w, B w → o.wp P a w (fun _ _ => False) (PX X))
  (k : Ydo P ops B X fin (i :: dead) (i + 1) rest a) : Ydo P ops B X fin dead i (o :: rest) a := .inr (.inr (.inl ⟨hd, hw, h, k⟩))
theorem Ydt (hd : Yaq dead o = true) (k : Ydo P ops B X fin (i :: dead) (i + 1) rest a) : Ydo P ops B X fin dead i (o :: rest) a := .inl ⟨hd, k⟩
end
def Ykn (ops : Array Oper) (n : Nat) : Bool :=
 Region.noSelect ops && decide (n ≤ ops.size) &&
 (List.range n).all fun i =>
  match ops[i]? with
  |none => false
  |some o =>
   (o.after.all fun e => !Region.binds .any e || decide (e.on < i)) &&
   (List.range n).all fun j =>
    match (ops[j]?).bind (·.dst) with
    |none => true
    |some t => (!(o.looksAt ops).contains t || (decide (j < i) && o.after.any fun e => Region.binds .any e && e.on == j)) && (decide (i = j) || o.dst != some t)
structure Yev (ops : Array Oper) (n : Nat) : Prop where
 sel : ∀ (i : Nat) (o : Oper), ops[i]? = some o → ∀ cs b, o.op ≠ Op.select cs b
 le : n ≤ ops.size
 after : ∀ (i : Nat) (o : Oper), i < n → ops[i]? = some o → ∀ e ∈ o.after, Region.binds .any e = true → e.on < i
 looks : ∀ (i : Nat) (o : Oper) (j : Nat) (oj : Oper) (t : Tmp), i < n → ops[i]? = some o → j < n → ops[j]? = some oj → oj.dst = some t → t ∈ o.looksAt ops → j < i ∧ ∃ e ∈ o.after, Region.binds .any e = true ∧ e.on = j
 dst : ∀ (i : Nat) (o : Oper) (j : Nat) (oj : Oper) (t : Tmp), i < n → ops[i]? = some o → j < n → ops[j]? = some oj → oj.dst = some t → o.dst = some t → i = j
theorem Yfy {ops : Array Oper} {n : Nat} (h : Ykn ops n = true) : Yev ops n := by
 simp only [Ykn, Bool.and_eq_true, decide_eq_true_eq, List.all_eq_true, List.mem_range] at h
 obtain ⟨⟨h1, h2⟩, h3⟩ := h
 refine ⟨fun i o hi cs b => Region.noSelect_spec h1 i o cs b hi, h2, ?_, ?_, ?_⟩
 ·intro i o hi ho e he hb
  have := h3 i hi
  rw [ho] at this
  simp only [Bool.and_eq_true, Array.all_eq_true'] at this
  have := this.1 e he
  simpa [hb] using this
 ·intro i o j oj t hi ho hj hoj hd ht
  have := h3 i hi
  rw [ho] at this
  simp only [Bool.and_eq_true, List.all_eq_true, List.mem_range] at this
  have := this.2 j hj
  simp only [hoj, Option.bind_some, hd, Bool.and_eq_true, Bool.or_eq_true] at this
  rcases this.1 with hc | hc
  ·simp [ht] at hc
  ·simp only [decide_eq_true_eq, Array.any_eq_true', Bool.and_eq_true, beq_iff_eq] at hc
   exact ⟨hc.1, hc.2⟩
 ·intro i o j oj t hi ho hj hoj hd hd2
  have := h3 i hi
  rw [ho] at this
  simp only [Bool.and_eq_true, List.all_eq_true, List.mem_range] at this
  have := this.2 j hj
  simp only [hoj, Option.bind_some, hd, Bool.and_eq_true, Bool.or_eq_true] at this
  rcases this.2 with hc | hc
  ·exact of_decide_eq_true hc
  ·simp [hd2] at hc
theorem Yb3 {ops : Array Oper} {o : Oper} {a b : Act} (hs : ∀ cs c, o.op ≠ Op.select cs c) (h : ∀ t, t ∈ o.looksAt ops → a.tmps[t]? = b.tmps[t]?) :
  execOp a.eval o = execOp b.eval o ∧ Region.wanted o (yielded ops a.tmps) = Region.wanted o (yielded ops b.tmps) := by
 refine ⟨execOp_congr o hs fun x hx => ?_, ?_⟩
 ·cases x with
  |tmp t =>
   have := h t (List.mem_append_left _ (List.mem_filterMap.2 ⟨.tmp t, by simpa using hx, rfl⟩))
   show a.tmps.getD t undef = b.tmps.getD t undef
   rw [Array.getD_eq_getD_getElem?, Array.getD_eq_getD_getElem?, this]
  |_ => rfl
 ·unfold Region.wanted
  cases hg : o.guard with
  |none => rfl
  |some gw =>
   obtain ⟨g, want⟩ := gw
   have hy : yielded ops a.tmps g = yielded ops b.tmps g := by
    unfold yielded
    cases ht : (ops[g]?).bind (·.dst) with
    |none => rfl
    |some t =>
     have := h t (by simp [Oper.looksAt, hg, ht])
     simp only [Option.bind_some, this]
   simp only [hy]
theorem Ybx {P : Program} {o : Oper} {a b : Act} (h : execOp a.eval o = execOp b.eval o) (w : World) (K : Value → World → Prop) (X : List PanicEntry → World → Prop) : Yc3 P o a w K X = Yc3 P o b w K X := by
 unfold Yc3; rw [h]
structure Yi2 (P : Program) (ops : Array Oper) (B : World → Prop) (X : List PanicEntry → World → Prop) (i n : Nat) (dead : List Nat) (a F : Act) (vs : Nat → Value) : Prop where
 live : ∀ (j : Nat) (o : Oper), i ≤ j → j < n → ops[j]? = some o → j ∉ dead →
  Yaq dead o = false ∧ ((Region.wanted o (yielded ops F.tmps) = true ∧ ∀ w, B w → Yc3 P o F w (fun v w' => same o.dst a.tmps.size v (vs j) ∧ B w') X) ∨ (Region.wanted o (yielded ops F.tmps) = false ∧ vs j = undef))
 died : ∀ (j : Nat) (o : Oper), i ≤ j → j < n → ops[j]? = some o → j ∈ dead →
  Yaq dead o = true ∨ (Region.wanted o (yielded ops F.tmps) = true ∧ ∀ w, B w → Yc3 P o F w (fun _ _ => False) X)
 defers : F.defers = a.defers
 size : F.tmps.size = a.tmps.size
 old : ∀ t, (∀ (j : Nat) (oj : Oper), i ≤ j → j < n → ops[j]? = some oj → oj.dst = some t → j ∈ dead) → F.tmps[t]? = a.tmps[t]?
 new : ∀ (j : Nat) (oj : Oper) t, i ≤ j → j < n → ops[j]? = some oj → j ∉ dead → oj.dst = some t → t < a.tmps.size → F.tmps[t]? = some (vs j)
theorem Ybk (a : Act) (d : Option Tmp) (v : Value) (t : Tmp) (h : d ≠ some t) : (a.put d v).tmps[t]? = a.tmps[t]? := by
 cases d with
 |none => rfl
 |some e =>
  have : e ≠ t := fun he => h (by rw [he])
  simp [Act.put, Array.getElem?_setIfInBounds_ne this]
theorem Yc6 (a : Act) (t : Tmp) (v : Value) (h : t < a.tmps.size) : (a.put (some t) v).tmps[t]? = some v := by
 simp [Act.put, h]
theorem Yat (a : Act) (d : Option Tmp) (v : Value) : (a.put d v).tmps.size = a.tmps.size := by
 cases d <;> simp [Act.put]
theorem Yb0 (a : Act) (d : Option Tmp) (v : Value) : (a.put d v).defers = a.defers := by
 cases d <;> rfl
theorem Ycb {dead dead' : List Nat} {o : Oper} {i : Nat} (ha : ∀ e ∈ o.after, Region.binds .any e = true → e.on < i) (h : ∀ d, d < i → (d ∈ dead' ↔ d ∈ dead)) : Yaq dead' o = Yaq dead o := by
 unfold Yaq
 rw [Bool.eq_iff_iff]
 simp only [List.any_eq_true, Bool.and_eq_true, List.contains_iff_mem, Array.mem_toList_iff]
 constructor
 ·rintro ⟨e, he, hb, hd⟩; exact ⟨e, he, hb, (h _ (ha e he hb)).1 hd⟩
 ·rintro ⟨e, he, hb, hd⟩; exact ⟨e, he, hb, (h _ (ha e he hb)).2 hd⟩
theorem Yet {P : Program} {ops : Array Oper} {B : World → Prop} {X : List PanicEntry → World → Prop} {fin : List Nat → Act → Prop} {n : Nat} (hk : Yev ops n) :
  ∀ (l : List Oper) (i : Nat) (dead : List Nat) (a : Act), (∀ j, j < l.length → l[j]? = ops[i + j]?) → i + l.length = n → (∀ d, d ∈ dead → d < i) → Ydo P ops B X fin dead i l a →
  ∃ (vs : Nat → Value) (dead' : List Nat) (F : Act), fin dead' F ∧ Yi2 P ops B X i n dead' a F vs ∧ (∀ d, d < i → (d ∈ dead' ↔ d ∈ dead)) ∧ (∀ d, d ∈ dead' → d < n)
 |[], i, dead, a, _, hn, hd, h => by
  have hin : i = n := by simpa using hn
  refine ⟨fun _ => undef, dead, a, h, ⟨?_, ?_, rfl, rfl, fun _ _ => rfl, ?_⟩, fun _ _ => Iff.rfl, fun d hdd => by have := hd d hdd; omega⟩
  ·intro j o h1 h2; omega
  ·intro j o h1 h2; omega
  ·intro j oj t h1 h2; omega
 |o :: l, i, dead, a, hl, hn, hd, h => by
  simp only [List.length_cons] at hn
  have ho : ops[i]? = some o := by simpa using (hl 0 (by simp)).symm
  have hin : i < n := by omega
  have hl' : ∀ j, j < l.length → l[j]? = ops[i + 1 + j]? := fun j hj => by
   have := hl (j + 1) (by simpa using hj)
   simpa [Nat.add_assoc, Nat.add_comm 1 j] using this
  have haft := hk.after i o hin ho
  -- what the operation looks at stands to the end
  have hstay : ∀ (F b : Act) (dead' : List Nat) (vs : Nat → Value), Yi2 P ops B X (i + 1) n dead' b F vs → (∀ t, t ∈ o.looksAt ops → b.tmps[t]? = a.tmps[t]?) → ∀ t, t ∈ o.looksAt ops → a.tmps[t]? = F.tmps[t]? := by
   intro F b dead' vs hr hb t ht
   rw [hr.old t (fun j oj h1 h2 h3 h4 => absurd (hk.looks i o j oj t hin ho h2 h3 h4 ht).1 (by omega)), hb t ht]
  have hput : ∀ (v : Value) t, t ∈ o.looksAt ops → (a.put o.dst v).tmps[t]? = a.tmps[t]? := fun v t ht =>
   Ybk _ _ _ _ (fun he => absurd (hk.looks i o i o t hin ho hin ho he ht).1 (by omega))
  rcases h with ⟨hdd, h⟩ | ⟨hdd, hw, v, hv, h⟩ | ⟨hdd, hw, hv, h⟩ | ⟨hdd, hw, h⟩
  ·obtain ⟨vs, dead', F, hf, hr, hdi, hdn⟩ := Yet hk l (i + 1) (i :: dead) a hl' (by omega) (fun d hm => by
    rcases List.mem_cons.1 hm with rfl | hm
    ·omega
    ·have := hd d hm; omega) h
   have hmem : i ∈ dead' := (hdi i (by omega)).2 (by simp)
   have hdi' : ∀ d, d < i → (d ∈ dead' ↔ d ∈ dead) := fun d hlt => by
    rw [hdi d (by omega)]
    constructor
    ·intro hm; rcases List.mem_cons.1 hm with rfl | hm
     ·omega
     ·exact hm
    ·intro hm; exact List.mem_cons_of_mem _ hm
   refine ⟨vs, dead', F, hf, ⟨?_, ?_, hr.defers, hr.size, ?_, ?_⟩, hdi', hdn⟩
   ·intro j oj h1 h2 h3 h4
    by_cases e : j = i
    ·subst e; exact absurd hmem h4
    ·exact hr.live j oj (by omega) h2 h3 h4
   ·intro j oj h1 h2 h3 h4
    by_cases e : j = i
    ·subst e
     have : oj = o := Option.some.inj (h3.symm.trans ho)
     subst this
     left; rw [Ycb haft hdi']; exact hdd
    ·exact hr.died j oj (by omega) h2 h3 h4
   ·intro t ht; exact hr.old t (fun j oj h1 => ht j oj (by omega))
   ·intro j oj t h1 h2 h3 h4
    by_cases e : j = i
    ·subst e; exact absurd hmem h4
    ·exact hr.new j oj t (by omega) h2 h3 h4
  ·obtain ⟨vs, dead', F, hf, hr, hdi, hdn⟩ := Yet hk l (i + 1) dead _ hl' (by omega) (fun d hm => by have := hd d hm; omega) h
   have hmem : i ∉ dead' := fun hm => by have := hd i ((hdi i (by omega)).1 hm); omega
   have hs := Yb3 (hk.sel i o ho) (hstay F _ dead' vs hr (hput v))
   have hne : ∀ j, i + 1 ≤ j → (if j = i then v else vs j) = vs j := fun j hj => if_neg (by omega)
   refine ⟨fun j => if j = i then v else vs j, dead', F, hf, ⟨?_, ?_, by rw [hr.defers, Yb0], by rw [hr.size, Yat], ?_, ?_⟩, fun d hlt => hdi d (by omega), hdn⟩
   ·intro j oj h1 h2 h3 h4
    by_cases e : j = i
    ·subst e
     have : oj = o := Option.some.inj (h3.symm.trans ho)
     subst this
     refine ⟨by rw [Ycb haft (fun d hlt => hdi d (by omega))]; exact hdd, .inl ⟨by rw [← hs.2]; exact hw, fun w hB => ?_⟩⟩
     rw [← Ybx hs.1]
     simp only [if_true]
     exact Ygj (hv w hB)
    ·simp only [if_neg e]
     have := hr.live j oj (by omega) h2 h3 h4
     rwa [Yat] at this
   ·intro j oj h1 h2 h3 h4
    by_cases e : j = i
    ·subst e; exact absurd h4 hmem
    ·exact hr.died j oj (by omega) h2 h3 h4
   ·intro t ht
    rw [hr.old t (fun j oj h1 => ht j oj (by omega)), Ybk _ _ _ _ (fun he => hmem (ht i o (Nat.le_refl _) hin ho he))]
   ·intro j oj t h1 h2 h3 h4 h5 h6
    by_cases e : j = i
    ·subst e
     have : oj = o := Option.some.inj (h3.symm.trans ho)
     subst this
     simp only [if_true]
     rw [hr.old t (fun k ok g1 g2 g3 g4 => absurd (hk.dst j oj k ok t h2 h3 g2 g3 g4 h5) (by omega)), h5, Yc6 _ _ _ h6]
    ·simp only [if_neg e]; exact hr.new j oj t (by omega) h2 h3 h4 h5 (by rw [Yat]; exact h6)
  ·obtain ⟨vs, dead', F, hf, hr, hdi, hdn⟩ := Yet hk l (i + 1) (i :: dead) a hl' (by omega) (fun d hm => by
    rcases List.mem_cons.1 hm with rfl | hm
    ·omega
    ·have := hd d hm; omega) h
   have hmem : i ∈ dead' := (hdi i (by omega)).2 (by simp)
   have hdi' : ∀ d, d < i → (d ∈ dead' ↔ d ∈ dead) := fun d hlt => by
    rw [hdi d (by omega)]
    constructor
    ·intro hm; rcases List.mem_cons.1 hm with rfl | hm
     ·omega
     ·exact hm
    ·intro hm; exact List.mem_cons_of_mem _ hm
   have hs := Yb3 (hk.sel i o ho) (hstay F _ dead' vs hr (fun _ _ => rfl))
   refine ⟨vs, dead', F, hf, ⟨?_, ?_, hr.defers, hr.size, ?_, ?_⟩, hdi', hdn⟩
   ·intro j oj h1 h2 h3 h4
    by_cases e : j = i
    ·subst e; exact absurd hmem h4
    ·exact hr.live j oj (by omega) h2 h3 h4
   ·intro j oj h1 h2 h3 h4
    by_cases e : j = i
    ·subst e
     have : oj = o := Option.some.inj (h3.symm.trans ho)
     subst this
     right
     refine ⟨by rw [← hs.2]; exact hw, fun w hB => ?_⟩
     rw [← Ybx hs.1]
     exact Yfh (hv w hB)
    ·exact hr.died j oj (by omega) h2 h3 h4
   ·intro t ht; exact hr.old t (fun j oj h1 => ht j oj (by omega))
   ·intro j oj t h1 h2 h3 h4
    by_cases e : j = i
    ·subst e; exact absurd hmem h4
    ·exact hr.new j oj t (by omega) h2 h3 h4
  ·obtain ⟨vs, dead', F, hf, hr, hdi, hdn⟩ := Yet hk l (i + 1) dead _ hl' (by omega) (fun d hm => by have := hd d hm; omega) h
   have hmem : i ∉ dead' := fun hm => by have := hd i ((hdi i (by omega)).1 hm); omega
   have hs := Yb3 (hk.sel i o ho) (hstay F _ dead' vs hr (hput undef))
   refine ⟨fun j => if j = i then undef else vs j, dead', F, hf, ⟨?_, ?_, by rw [hr.defers, Yb0], by rw [hr.size, Yat], ?_, ?_⟩, fun d hlt => hdi d (by omega), hdn⟩
   ·intro j oj h1 h2 h3 h4
    by_cases e : j = i
    ·subst e
     have : oj = o := Option.some.inj (h3.symm.trans ho)
     subst this
     refine ⟨by rw [Ycb haft (fun d hlt => hdi d (by omega))]; exact hdd, .inr ⟨by rw [← hs.2]; exact hw, by simp⟩⟩
    ·simp only [if_neg e]
     have := hr.live j oj (by omega) h2 h3 h4
     rwa [Yat] at this
   ·intro j oj h1 h2 h3 h4
    by_cases e : j = i
    ·subst e; exact absurd h4 hmem
    ·exact hr.died j oj (by omega) h2 h3 h4
   ·intro t ht
    rw [hr.old t (fun j oj h1 => ht j oj (by omega)), Ybk _ _ _ _ (fun he => hmem (ht i o (Nat.le_refl _) hin ho he))]
   ·intro j oj t h1 h2 h3 h4 h5 h6
    by_cases e : j = i
    ·subst e
     have : oj = o := Option.some.inj (h3.symm.trans ho)
     subst this
     simp only [if_true]
     rw [hr.old t (fun k ok g1 g2 g3 g4 => absurd (hk.dst j oj k ok t h2 h3 g2 g3 g4 h5) (by omega)), h5, Yc6 _ _ _ h6]
    ·simp only [if_neg e]; exact hr.new j oj t (by omega) h2 h3 h4 h5 (by rw [Yat]; exact h6)
theorem Yjh {p q : Nat → Bool} {i : Nat} (hp : p i = true) (hq : q i = false) (h : ∀ j, j ≠ i → p j = q j) : ∀ n, i < n → (List.range n).countP p = (List.range n).countP q + 1
 |0, hn => by omega
 |n + 1, hn => by
  rw [List.range_succ, List.countP_append, List.countP_append]
  by_cases e : i = n
  ·subst e
   have : (List.range i).countP p = (List.range i).countP q := List.countP_congr fun j hj => by
    rw [h j (by have := List.mem_range.1 hj; omega)]
   simp [this, hp, hq]
  ·have := Yjh hp hq h n (by omega)
   have hn' : p n = q n := h n (fun e' => e e'.symm)
   simp only [List.countP_cons, List.countP_nil, hn'] at this ⊢
   omega
def Ycp (n : Nat) (listed : Array Bool) : Nat := (List.range n).countP fun i => !listed.getD i true
theorem Yf8 {n i : Nat} {listed : Array Bool} (hi : i < n) (h : listed.getD i true = false) : Ycp n listed = Ycp n (listed.setIfInBounds i true) + 1 := by
 refine Yjh (i := i) (by simp only [h]; rfl) ?_ ?_ n hi
 ·have hlt : i < listed.size := by
   rcases Nat.lt_or_ge i listed.size with h' | h'
   ·exact h'
   ·simp [Array.getElem?_eq_none h'] at h
  simp [hlt]
 ·intro j hj
  simp only [getD_set_ne true (Ne.symm hj)]
theorem Yf0 {n : Nat} {listed : Array Bool} (h : Ycp n listed = 0) (i : Nat) (hi : i < n) : listed.getD i true = true := by
 have := List.countP_eq_zero.1 h i (List.mem_range.2 hi)
 simpa using this
structure Ynq (ops : Array Oper) (B : World → Prop) (n : Nat) (dead : List Nat) (a0 F : Act) (listed : Array Bool) (a : Act) (w : World) : Prop where
 head : HeadInv .any ops n listed
 world : B w
 defers : a.defers = a0.defers
 size : a.tmps.size = a0.tmps.size
 live : ∀ (j : Nat), j < n → listed.getD j false = true → j ∉ dead
 old : ∀ t, (∀ (j : Nat) (oj : Oper), j < n → ops[j]? = some oj → oj.dst = some t → listed.getD j false = false) → a.tmps[t]? = a0.tmps[t]?
 new : ∀ (j : Nat) (oj : Oper) t, j < n → ops[j]? = some oj → listed.getD j false = true → oj.dst = some t → a.tmps[t]? = F.tmps[t]?
theorem Ygg {ops : Array Oper} {n : Nat} (hk : Yev ops n) {listed : Array Bool} (hs : listed.size = ops.size) : ∀ (i : Nat), i < n → listed.getD i true = false → ∃ j, j < n ∧ j ∈ Region.ready .any ops listed := by
 intro i
 induction i using Nat.strongRecOn with
 |_ i ih =>
  intro hi hun
  have hlt : i < ops.size := by have := hk.le; omega
  obtain ⟨o, ho⟩ : ∃ o, ops[i]? = some o := ⟨ops[i], Array.getElem?_eq_getElem hlt⟩
  by_cases h : ∀ e ∈ o.after, Region.binds .any e = true → listed.getD e.on false = true
  ·exact ⟨i, hi, mem_ready.2 ⟨hun, o, ho, h⟩⟩
  ·simp only [Classical.not_forall] at h
   obtain ⟨e, he, hb, hl⟩ := h
   have hon := hk.after i o hi ho e he hb
   exact ih e.on hon (by omega) (getD_in (by omega) (by simpa using hl))
theorem Yiv {P : Program} {ops : Array Oper} {B : World → Prop} {X : List PanicEntry → World → Prop} {Q : Exit → Act → World → Prop} {n : Nat} {dead : List Nat} {a0 F : Act} {vs : Nat → Value}
  (hk : Yev ops n) (hr : Yi2 P ops B X 0 n dead a0 F vs) (hdn : ∀ d, d ∈ dead → d < n)
  (hwait : ∀ listed, HeadInv .any ops n listed → ∀ i, i < n → listed.getD i true = false → ∀ t, n ≤ t → t ∉ Region.ready .any ops listed)
  (hX : ∀ c a' w', X c w' → a'.defers = a0.defers → a'.tmps.size = a0.tmps.size → (∀ t, (∀ (j : Nat) (oj : Oper), j < n → ops[j]? = some oj → oj.dst ≠ some t) → a'.tmps[t]? = a0.tmps[t]?) → Q (.panic c) a' w')
  (hfin : ∀ listed w, HeadInv .any ops n listed → (∀ i, i < n → listed.getD i true = true) → dead = [] → B w → wpAny P .any ops Q (ops.size - n) listed F w) :
  ∀ (m : Nat) (listed : Array Bool) (a : Act) (w : World), Ycp n listed = m → Ynq ops B n dead a0 F listed a w → wpAny P .any ops Q (m + (ops.size - n)) listed a w
 |0, listed, a, w, hm, inv => by
  have hall := Yf0 hm
  have hall' : ∀ i, i < n → listed.getD i false = true := fun i hi => by
   have h1 := hall i hi
   have h2 : i < listed.size := by rw [inv.head.size]; have := hk.le; omega
   simp [h2] at h1 ⊢; exact h1
  have hdead : dead = [] := by
   cases hde : dead with
   |nil => rfl
   |cons d r =>
    have hd : d ∈ dead := by rw [hde]; simp
    exact absurd hd (inv.live d (hdn d hd) (hall' d (hdn d hd)))
  have hF : a = F := by
   have h1 : a.tmps = F.tmps := by
    apply Array.ext_getElem?
    intro t
    by_cases h : ∃ (j : Nat) (oj : Oper), j < n ∧ ops[j]? = some oj ∧ oj.dst = some t
    ·obtain ⟨j, oj, h1, h2, h3⟩ := h
     exact inv.new j oj t h1 h2 (hall' j h1) h3
    ·rw [inv.old t (fun j oj h1 h2 h3 => absurd ⟨j, oj, h1, h2, h3⟩ h), hr.old t (fun j oj _ h1 h2 h3 => absurd ⟨j, oj, h1, h2, h3⟩ h)]
   have h2 : a.defers = F.defers := by rw [inv.defers, hr.defers]
   cases a; cases F; simp_all
  rw [Nat.zero_add, hF]
  exact hfin listed w inv.head hall hdead inv.world
 |m + 1, listed, a, w, hm, inv => by
  rw [show m + 1 + (ops.size - n) = (m + (ops.size - n)) + 1 by omega]
  obtain ⟨i0, hi0, hun0⟩ : ∃ i, i < n ∧ listed.getD i true = false := by
   have : (List.range n).countP (fun i => !listed.getD i true) ≠ 0 := by
    show Ycp n listed ≠ 0
    omega
   rw [Ne, List.countP_eq_zero] at this
   simp only [Classical.not_forall] at this
   obtain ⟨i, hi, h⟩ := this
   exact ⟨i, List.mem_range.1 hi, by simpa using h⟩
  have hrd := Ygg hk inv.head.size i0 hi0 hun0
  refine ⟨fun h0 => ?_, fun i hi => ?_⟩
  ·obtain ⟨j, _, hj⟩ := hrd
   rw [h0] at hj; cases hj
  ·have hin : i < n := by
    rcases Nat.lt_or_ge i n with h | h
    ·exact h
    ·exact absurd hi (hwait listed inv.head i0 hi0 hun0 i h)
   obtain ⟨hun, o, ho, hall⟩ := mem_ready.1 hi
   have hunf : listed.getD i false = false := getD_both hun
   have hm' := Yf8 hin hun
   -- what the operation looks at is as in the frame at the head's end
   have hlook : ∀ t, t ∈ o.looksAt ops → a.tmps[t]? = F.tmps[t]? := by
    intro t ht
    by_cases h : ∃ (j : Nat) (oj : Oper), j < n ∧ ops[j]? = some oj ∧ oj.dst = some t
    ·obtain ⟨j, oj, h1, h2, h3⟩ := h
     obtain ⟨_, e, he, hb, hon⟩ := hk.looks i o j oj t hin ho h1 h2 h3 ht
     exact inv.new j oj t h1 h2 (by rw [← hon]; exact hall e he hb) h3
    ·rw [inv.old t (fun j oj h1 h2 h3 => absurd ⟨j, oj, h1, h2, h3⟩ h), hr.old t (fun j oj _ h1 h2 h3 => absurd ⟨j, oj, h1, h2, h3⟩ h)]
   have hs := Yb3 (hk.sel i o ho) hlook
   have hnd : Yaq dead o = false := by
    rw [Bool.eq_false_iff]
    intro hd
    simp only [Yaq, List.any_eq_true, Bool.and_eq_true, List.contains_iff_mem, Array.mem_toList_iff] at hd
    obtain ⟨e, he, hb, hm⟩ := hd
    exact inv.live e.on (hdn _ hm) (hall e he hb) hm
   -- the next frame
   have hnext : ∀ (v : Value) (w' : World), B w' → i ∉ dead → same o.dst a0.tmps.size v (vs i) → Ynq ops B n dead a0 F (listed.setIfInBounds i true) (a.put o.dst v) w' := by
    intro v w' hB hnot hv
    have hlt : i < listed.size := by rw [inv.head.size]; have := hk.le; omega
    refine ⟨inv.head.set hi hin, hB, by rw [Yb0, inv.defers], by rw [Yat, inv.size], ?_, ?_, ?_⟩
    ·intro j hj hl
     by_cases e : i = j
     ·subst e; exact hnot
     ·rw [getD_set_ne false e] at hl; exact inv.live j hj hl
    ·intro t ht
     have hne : o.dst ≠ some t := fun he => by
      have := ht i o hin ho he
      simp [hlt] at this
     rw [Ybk _ _ _ _ hne]
     refine inv.old t fun j oj h1 h2 h3 => ?_
     have := ht j oj h1 h2 h3
     by_cases e : i = j
     ·subst e; exact hunf
     ·rwa [getD_set_ne false e] at this
    ·intro j oj t h1 h2 h3 h4
     by_cases e : i = j
     ·subst e
      have : oj = o := Option.some.inj (h2.symm.trans ho)
      subst this
      rcases Nat.lt_or_ge t a.tmps.size with ht | ht
      ·rw [h4, Yc6 _ _ _ ht, hr.new i oj t (Nat.zero_le _) hin ho hnot h4 (by rw [← inv.size]; exact ht), hv t h4 (by rw [← inv.size]; exact ht)]
      ·rw [Array.getElem?_eq_none (by rw [Yat]; exact ht), Array.getElem?_eq_none (by rw [hr.size, ← inv.size]; exact ht)]
     ·rw [getD_set_ne false e] at h3
      have hne : o.dst ≠ some t := fun he => e (hk.dst i o j oj t hin ho h1 h2 h4 he)
      rw [Ybk _ _ _ _ hne]
      exact inv.new j oj t h1 h2 h3 h4
   have hpan : ∀ c w', X c w' → Q (.panic c) a w' := fun c w' hx =>
    hX c a w' hx inv.defers inv.size fun t ht => inv.old t fun j oj h1 h2 h3 => absurd h3 (ht j oj h1 h2)
   unfold wpOp
   simp only [ho]
   by_cases hde : i ∈ dead
   ·rcases hr.died i o (Nat.zero_le _) hin ho hde with h | ⟨hw, h⟩
    ·rw [h] at hnd; cases hnd
    ·rw [if_pos (by rw [hs.2]; exact hw)]
     refine .inl (Yc7 ?_)
     rw [Ybx hs.1]
     exact Ydi (h w inv.world) (fun _ _ hf => hf.elim) hpan
   ·obtain ⟨_, ⟨hw, h⟩ | ⟨hw, h⟩⟩ := hr.live i o (Nat.zero_le _) hin ho hde
    ·rw [if_pos (by rw [hs.2]; exact hw)]
     refine .inl (Yc7 ?_)
     rw [Ybx hs.1]
     refine Ydi (h w inv.world) (fun v w' hv => ?_) hpan
     exact Yiv hk hr hdn hwait hX hfin m _ _ _ (by omega) (hnext v w' hv.2 hde hv.1)
    ·rw [if_neg (by rw [hs.2, hw]; simp)]
     exact Yiv hk hr hdn hwait hX hfin m _ _ _ (by omega) (hnext undef w inv.world hde (fun _ _ _ => h.symm))
def Yf7 (ops : Array Oper) (n : Nat) : Bool :=
 Ykn ops n && (decide (n = ops.size) || (decide (n < ops.size) && Region.sinkB .any ops n && Region.chainB .any ops n)) &&
  Region.seqB .any ops (ops.size - n) n (Array.replicate n true ++ Array.replicate (ops.size - n) false)
def noDst (l : List Oper) (n : Nat) (t : Tmp) : Bool := (l.take n).all fun o => o.dst != some t
theorem Ygi {l : List Oper} {n : Nat} {t : Tmp} (h : noDst l n t = true) : ∀ (j : Nat) (oj : Oper), j < n → l[j]? = some oj → oj.dst ≠ some t := by
 intro j oj hj ho he
 have hm : oj ∈ l.take n := List.mem_of_getElem? (i := j) (by rw [List.getElem?_take, if_pos hj]; exact ho)
 have := List.all_eq_true.1 h oj hm
 simp [he] at this
theorem Yax {P : Program} {id : Nat} {Q : Exit → Act → World → Prop} {a : Act} {w : World} {l : List Oper} (n : Nat) (B : World → Prop) (X : List PanicEntry → World → Prop) (hm : P.follows .mixedOrders = true) (hok : Yf7 l.toArray n = true)
  (hB : B w.drew)
  (hX : ∀ c a' w', X c w' → a'.defers = a.defers → a'.tmps.size = a.tmps.size → (∀ t, noDst l n t = true → a'.tmps[t]? = a.tmps[t]?) → Q (.panic c) a' w')
  (h : Ydo P l.toArray B X (fun dead F => dead = [] → ∀ w1, B w1 → wpList P l.toArray Q (l.drop n) F w1) [] 0 (l.take n) a) : (Code.region id l.toArray true).wp P Q a w := by
 simp only [Yf7, Bool.and_eq_true, Bool.or_eq_true, decide_eq_true_eq] at hok
 obtain ⟨⟨hh, ht⟩, hq⟩ := hok
 have hk := Yfy hh
 have hle : n ≤ l.length := by simpa using hk.le
 have htl : (l.take n).length = n := by simp; omega
 obtain ⟨vs, dead, F, hf, hr, _, hdn⟩ := Yet hk (l.take n) 0 [] a (fun j hj => by
  have hj' : j < n := by rw [htl] at hj; exact hj
  simp [hj']) (by simpa using htl) (by simp) h
 have hun : Ycp n (Array.replicate l.toArray.size false) = n := by
  have : ∀ i, i ∈ List.range n → (!(Array.replicate l.toArray.size false).getD i true) = true := fun i hi => by
   have hi' : i < l.toArray.size := by have := List.mem_range.1 hi; simp; omega
   have hi'' : i < l.length := by simpa using hi'
   simp [hi'']
  unfold Ycp
  rw [List.countP_eq_length.2 this, List.length_range]
 have inv0 : HeadInv .any l.toArray n (Array.replicate l.toArray.size false) :=
  ⟨by simp, fun j oj _ hl => (by rw [getD_replicate_false] at hl; cases hl), fun t _ ht => getD_in (by simpa using ht) (getD_replicate_false _ _)⟩
 have hgo := Yiv (Q := Q) hk hr hdn ?_ (fun c a' w' hx h1 h2 h3 => hX c a' w' hx h1 h2 fun t ht' => h3 t fun j oj g1 g2 => Ygi ht' j oj g1 (by simpa using g2)) ?_ n _ a w.drew hun
  ⟨inv0, hB, rfl, rfl, fun j _ hl => (by rw [getD_replicate_false] at hl; cases hl), fun _ _ => rfl, fun j oj t _ _ hl => (by rw [getD_replicate_false] at hl; cases hl)⟩
 ·refine wp_region_any hm ?_
  rw [show n + (l.toArray.size - n) = l.toArray.size by simp; omega] at hgo
  exact hgo
 ·intro listed inv i hi hun t hnt
  rcases ht with ht | ⟨⟨h1, h2⟩, h3⟩
  ·intro hrd
   obtain ⟨_, o, ho, _⟩ := mem_ready.1 hrd
   have := (Array.getElem?_eq_some_iff.1 ho).1
   omega
  ·exact tail_waits h2 h3 h1 inv _ i rfl hi hun t hnt
 ·intro listed w1 inv hall hd hBw
  have hlst : listed = Array.replicate n true ++ Array.replicate (l.toArray.size - n) false := by
   apply Array.ext
   ·rw [inv.size]; simp; omega
   ·intro i h1 h2
    by_cases hi : i < n
    ·have := hall i hi
     simp [h1] at this
     rw [this, Array.getElem_append_left (by simpa using hi)]
     simp
    ·have := inv.tail i (by omega) (by rw [← inv.size]; exact h1)
     simp [h1] at this
     rw [this, Array.getElem_append_right (by simpa using hi)]
     simp
  have hdl : (l.drop n).length = l.toArray.size - n := by simp
  have := wpAny_of_seq (md := .any) (P := P) (ops := l.toArray) (Q' := Q) (l.drop n) n listed F w1 (fun j => by simp [List.getElem?_drop]) (by rw [hdl, hlst]; exact hq) (hf hd w1 hBw)
  rwa [hdl] at this
end
end Go.Proofs.YthakgjpejhjaoaaGreat
