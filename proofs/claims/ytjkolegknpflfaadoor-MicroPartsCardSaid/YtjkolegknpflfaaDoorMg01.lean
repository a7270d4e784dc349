/-
  Parts of the proof (their names shortened by a program). No condition.
-/
import Derived.Lib.Hide
import Derived.WalkKit
import Derived.Deep.MidRow
import Derived.ProofKit
import Derived.OpenShut
import Derived.Carry
import Derived.WalkSpells
import Derived.Test.YtjkolegknpflfaaDoorRows
import Derived.WalkLawsBesides
import Derived.Laws.Build
namespace Go.Proofs.YtjkolegknpflfaaDoor
open Go Go.RowKit
set_option linter.unusedVariables false
set_option linter.unusedSimpArgs false
set_option maxRecDepth 100000
set_option maxHeartbeats 16000000
theorem Yh_ {p : Prop} (h : p) : Hid p := h
structure Upd (S : List Nat) (w w' : World) : Prop where
 os : w'.os = w.os
 tape : w'.tape = w.tape
 output : w'.output = w.output
 size : w.heap.size ≤ w'.heap.size
 block : ∀ k, k < w.heap.size → k ∉ S → w'.heap[k]? = w.heap[k]?
theorem Upd.refl (S : List Nat) (w : World) : Upd S w w := ⟨rfl, rfl, rfl, Nat.le_refl _, fun _ _ _ => rfl⟩
theorem Upd.trans {S S' T : List Nat} {a b c : World} (h : Upd S a b) (k : Upd S' b c) (hS : ∀ x, x ∈ S → x ∈ T) (hS' : ∀ x, x ∈ S' → x ∈ T ∨ a.heap.size ≤ x) : Upd T a c :=
 ⟨k.os.trans h.os, k.tape.trans h.tape, k.output.trans h.output, Nat.le_trans h.size k.size, fun i hi hn => by
  have h1 : i ∉ S := fun hh => hn (hS i hh)
  have h2 : i ∉ S' := fun hh => by
   rcases hS' i hh with h | h
   ·exact hn h
   ·omega
  rw [k.block i (Nat.lt_of_lt_of_le hi h.size) h2, h.block i hi h1]⟩
theorem Upd.mono {S T : List Nat} {a b : World} (h : Upd S a b) (hS : ∀ x, x ∈ S → x ∈ T) : Upd T a b :=
 h.trans (Upd.refl [] b) hS (by simp)
theorem Upd.new {S' : List Nat} {a b c : World} (h : Upd [] a b) (k : Upd S' b c) (hS' : ∀ x, x ∈ S' → a.heap.size ≤ x) : Upd [] a c :=
 h.trans k (by simp) (fun x hx => .inr (hS' x hx))
theorem Upd.also {S S' : List Nat} {a b c : World} (h : Upd S a b) (k : Upd S' b c) (hS' : ∀ x, x ∈ S' → x ∈ S ∨ a.heap.size ≤ x) : Upd S a c :=
 h.trans k (fun _ h => h) hS'
theorem Upd.drew {S : List Nat} {a b : World} (h : Upd S a b) : Upd S a b.drew := ⟨h.os, h.tape, h.output, h.size, h.block⟩
theorem Upd.alloc {S : List Nat} {a b : World} (h : Upd S a b) (o : Obj) : Upd S a (b.alloc o) :=
 h.trans (S' := []) ⟨rfl, rfl, rfl, by simp, fun k hk _ => Below.heap_alloc _ _ _ hk⟩ (fun _ h => h) (by simp)
theorem Upd.setCell {S : List Nat} {a b : World} (h : Upd S a b) {p : Addr} (hp : p.block ∈ S ∨ a.heap.size ≤ p.block) (u : Value) : Upd S a (b.setCell p u) :=
 h.trans (S' := [p.block]) ⟨rfl, rfl, rfl, by simp [World.setCell], fun k _ hn => Below.heap_setCell _ _ _ _ (by simpa using hn)⟩ (fun _ h => h) (by simpa using hp)
theorem Upd.below {a b : World} (h : Upd [] a b) : Below a.heap.size a b := ⟨h.os, h.tape, h.output, h.size, fun k hk => h.block k hk (by simp)⟩
theorem Upd.of_below {S : List Nat} {a b : World} (h : Below a.heap.size a b) : Upd S a b := ⟨h.os, h.tape, h.output, h.size, fun k hk _ => h.block k hk⟩
theorem Upd.get {S : List Nat} {w w' : World} (h : Upd S w w') {k : Nat} {o : Obj} (hk : w.heap[k]? = some o) (hn : k ∉ S) : w'.heap[k]? = some o := by
 have hlt : k < w.heap.size := by
  by_cases hl : k < w.heap.size
  ·exact hl
  ·rw [Array.getElem?_eq_none (by omega)] at hk; cases hk
 rw [h.block k hlt hn]; exact hk
theorem Yr {w : World} {k : Nat} {o : Obj} (hk : w.heap[k]? = some o) : k < w.heap.size := by
 by_cases hl : k < w.heap.size
 ·exact hl
 ·rw [Array.getElem?_eq_none (by omega)] at hk; cases hk
theorem Ya {w : World} {b : Nat} {c : Array Value} {t : TypeId} {f : Nat × Nat} (h : w.heap[b]? = some (.cells c t f)) (o : Nat) : w.cell? ⟨b, o, none⟩ = c[o]? := by
 simp [World.cell?, h]
theorem Yc {w : World} {b : Nat} {c : Array Value} {t : TypeId} (h : w.heap[b]? = some (.cells c t (0, 0))) (o : Nat) : w.frozen? ⟨b, o, none⟩ = false := by
 simp [World.frozen?, h]
theorem Yf {w : World} {b : Nat} {c : Array Value} {t : TypeId} {f : Nat × Nat} (h : w.heap[b]? = some (.cells c t f)) (o : Nat) (v : Value) :
  (w.setCell ⟨b, o, none⟩ v).heap[b]? = some (.cells (c.setIfInBounds o v) t f) := by
 simp [World.setCell, Array.getElem?_modify, h]
theorem Yey {w : World} {a : Addr} {b : Nat} (v : Value) (hne : b ≠ a.block) : (w.setCell a v).heap[b]? = w.heap[b]? :=
 Below.heap_setCell _ _ _ _ hne
theorem Ym {w : World} {b : Nat} {x : Obj} (o : Obj) (h : w.heap[b]? = some x) : (w.alloc o).heap[b]? = some x := by
 rw [heap_alloc_old _ _ (Yr h)]; exact h
theorem Yd {w : World} {a : Addr} {b : Nat} {x : Obj} (v : Value) (hne : b ≠ a.block) (h : w.heap[b]? = some x) : (w.setCell a v).heap[b]? = some x := by
 rw [Yey v hne]; exact h
theorem Yl {P : Program} {ops : Array Oper} {rest : List Oper} {op : Oper} {a : Act} {w : World} {Q : Exit → Act → World → Prop} (hgd : op.guard = none) (ty : TypeId) (x : Operand) (ho : op.op = .load ty x)
  (b o : Nat) (hx : a.eval x = .pointer (some ⟨b, o, none⟩)) (cs : Array Value) (d : TypeDesc) (hc : w.rangeAt b o cs.toList)
  (hu : P.underlying ty = some d) (hd : d.isRow = true) (hi : (P.info? ty).map (·.size) = some cs.size)
  (h : wpList P ops Q rest (a.put op.dst (.agg cs)) w) : wpList P ops Q (op :: rest) a w :=
 wpList_load_mid hgd ty x ho b o hx cs.toList d hc hu hd (by rw [hi, Array.length_toList]) (by rw [Array.toArray_toList]; exact h)
theorem Ybk {w : World} {b : Nat} {c : Array Value} {t : TypeId} {f : Nat × Nat} (h : w.heap[b]? = some (.cells c t f)) : w.rangeAt b 0 c.toList := by
 intro j v hv
 rw [Ya h, Nat.zero_add, ← hv, Array.getElem?_toList]
def wr (c : Array Value) (o : Nat) : List Value → Array Value
 |[] => c
 |v :: r => wr (c.setIfInBounds o v) (o + 1) r
theorem Yhv (vs : List Value) : ∀ (c : Array Value) (o : Nat), (wr c o vs).size = c.size := by
 induction vs with
 |nil => intro c o; rfl
 |cons v r ih => intro c o; rw [wr, ih, Array.size_setIfInBounds]
theorem Ycc (vs : List Value) : ∀ (c : Array Value) (o k : Nat), o + vs.length ≤ c.size → (wr c o vs)[k]? = if o ≤ k ∧ k < o + vs.length then vs[k - o]? else c[k]? := by
 induction vs with
 |nil => intro c o k _; rw [wr, if_neg (by simp)]
 |cons v r ih =>
  intro c o k h
  simp only [List.length_cons] at h ⊢
  rw [wr, ih _ _ _ (by rw [Array.size_setIfInBounds]; omega)]
  by_cases e : o = k
  ·subst e
   rw [if_neg (by omega), if_pos (by omega), Nat.sub_self, Array.getElem?_setIfInBounds, if_pos rfl, if_pos (by omega)]
   rfl
  ·by_cases h1 : o + 1 ≤ k ∧ k < o + 1 + r.length
   ·rw [if_pos h1, if_pos (by omega), show k - o = (k - (o + 1)) + 1 from by omega, List.getElem?_cons_succ]
   ·rw [if_neg h1, if_neg (by omega), Array.getElem?_setIfInBounds, if_neg e]
theorem Yad {b : Nat} {t : TypeId} {f : Nat × Nat} (vs : List Value) : ∀ (w : World) (c : Array Value) (o : Nat), w.heap[b]? = some (.cells c t f) →
  (w.setCells b o vs).heap[b]? = some (.cells (wr c o vs) t f) := by
 induction vs with
 |nil => intro w c o h; exact h
 |cons v r ih => intro w c o h; exact ih _ _ _ (Yf h o v)
theorem Yfg {b b' : Nat} (hne : b' ≠ b) (vs : List Value) : ∀ (w : World) (o : Nat), (w.setCells b o vs).heap[b']? = w.heap[b']? := by
 induction vs with
 |nil => intro w o; rfl
 |cons v r ih => intro w o; rw [World.setCells, ih]; exact Yey v hne
theorem Upd.setCells {S : List Nat} {a : World} {q : Nat} (hp : q ∈ S ∨ a.heap.size ≤ q) (vs : List Value) : ∀ {b : World} (o : Nat), Upd S a b → Upd S a (b.setCells q o vs) := by
 induction vs with
 |nil => intro b o h; exact h
 |cons v r ih => intro b o h; exact ih _ (h.setCell (p := ⟨q, o, none⟩) hp v)
theorem Ycu {w : World} {b : Nat} {c : Array Value} {t : TypeId} (h : w.heap[b]? = some (.cells c t (0, 0))) (o n : Nat) (hn : o + n ≤ c.size) : w.there b o n := by
 intro j hj
 rw [Ya h, Yc h]
 exact ⟨by rw [Array.getElem?_eq_getElem (by omega)]; rfl, rfl⟩
theorem Ycp {P : Program} {ops : Array Oper} {rest : List Oper} {op : Oper} {a : Act} {w : World} {Q : Exit → Act → World → Prop} (hgd : op.guard = none) (ty : TypeId) (x y : Operand) (ho : op.op = .store ty x y)
  (b o : Nat) (cs : Array Value) (hx : a.eval x = .pointer (some ⟨b, o, none⟩)) (hy : a.eval y = .agg cs)
  {c : Array Value} {t : TypeId} (hb : w.heap[b]? = some (.cells c t (0, 0))) (hn : o + cs.size ≤ c.size) (hi : (P.info? ty).map (·.size) = some cs.size) (h1 : cs.all (·.oneCell') = true)
  (h : wpList P ops Q rest (a.put op.dst undef) (w.setCells b o cs.toList)) : wpList P ops Q (op :: rest) a w :=
 wpList_store_mid hgd ty x y ho b o cs hx hy (Ycu hb o cs.size hn) hi h1 h
structure Mem where
 R : Nat → Int
 B : Nat → Int
@[ext] theorem Mem.ext' {a b : Mem} (h : a.R = b.R) (k : a.B = b.B) : a = b := by
 cases a; cases b; simp_all

structure Mem.Ok (M : Mem) : Prop where
 R : ∀ p, 0 ≤ M.R p ∧ M.R p ≤ 7
 B : ∀ a, 0 ≤ M.B a ∧ M.B a ≤ 255
def Mem.zero : Mem := ⟨fun _ => 0, fun _ => 0⟩
theorem Mem.zero_ok : Mem.zero.Ok := ⟨fun _ => by simp [Mem.zero], fun _ => by simp [Mem.zero]⟩
def Mem.at_ (M : Mem) (k : Nat) : Value :=
 if k % 257 = 0 then .int .i64 (M.R (k / 257)) else .int .u8 (M.B (k / 257 * 256 + (k % 257 - 1)))
def Mem.cells (M : Mem) : Array Value := (Array.range 16448).map M.at_
theorem Mem.size_cells (M : Mem) : M.cells.size = 16448 := by simp [Mem.cells]
theorem Mem.getElem?_cells (M : Mem) (k : Nat) (h : k < 16448) : M.cells[k]? = some (M.at_ k) := by
 simp [Mem.cells, Array.getElem?_map, Array.getElem?_range, h]
theorem Mem.cells_R (M : Mem) (p : Nat) (h : p < 64) : M.cells[p * 257]? = some (.int .i64 (M.R p)) := by
 rw [M.getElem?_cells _ (by omega)]
 simp [Mem.at_]
theorem Mem.cells_B (M : Mem) (p o : Nat) (h : p < 64) (ho : o < 256) : M.cells[p * 257 + 1 + o]? = some (.int .u8 (M.B (p * 256 + o))) := by
 rw [M.getElem?_cells _ (by omega)]
 have h1 : (p * 257 + 1 + o) % 257 = o + 1 := by omega
 have h2 : (p * 257 + 1 + o) / 257 = p := by omega
 simp [Mem.at_, h1, h2]
def Mem.setR (M : Mem) (p : Nat) (r : Int) : Mem := { M with R := fun q => if q = p then r else M.R q }
def Mem.setB (M : Mem) (a : Nat) (v : Int) : Mem := { M with B := fun q => if q = a then v else M.B q }
theorem Mem.setR_ok {M : Mem} (h : M.Ok) (p : Nat) {r : Int} (h0 : 0 ≤ r) (h7 : r ≤ 7) : (M.setR p r).Ok :=
 ⟨fun q => by simp only [Mem.setR]; split; exact ⟨h0, h7⟩; exact h.R q, h.B⟩
theorem Mem.setB_ok {M : Mem} (h : M.Ok) (a : Nat) {v : Int} (h0 : 0 ≤ v) (h7 : v ≤ 255) : (M.setB a v).Ok :=
 ⟨h.R, fun q => by simp only [Mem.setB]; split; exact ⟨h0, h7⟩; exact h.B q⟩
theorem Mem.cells_setR (M : Mem) (p : Nat) (r : Int) (h : p < 64) : M.cells.setIfInBounds (p * 257) (.int .i64 r) = (M.setR p r).cells := by
 apply Array.ext_getElem?
 intro k
 by_cases hk : k < 16448
 ·rw [Array.getElem?_setIfInBounds, Mem.getElem?_cells _ _ hk, Mem.getElem?_cells _ _ hk]
  by_cases e : p * 257 = k
  ·subst e; simp [Mem.size_cells, Mem.at_, Mem.setR]; omega
  ·rw [if_neg e]
   simp only [Mem.at_, Mem.setR]
   by_cases e2 : k % 257 = 0
   ·have : ¬ k / 257 = p := by omega
    simp [e2, this]
   ·simp [e2]
 ·rw [Array.getElem?_eq_none (by rw [Array.size_setIfInBounds, Mem.size_cells]; omega), Array.getElem?_eq_none (by rw [Mem.size_cells]; omega)]
theorem Mem.cells_setB (M : Mem) (p o : Nat) (v : Int) (h : p < 64) (ho : o < 256) :
  M.cells.setIfInBounds (p * 257 + 1 + o) (.int .u8 v) = (M.setB (p * 256 + o) v).cells := by
 apply Array.ext_getElem?
 intro k
 by_cases hk : k < 16448
 ·rw [Array.getElem?_setIfInBounds, Mem.getElem?_cells _ _ hk, Mem.getElem?_cells _ _ hk]
  by_cases e : p * 257 + 1 + o = k
  ·subst e
   have h1 : (p * 257 + 1 + o) % 257 = o + 1 := by omega
   have h2 : (p * 257 + 1 + o) / 257 = p := by omega
   simp [Mem.size_cells, Mem.at_, Mem.setB, h1, h2]; omega
  ·rw [if_neg e]
   simp only [Mem.at_, Mem.setB]
   by_cases e2 : k % 257 = 0
   ·simp [e2]
   ·have hd := Nat.div_add_mod k 257
    have hm := Nat.mod_lt k (show 257 > 0 by decide)
    have : ¬ k / 257 * 256 + (k % 257 - 1) = p * 256 + o := by
     generalize k / 257 = q at *
     generalize k % 257 = r at *
     intro hh
     have h1 : q = p := by omega
     subst h1
     omega
    simp [e2, this]
 ·rw [Array.getElem?_eq_none (by rw [Array.size_setIfInBounds, Mem.size_cells]; omega), Array.getElem?_eq_none (by rw [Mem.size_cells]; omega)]
structure Ycf (C : Array Value) (M : Mem) : Prop where
 size : 16448 ≤ C.size
 get : ∀ k, k < 16448 → C[k]? = some (M.at_ k)
theorem Ycf.cells (M : Mem) : Ycf M.cells M := ⟨by rw [Mem.size_cells]; exact Nat.le_refl _, fun k h => M.getElem?_cells k h⟩
theorem Ycf.R {C : Array Value} {M : Mem} (h : Ycf C M) (p : Nat) (hp : p < 64) : C[p * 257]? = some (.int .i64 (M.R p)) := by
 rw [h.get _ (by omega), ← M.getElem?_cells _ (by omega), M.cells_R p hp]
theorem Ycf.B {C : Array Value} {M : Mem} (h : Ycf C M) (p o : Nat) (hp : p < 64) (ho : o < 256) : C[p * 257 + 1 + o]? = some (.int .u8 (M.B (p * 256 + o))) := by
 rw [h.get _ (by omega), ← M.getElem?_cells _ (by omega), M.cells_B p o hp ho]
theorem Ycf.set {C : Array Value} {M M' : Mem} (h : Ycf C M) (i : Nat) (v : Value) (hi : i < 16448) (e : M.cells.setIfInBounds i v = M'.cells) : Ycf (C.setIfInBounds i v) M' := by
 refine ⟨by rw [Array.size_setIfInBounds]; exact h.size, fun k hk => ?_⟩
 have hs := h.size
 rw [← M'.getElem?_cells k hk, ← e, Array.getElem?_setIfInBounds, Array.getElem?_setIfInBounds, h.get k hk, M.getElem?_cells k hk, M.size_cells]
 by_cases e2 : i = k
 ·rw [if_pos e2, if_pos e2, if_pos (by omega), if_pos (by omega)]
 ·rw [if_neg e2, if_neg e2]
theorem Ycf.wr {C : Array Value} {M M' : Mem} (h : Ycf C M) (o : Nat) (vs : List Value) (ho : o + vs.length ≤ 16448) (e : Go.Proofs.YtjkolegknpflfaaDoor.wr M.cells o vs = M'.cells) : Ycf (Go.Proofs.YtjkolegknpflfaaDoor.wr C o vs) M' := by
 refine ⟨by rw [Yhv]; exact h.size, fun k hk => ?_⟩
 have hs := h.size
 rw [← M'.getElem?_cells k hk, ← e, Ycc _ _ _ _ (by omega), Ycc _ _ _ _ (by rw [M.size_cells]; omega), h.get k hk, M.getElem?_cells k hk]
section
open Go.WideShapes Go.ChangeShapes
theorem Yj0 {H : Type} {enc : TypeId × Value → H} {P : Program} {f : Func} {s : ChangeSpec} {apart fresh handsOn again : Bool} {W W' : World} {args : Array Value} {v : Value} {ds gs : List (DataW H)} {pl pa pv : List MemPlace}
  (hW : DataW.Whole enc P f.params.toList s.vars apart W args.toList ds gs pl)
  (hr : ∀ (b : Nat) (sp : Nat → Bool) (hd : Bool), DataW.TrodAll enc P W' b sp hd f.resultTypes.toList (v.resultList f.resultTypes.size) (s.fn H (ds ++ gs)).results [])
  (ha : ∀ sp : Nat → Bool, (∀ p ∈ pl, sp p.block = true) → DataW.TrodAll enc P W' 0 sp true f.params.toList args.toList (s.fn H (ds ++ gs)).args pa)
  (hv : ∀ sp : Nat → Bool, (∀ p ∈ pl, sp p.block = true) → DataW.TrodVars enc P W' sp s.vars (s.fn H (ds ++ gs)).vars pv)
  (hp : pl = pa ++ pv) (u : Upd [] W W')
  (hok : ∀ (j : Nat) (t : TypeId) (r : Value), f.resultTypes[j]? = some t → (v.resultList f.resultTypes.size)[j]? = some r → Value.okWide P W' .any 0 t r) :
  s.post enc P f apart fresh handsOn again W args v W' := by
 have hb := u.below
 have hin : ∀ p ∈ pl, p.block < W.heap.size := fun p h => hW.lt p h
 have hsp : ∀ p ∈ pl, (fun b => decide (b < W.heap.size)) p.block = true := fun p h => by simpa using hin p h
 refine ⟨ds, gs, pl, [], pa, pv, hW, hr _ _ _, ha _ hsp, hv _ hsp, World.keptBut_mono (fun p h => ⟨h, .inr ?_⟩) (hb.frame (· ∈ pl)), fun _ => ?_⟩
 ·rw [hp, List.mem_append] at h
  exact h
 ·obtain ⟨_, _, _, _, _, hz, hn⟩ := hW
  refine ⟨hok, _, _, ([] ++ pa) ++ pv, ⟨[] ++ pa, pv, trodAll_append (ha _ (fun _ _ => rfl)) (hr _ _ _), hv _ (fun _ _ => rfl), rfl, fun b o h => ?_, fun h => ?_⟩, ?_⟩
  ·have hm : MemPlace.cell b o ∈ pl := by rw [hp]; simpa using h
   rw [hb.frozen (hin _ hm)]
   exact hz b o hm
  ·have := hn h
   rw [hp] at this
   simpa using this
  ·intro p h _
   rw [hp]
   simpa using h
end
section
open Go.WideShapes Go.ChangeShapes
section
variable {H : Type} {enc : TypeId × Value → H} {P : Program}
def Ydn (P : Program) (ts : List TypeId) : Bool := ts.all fun t => P.readableRec t && decide (t < P.types.size)
theorem Yig (hl : laidOutB P = true) {W W' : World} (u : Upd [] W W') {sp' : Nat → Bool} :
  ∀ (ts : List TypeId) (vs : List Value) (ds : List (DataW H)) (pl : List MemPlace), Ydn P ts = true → (∀ p ∈ pl, p.block < W.heap.size) → (∀ p ∈ pl, sp' p.block = true) →
   DataW.TrodAll enc P W 0 (fun _ => true) true ts vs ds pl → DataW.TrodAll enc P W' 0 sp' true ts vs ds pl
 |[], [], [], _, _, _, _, h => h
 |t :: ts, v :: vs, d :: ds, pl, hr, hlt, hs, h => by
  obtain ⟨p, q, h1, h2, rfl⟩ := h
  simp only [Ydn, List.all_cons, Bool.and_eq_true, decide_eq_true_eq] at hr
  refine ⟨p, q, WideElems.Trod_stays hl hr.1.1 hr.1.2 h1 (fun x hx => u.below.same (hlt x (List.mem_append_left _ hx))) (fun x hx => hs x (List.mem_append_left _ hx)), ?_, rfl⟩
  exact Yig hl u ts vs ds q (by rw [Ydn]; exact hr.2) (fun x hx => hlt x (List.mem_append_right _ hx)) (fun x hx => hs x (List.mem_append_right _ hx)) h2
theorem Ygv {f : Func} {s : ChangeSpec} {apart fresh handsOn again : Bool} {W W' : World} {args : Array Value} {v : Value} {ds : List (DataW H)} {pl : List MemPlace}
  (hl : laidOutB P = true) (hrd : Ydn P f.params.toList = true) (hvars : s.vars = [])
  (hW : DataW.Whole enc P f.params.toList s.vars apart W args.toList ds [] pl)
  (hA : DataW.TrodAll enc P W 0 (fun _ => true) true f.params.toList args.toList ds pl)
  (hr : ∀ (b : Nat) (sp : Nat → Bool) (hd : Bool), DataW.TrodAll enc P W' b sp hd f.resultTypes.toList (v.resultList f.resultTypes.size) (s.fn H (ds ++ [])).results [])
  (hargs : (s.fn H (ds ++ [])).args = ds) (hgs : (s.fn H (ds ++ [])).vars = [])
  (u : Upd [] W W')
  (hok : ∀ (j : Nat) (t : TypeId) (r : Value), f.resultTypes[j]? = some t → (v.resultList f.resultTypes.size)[j]? = some r → Value.okWide P W' .any 0 t r) :
  s.post enc P f apart fresh handsOn again W args v W' := by
 refine Yj0 (pa := pl) (pv := []) hW hr (fun sp hsp => ?_) (fun sp _ => ?_) (by simp) u hok
 ·rw [hargs]
  exact Yig hl u _ _ _ _ hrd (fun p h => hW.lt p h) hsp hA
 ·rw [hgs, hvars]
  exact rfl
inductive Leaf where
 |int (k : IntKind)
 |bool
 |string
def Yiu : Leaf → Value → Prop
 |.int k, v => ∃ n, v = .int k n ∧ (Lit.int k n).wf = true
 |.bool, v => ∃ b, v = .bool b
 |.string, v => ∃ s : ByteArray, v = .string s ∧ s.size ≤ maxLen
def Yex (P : Program) : Nat → TypeId → Nat → Option Leaf
 |0, _, _ => none
 |n + 1, t, j =>
  match P.underlying t with
  |some (.int k) => if j = 0 then some (.int k) else none
  |some .bool => if j = 0 then some .bool else none
  |some .string => if j = 0 then some .string else none
  |some (.array m e) => if 0 < P.cellsOf e ∧ j / P.cellsOf e < m then Yex P n e (j % P.cellsOf e) else none
  |some (.struct fs) => fs.toList.findSome? fun f => if f.offset ≤ j ∧ j < f.offset + P.cellsOf f.type then Yex P n f.type (j - f.offset) else none
  |_ => none
theorem Yei {w : World} {base : Nat} {spare : Nat → Bool} {held : Bool} : ∀ (n : Nat) (t : TypeId) (fuel : Nat) (cs : List Value) (x : DataW H × List MemPlace) (j : Nat) (lf : Leaf), DataW.trod enc P w base spare held fuel t cs = some x → Yex P n t j = some lf → ∃ v, cs[j]? = some v ∧ Yiu lf v
 |0, _, _, _, _, _, _, _, h => by cases h
 |n + 1, t, fuel, cs, x, j, lf, hx, h => by
  unfold Yex at h
  split at h
  ·rename_i k hu
   obtain ⟨z, rfl, _, hw⟩ := DataW.trod_int hu hx
   split at h
   ·rename_i hj; subst hj
    injection h with h; subst h
    exact ⟨_, rfl, z, rfl, hw⟩
   ·cases h
  ·rename_i hu
   obtain ⟨b, rfl, _⟩ := DataW.trod_bool hu hx
   split at h
   ·rename_i hj; subst hj
    injection h with h; subst h
    exact ⟨_, rfl, b, rfl⟩
   ·cases h
  ·rename_i hu
   obtain ⟨s, rfl, _, hs⟩ := DataW.trod_string hu hx
   split at h
   ·rename_i hj; subst hj
    injection h with h; subst h
    exact ⟨_, rfl, s, rfl, hs⟩
   ·cases h
  ·rename_i m e hu
   split at h
   ·rename_i hj
    obtain ⟨xs, f, _, _, _, hl, hi⟩ := DataW.trod_array hu hx
    have h1 := hi _ hj.2
    obtain ⟨y, hy⟩ : ∃ y, xs[j / P.cellsOf e]? = some y := ⟨_, List.getElem?_eq_getElem (by omega)⟩
    rw [hy] at h1
    obtain ⟨v, hv, hlv⟩ := Yei n e f _ y _ lf h1 h
    refine ⟨v, ?_, hlv⟩
    have hm := Nat.mod_lt j hj.1
    have hd := Nat.div_add_mod j (P.cellsOf e)
    rw [List.getElem?_take, if_pos hm, List.getElem?_drop, Nat.mul_comm, hd] at hv
    exact hv
   ·cases h
  ·rename_i fs hu
   obtain ⟨f, hf, hc⟩ := List.exists_of_findSome?_eq_some h
   split at hc
   ·rename_i hj
    obtain ⟨xs, k, _, _, _, hl, hi⟩ := DataW.trod_struct hu hx
    obtain ⟨i, hfi⟩ := List.getElem?_of_mem hf
    have hfi' : fs[i]? = some f := by rw [← hfi, Array.getElem?_toList]
    have hlt : i < fs.size := (Array.getElem?_eq_some_iff.1 hfi').1
    have h1 := hi i f hfi'
    obtain ⟨y, hy⟩ : ∃ y, xs[i]? = some y := ⟨_, List.getElem?_eq_getElem (by omega)⟩
    rw [hy] at h1
    obtain ⟨v, hv, hlv⟩ := Yei n f.type k _ y _ lf h1 hc
    refine ⟨v, ?_, hlv⟩
    rw [List.getElem?_take, if_pos (by omega), List.getElem?_drop, show f.offset + (j - f.offset) = j from by omega] at hv
    exact hv
   ·cases hc
  ·cases h
def isAggB (P : Program) (t : TypeId) : Bool :=
 match P.underlying t with
 |some (.struct _) => true
 |some (.array _ _) => true
 |_ => false
theorem Yj4 {w : World} {base : Nat} {spare : Nat → Bool} {held : Bool} {r : Reach} {b0 : Nat} {t : TypeId} {v : Value} {d : DataW H} {p : List MemPlace} (ha : isAggB P t = true)
  (hv : Value.okWide P w r b0 t v) (h : DataW.Trod enc P w base spare held t v d p) :
  ∃ cs : Array Value, v = .agg cs ∧ cs.size = P.cellsOf t ∧ ∀ n j lf, Yex P n t j = some lf → ∃ x, cs[j]? = some x ∧ Yiu lf x := by
 have : ∃ cs : Array Value, v = .agg cs ∧ cs.size = P.cellsOf t := by
  unfold isAggB at ha
  unfold Value.okWide at hv
  split at ha
  ·rename_i hu; rw [hu] at hv; obtain ⟨cs, h1, h2, _⟩ := hv; exact ⟨cs, h1, h2⟩
  ·rename_i hu; rw [hu] at hv; obtain ⟨cs, h1, h2, _⟩ := hv; exact ⟨cs, h1, h2⟩
  ·cases ha
 obtain ⟨cs, rfl, hs⟩ := this
 refine ⟨cs, rfl, hs, fun n j lf hl => ?_⟩
 obtain ⟨fuel, hf⟩ := h
 obtain ⟨x, hx, hxl⟩ := Yei n t fuel _ _ j lf hf hl
 have e : (Value.agg cs).cells = cs := rfl
 exact ⟨x, by rw [e, Array.getElem?_toList] at hx; exact hx, hxl⟩
end
end
theorem Upd.of_grown {w w' : World} {row : Option Nat} (h : w.grownBy w' row) : Upd row.toList w w' :=
 ⟨h.os, h.tape, h.output, h.size, fun k hk hn => h.block k hk (fun e => hn (by rw [← e]; simp))⟩
theorem Yi2 {w : World} {base e size : Nat} {v : Value} {n : Nat} {xs : List Value} (h : w.ownsRow base e size v n xs) : ∃ b c, v = .slice b n c := by
 obtain ⟨_, ⟨h1, h2⟩ | ⟨g, cap, cur, h1, _⟩⟩ := h
 ·exact ⟨none, 0, by rw [h1, h2]⟩
 ·exact ⟨_, _, h1⟩
def BySl (w : World) (v : Value) (l : List Int) (g : Nat) : Prop :=
 (v = .slice none 0 0 ∧ l = []) ∨ ∃ o c C T f, v = .slice (some ⟨g, o, none⟩) l.length c ∧ w.heap[g]? = some (.cells C T f) ∧ ∀ i, i < l.length → C[o + i]? = some (.int .u8 (l.getD i 0))
theorem BySl.form {w : World} {v : Value} {l : List Int} {g : Nat} (h : BySl w v l g) : ∃ b c, v = .slice b l.length c := by
 rcases h with ⟨h1, h2⟩ | ⟨o, c, _, _, _, h1, _⟩
 ·exact ⟨none, 0, by rw [h1, h2]; rfl⟩
 ·exact ⟨_, _, h1⟩
theorem BySl.keep {w w' : World} {v : Value} {l : List Int} {g : Nat} {S : List Nat} (h : BySl w v l g) (u : Upd S w w') (hg : g ∉ S) : BySl w' v l g := by
 rcases h with h | ⟨o, c, C, T, f, h1, h2, h3⟩
 ·exact .inl h
 ·exact .inr ⟨o, c, C, T, f, h1, u.get h2 hg, h3⟩
theorem ret_of {v : Value} {v' : Value} (h : v = v') : Ending.returned v = .returned v' := by rw [h]
structure Yi (w : World) (a pb : Nat) (M : Mem) : Prop where
 hd : ∃ c, 64 ≤ c ∧ w.heap[a]? = some (.cells #[.slice (some ⟨pb, 0, none⟩) 64 c] 51 (0, 0))
 pg : ∃ C, Ycf C M ∧ w.heap[pb]? = some (.cells C 132 (0, 0))
 ok : M.Ok
theorem Yi.ne {w : World} {a pb : Nat} {M : Mem} (h : Yi w a pb M) : a ≠ pb := by
 intro e; subst e
 obtain ⟨c, _, h1⟩ := h.hd
 obtain ⟨C, h2, h3⟩ := h.pg
 have := h1.symm.trans h3
 simp only [Option.some.injEq, Obj.cells.injEq] at this
 have h4 := h2.size
 rw [← this.1] at h4
 simp at h4
theorem Yi.al {w : World} {a pb : Nat} {M : Mem} (h : Yi w a pb M) : a < w.heap.size := by
 obtain ⟨c, _, h1⟩ := h.hd; exact Yr h1
theorem Yi.pl {w : World} {a pb : Nat} {M : Mem} (h : Yi w a pb M) : pb < w.heap.size := by
 obtain ⟨c, _, h1⟩ := h.pg; exact Yr h1
theorem Yi.keep {w w' : World} {a pb : Nat} {M : Mem} {S : List Nat} (h : Yi w a pb M) (u : Upd S w w') (ha : a ∉ S) (hp : pb ∉ S) : Yi w' a pb M := by
 obtain ⟨c, h0, h1⟩ := h.hd
 obtain ⟨C, h2, h3⟩ := h.pg
 exact ⟨⟨c, h0, u.get h1 ha⟩, ⟨C, h2, u.get h3 hp⟩, h.ok⟩
theorem Yi.drew {w : World} {a pb : Nat} {M : Mem} (h : Yi w a pb M) : Yi w.drew a pb M := ⟨h.hd, h.pg, h.ok⟩
theorem Yi.c0 {w : World} {a pb : Nat} {M : Mem} (h : Yi w a pb M) : ∃ c : Nat, 64 ≤ (c : Int) ∧ w.cell? ⟨a, 0, none⟩ = some (.slice (some ⟨pb, 0, none⟩) 64 c) := by
 obtain ⟨c, h0, h1⟩ := h.hd
 exact ⟨c, by omega, by rw [Ya h1]; rfl⟩
theorem Yi.cR {w : World} {a pb : Nat} {M : Mem} (h : Yi w a pb M) (p : Nat) (hp : p < 64) : w.cell? ⟨pb, p * 257, none⟩ = some (.int .i64 (M.R p)) := by
 obtain ⟨C, h2, h3⟩ := h.pg
 rw [Ya h3, h2.R p hp]
theorem Yi.cB {w : World} {a pb : Nat} {M : Mem} (h : Yi w a pb M) (p o : Nat) (hp : p < 64) (ho : o < 256) : w.cell? ⟨pb, p * 257 + 1 + o, none⟩ = some (.int .u8 (M.B (p * 256 + o))) := by
 obtain ⟨C, h2, h3⟩ := h.pg
 rw [Ya h3, h2.B p o hp ho]
theorem Yi.free {w : World} {a pb : Nat} {M : Mem} (h : Yi w a pb M) (o : Nat) : w.frozen? ⟨pb, o, none⟩ = false := by
 obtain ⟨C, h2, h3⟩ := h.pg
 exact Yc h3 o
theorem Yi.set {w : World} {a pb : Nat} {M M' : Mem} (h : Yi w a pb M) (i : Nat) (v : Value) (hi : i < 16448) (e : M.cells.setIfInBounds i v = M'.cells) (hok : M'.Ok) : Yi (w.setCell ⟨pb, i, none⟩ v) a pb M' := by
 obtain ⟨c, h0, h1⟩ := h.hd
 obtain ⟨C, h2, h3⟩ := h.pg
 exact ⟨⟨c, h0, Yd _ h.ne h1⟩, ⟨_, h2.set i v hi e, Yf h3 i v⟩, hok⟩
theorem Yi.wr {w : World} {a pb : Nat} {M M' : Mem} (h : Yi w a pb M) (o : Nat) (vs : List Value) (ho : o + vs.length ≤ 16448) (e : Go.Proofs.YtjkolegknpflfaaDoor.wr M.cells o vs = M'.cells) (hok : M'.Ok) : Yi (w.setCells pb o vs) a pb M' := by
 obtain ⟨c, h0, h1⟩ := h.hd
 obtain ⟨C, h2, h3⟩ := h.pg
 exact ⟨⟨c, h0, by rw [Yfg h.ne]; exact h1⟩, ⟨_, h2.wr o vs ho e, Yad _ _ _ _ h3⟩, hok⟩
theorem Yi.there {w : World} {a pb : Nat} {M : Mem} (h : Yi w a pb M) (o n : Nat) (hn : o + n ≤ 16448) : w.there pb o n := by
 obtain ⟨C, h2, h3⟩ := h.pg
 exact Ycu h3 o n (by have := h2.size; omega)
def rightsB (r : Int) : Bool := decide (1 ≤ r) && decide (r ≤ 7)
def Yap (n : Int) : Int := if n = 1 ∨ n = 2 then n else 4
theorem Yek (n : Int) (w : World) :
  Calls Tryd.prog 56 #[.int .i64 n] w fun e w' => e = .returned (.int .i64 (Yap n)) ∧ w = w' := by
 by_cases h1 : n = 1
 ·subst h1
  go_enter Tryd.func56, Tryd.ntmps56
  go_wp2
  go_ret
  exact ⟨rfl, rfl⟩
 ·by_cases h2 : n = 2
  ·subst h2
   go_enter Tryd.func56, Tryd.ntmps56
   go_wp2
   go_ret
   exact ⟨rfl, rfl⟩
  ·have e1 : (n == 1) = false := by simpa using h1
   have e2 : (n == 2) = false := by simpa using h2
   go_enter Tryd.func56, Tryd.ntmps56
   go_wp2
   go_ret
   refine ⟨?_, rfl⟩
   simp [Yap, h1, h2]
def rowB (at_ n : Int) : Bool := decide (0 ≤ at_) && (decide (1 ≤ n) && (decide (n ≤ 64) && decide (at_ ≤ 64 - n)))
def Mem.rights (M : Mem) (p : Int) : Int := if p < 0 ∨ 64 ≤ p then 0 else M.R p.toNat
def Mem.can (M : Mem) (a right : Int) : Bool := decide (a < 16384) && !(bits .and .i64 (M.R (a / 256).toNat) right == 0)
def Ycb (a : Int) : Nat := (a / 256).toNat * 257 + 1 + (a % 256).toNat
theorem at_ok (a pb : Nat) (x right : Int) (w : World) (M : Mem) (hM : Yi w a pb M) (h0 : 0 ≤ x) (h : M.can x right = true) :
  Calls Tryd.prog 57 #[.pointer (some ⟨a, 0, none⟩), .int .u32 x, .int .i64 right] w fun e w' => e = .returned (.pointer (some ⟨pb, Ycb x, none⟩)) ∧ w = w' := by
 simp only [Mem.can, Bool.and_eq_true, decide_eq_true_eq, Bool.not_eq_true'] at h
 obtain ⟨h1, h2⟩ := h
 obtain ⟨c, hc, c0⟩ := hM.c0
 have cR := hM.cR (x / 256).toNat (by omega)
 clear hM
 go_enter Tryd.func57, Tryd.ntmps57
 go_wp2
 go_ret
 exact ⟨rfl, rfl⟩
def Ybb (x right : Int) : Value := .agg #[.int .i64 1, .int .u32 0, .int .u32 x, .int .i64 right]
theorem Yg6 (a pb : Nat) (x right : Int) (w : World) (M : Mem) (hM : Yi w a pb M) (h0 : 0 ≤ x) (h : M.can x right = false) :
  Calls Tryd.prog 57 #[.pointer (some ⟨a, 0, none⟩), .int .u32 x, .int .i64 right] w fun e w' => e = .panicked [{ v := .iface 37 (Ybb x right), recovered := false }] ∧ w = w' := by
 by_cases h1 : 16384 ≤ x
 ·clear hM h
  go_enter Tryd.func57, Tryd.ntmps57
  go_wp2
  exact ⟨rfl, rfl, rfl⟩
 ·have h2 : (bits .and .i64 (M.R (x / 256).toNat) right == 0) = true := by
   simpa [Mem.can, show x < 16384 by omega] using h
  obtain ⟨c, hc, c0⟩ := hM.c0
  have cR := hM.cR (x / 256).toNat (by omega)
  clear hM h
  go_enter Tryd.func57, Tryd.ntmps57
  go_wp2
  exact ⟨rfl, rfl, rfl⟩
def Ybj : Array Value := #[Value.int .i64 0] ++ Array.replicate 256 (Value.int .u8 0)
theorem Yfd : Ybj.size = 257 := by simp [Ybj]
theorem Ylk : Tryd.t132.zero = some (.agg Ybj) := by kernel_rfl
theorem Yjg (k : Nat) : Ybj[k % Ybj.size]! = Mem.zero.at_ k := by
 have hm := Nat.mod_lt k (show 257 > 0 by decide)
 rw [Yfd, getElem!_pos _ _ (by rw [Yfd]; exact hm)]
 by_cases e : k % 257 = 0
 ·simp [e, Mem.at_, Mem.zero, Ybj]
 ·simp only [Mem.at_, e, if_false, Mem.zero, Ybj]
  rw [Array.getElem_append_right (by simp; omega)]
  simp
theorem Yk8 (n : Nat) (hn : n = 16448) : madeCells Ybj n = Mem.zero.cells := by
 have h : madeCells Ybj n = (Array.range n).map Mem.zero.at_ := congrArg (fun f => (Array.range n).map f) (funext Yjg)
 rw [h, hn, Mem.cells]
theorem Yk2 : Tryd.prog.info? 132 = some Tryd.t132 := by kernel_rfl
theorem Yhz (w : World) : (Instr.makeSlice 49 (.int .i64 64) (.int .i64 64)).run Tryd.prog w = .ok (.slice (some ⟨w.heap.size, 0, none⟩) 64 64) (w.alloc (.cells Mem.zero.cells 132 (0, 0))) := by
 have h := run_make (P := Tryd.prog) w 49 132 Tryd.t132 (.agg Ybj) Tryd.underlying49 Yk2 Ylk .i64 .i64 64 64 (by decide) (by decide) (by decide) (by decide)
 have hz : (Value.agg Ybj).cells = Ybj := rfl
 rw [hz, Yk8 _ (by decide)] at h
 exact h
theorem Yj7 (w : World) :
  Calls Tryd.prog 9 #[] w fun e w' => ∃ a pb, e = .returned (.pointer (some ⟨a, 0, none⟩)) ∧ w.heap.size ≤ a ∧ w.heap.size ≤ pb ∧ Yi w' a pb Mem.zero ∧ Upd [] w w' := by
 have hmk := Yhz
 go_enter Tryd.func9, Tryd.ntmps9
 go_wp2
 go_ret
 refine ⟨w.heap.size + 1, w.heap.size, rfl, ?_, ?_, ?_, ?_⟩
 ·omega
 ·omega
 ·exact ⟨⟨64, Nat.le_refl _, heap_alloc2_new _ _ _⟩, ⟨_, Ycf.cells _, heap_alloc2_old _ _ _⟩, Mem.zero_ok⟩
 ·exact ((Upd.refl _ _).alloc _).alloc _
def Mem.odd (M : Mem) (mapped : Bool) (p : Nat) : Bool := (M.R p != 0) != mapped
def Mem.all (M : Mem) (at_ n : Int) (mapped : Bool) : Bool :=
 rowB at_ n && !((List.range n.toNat).any (fun i => M.odd mapped (at_.toNat + i)))
def Mem.mapN (M : Mem) (p k : Nat) (r : Int) : Mem :=
 ⟨fun q => if p ≤ q ∧ q < p + k then r else M.R q, fun x => if p ≤ x / 256 ∧ x / 256 < p + k then 0 else M.B x⟩
def Mem.mapB (M : Mem) (at_ n r : Int) : Bool := rightsB r && M.all at_ n false
end Go.Proofs.YtjkolegknpflfaaDoor
