/-
  What a function tells, where a result lies in memory: one, two, three results, each by its own reading. No condition.
-/
import Derived.Test.YtdgclmibbmofcaaMg01
import Derived.WalkKit
import Derived.Deep.MidRow
import Derived.Test.YtdgclmibbmofcaaRows
import Derived.Laws.BitsAllLaws
import Derived.WalkLawsBesides
import Derived.Lib.Hide
import Derived.Laws.IdiomCopy
import Derived.Test.YtdgclmibbmofcaaMg03
import Derived.Lib.SliceRun
import Derived.ChangeSlices
import Derived.Maps.OwnSet
import Derived.Maps.OwnOps
import Derived.Deep.QuietTactic
import Derived.BigQuiet
import Derived.Laws.IdiomStrings
import Derived.Outline
namespace Go.Proofs.Ytdgclmibbmofcaa
open Go Go.RowKit
set_option linter.unusedVariables false
set_option linter.unusedSimpArgs false

def resRun (tmps : Array Value) : ResultVar → Sem Value
  | .tmp t => pure (tmps.getD t undef)
  | .cell a t => do loadVar t (← asAddr (tmps.getD a undef))

theorem results_eq (fn : Func) (tmps : Array Value) : results fn tmps = (do
    let vs ← fn.results.mapM (resRun tmps)
    pure (if h : vs.size = 1 then vs[0] else .tuple vs)) := by
  unfold results
  congr 1

section
variable {P : Program} {fn : Func} {tmps : Array Value} {w : World} {r0 r1 r2 : ResultVar} {v0 v1 v2 : Value}

theorem results_one' (h : fn.results = #[r0]) (h0 : (resRun tmps r0).run P w = .ok v0 w) : (results fn tmps).run P w = .ok v0 w := by
  rw [results_eq, h]
  simp [Sem.run_bind, h0]

theorem results_two' (h : fn.results = #[r0, r1]) (h0 : (resRun tmps r0).run P w = .ok v0 w) (h1 : (resRun tmps r1).run P w = .ok v1 w) : (results fn tmps).run P w = .ok (.tuple #[v0, v1]) w := by
  rw [results_eq, h]
  simp [Sem.run_bind, h0, h1]

theorem results_three' (h : fn.results = #[r0, r1, r2]) (h0 : (resRun tmps r0).run P w = .ok v0 w) (h1 : (resRun tmps r1).run P w = .ok v1 w) (h2 : (resRun tmps r2).run P w = .ok v2 w) : (results fn tmps).run P w = .ok (.tuple #[v0, v1, v2]) w := by
  rw [results_eq, h]
  simp [Sem.run_bind, h0, h1, h2]

theorem res_tmp (t : Tmp) (h : tmps.getD t undef = v0) : (resRun tmps (.tmp t)).run P w = .ok v0 w := by
  simp only [resRun, Sem.run_pure, h]

theorem res_row (a : Tmp) (ty : TypeId) (b : Nat) (cs : Array Value) {t : TypeId} {f : Nat × Nat} (d : TypeDesc) (ha : tmps.getD a undef = .pointer (some ⟨b, 0, none⟩)) (hb : w.heap[b]? = some (.cells cs t f))
    (hu : P.underlying ty = some d) (hd : d.isRow = true) (hi : (P.info? ty).map (·.size) = some cs.size) : (resRun tmps (.cell a ty)).run P w = .ok (.agg cs) w := by
  have h := run_loadVar_mid (P := P) w b 0 ty cs.toList d (range_whole hb) hu hd (by rw [Array.length_toList]; exact hi)
  rw [Array.toArray_toList] at h
  simp only [resRun, Sem.run_bind, ha]
  simp [asAddr, h]

end

/-- Stands the walk at a store, at a load of this type? (A guard for an arm: it fails at once elsewhere.) -/
theorem at_store {P : Program} {ops : Array Oper} {rest : List Oper} {op : Oper} {a : Act} {w : World} {Q : Exit → Act → World → Prop} (ty : TypeId) {x y : Operand} (ho : op.op = .store ty x y) (h : wpList P ops Q (op :: rest) a w) : wpList P ops Q (op :: rest) a w := h
theorem at_load {P : Program} {ops : Array Oper} {rest : List Oper} {op : Oper} {a : Act} {w : World} {Q : Exit → Act → World → Prop} (ty : TypeId) {x : Operand} (ho : op.op = .load ty x) (h : wpList P ops Q (op :: rest) a w) : wpList P ops Q (op :: rest) a w := h

end Go.Proofs.Ytdgclmibbmofcaa

/-
  Operands and instructions as plain data. No condition.
-/
namespace Go.Proofs.Ytdgclmibbmofcaa
open Go Go.RowKit
set_option linter.unusedVariables false

structure Opd where
  k : Int
  r : Int
  imm : Int
  b : Int
  x : Int
  sc : Int

structure Opd.Ok (o : Opd) : Prop where
  imm : 0 ≤ o.imm ∧ o.imm < 4294967296
  sc : 0 ≤ o.sc ∧ o.sc < 4294967296

def Opd.val (o : Opd) : Value := .agg #[.int .i64 o.k, .int .i64 o.r, .int .u32 o.imm, .int .i64 o.b, .int .i64 o.x, .int .u32 o.sc]

theorem Opd.ext' {a b : Opd} (h1 : a.k = b.k) (h2 : a.r = b.r) (h3 : a.imm = b.imm) (h4 : a.b = b.b) (h5 : a.x = b.x) (h6 : a.sc = b.sc) : a = b := by
  cases a; cases b; simp_all

def Opd.none : Opd := ⟨0, 0, 0, 0, 0, 0⟩
/-- An instruction: its operation, its condition, both operands, whether it is repeated, its bytes. -/
structure Ins where
  op : Int
  cond : Int
  a : Opd
  b : Opd
  rep : Bool
  len : Int

def Ins.zero : Ins := ⟨0, 0, Opd.none, Opd.none, false, 0⟩

def Ins.cells (i : Ins) : Array Value := #[.int .i64 i.op, .int .i64 i.cond,
  .int .i64 i.a.k, .int .i64 i.a.r, .int .u32 i.a.imm, .int .i64 i.a.b, .int .i64 i.a.x, .int .u32 i.a.sc,
  .int .i64 i.b.k, .int .i64 i.b.r, .int .u32 i.b.imm, .int .i64 i.b.b, .int .i64 i.b.x, .int .u32 i.b.sc,
  .bool i.rep, .int .i64 i.len]

theorem Ins.size (i : Ins) : i.cells.size = 16 := rfl
theorem Ins.one (i : Ins) : i.cells.all (·.oneCell') = true := by simp [Ins.cells, Value.oneCell']

end Go.Proofs.Ytdgclmibbmofcaa

/-
  The guest's state and operands as plain data, how they lie in cells; the small functions of packages bits, state and operand, each by its contract.
-/
namespace Go.Proofs.Ytdgclmibbmofcaa
open Go Go.RowKit
set_option linter.unusedVariables false
set_option linter.unusedSimpArgs false

/-! ### The state -/
structure St where
  R : Nat → Int
  pc : Int
  cf : Bool
  pf : Bool
  af : Bool
  zf : Bool
  sf : Bool
  of_ : Bool
  df : Bool
  f : Int

structure St.Ok (s : St) : Prop where
  R : ∀ i, 0 ≤ s.R i ∧ s.R i < 4294967296
  pc : 0 ≤ s.pc ∧ s.pc < 4294967296
  f : 0 ≤ s.f ∧ s.f < 18446744073709551616

def St.cells (s : St) : Array Value := #[.int .u32 (s.R 0), .int .u32 (s.R 1), .int .u32 (s.R 2), .int .u32 (s.R 3), .int .u32 (s.R 4), .int .u32 (s.R 5), .int .u32 (s.R 6), .int .u32 (s.R 7), .int .u32 s.pc,
  .bool s.cf, .bool s.pf, .bool s.af, .bool s.zf, .bool s.sf, .bool s.of_, .bool s.df, .int .u64 s.f]

def St.setR (s : St) (i : Nat) (v : Int) : St := { s with R := fun j => if j = i then v else s.R j }

def St.zero : St := ⟨fun _ => 0, 0, false, false, false, false, false, false, false, 0⟩

theorem St.zero_ok : St.zero.Ok := ⟨fun _ => by simp [St.zero], by simp [St.zero], by simp [St.zero]⟩

theorem St.setR_ok {s : St} (h : s.Ok) (i : Nat) {v : Int} (h0 : 0 ≤ v) (h1 : v < 4294967296) : (s.setR i v).Ok :=
  ⟨fun j => by simp only [St.setR]; split; exact ⟨h0, h1⟩; exact h.R j, h.pc, h.f⟩

theorem St.size (s : St) : s.cells.size = 17 := rfl

theorem St.cR (s : St) (i : Nat) (h : i < 8) : s.cells[i]? = some (.int .u32 (s.R i)) := by
  match i, h with
  | 0, _ => rfl
  | 1, _ => rfl
  | 2, _ => rfl
  | 3, _ => rfl
  | 4, _ => rfl
  | 5, _ => rfl
  | 6, _ => rfl
  | 7, _ => rfl

theorem St.cells_setR (s : St) (i : Nat) (v : Int) (h : i < 8) : s.cells.setIfInBounds i (.int .u32 v) = (s.setR i v).cells := by
  match i, h with
  | 0, _ => rfl
  | 1, _ => rfl
  | 2, _ => rfl
  | 3, _ => rfl
  | 4, _ => rfl
  | 5, _ => rfl
  | 6, _ => rfl
  | 7, _ => rfl

theorem St.one (s : St) : s.cells.all (·.oneCell') = true := by simp [St.cells, Value.oneCell']

theorem state_info : (Try.prog.info? 39).map (·.size) = some 17 := by kernel_rfl

/-- A register; of none 0. -/
def St.reg (s : St) (r : Int) : Int := if r = -1 then 0 else s.R (r % 8).toNat

/-- A state read whole out of its variable. -/
theorem wp_load_state {op : Oper} {a : Act} {w : World} {K : Act → World → Prop} {Q : Exit → Act → World → Prop} (s : St) (b : Nat) (x : Operand) (ho : op.op = .load 39 x) (hx : a.eval x = .pointer (some ⟨b, 0, none⟩))
    (hb : w.heap[b]? = some (.cells s.cells 39 (0, 0))) (hK : K (a.put op.dst (.agg s.cells)) w) : op.wp Try.prog a w K Q :=
  wp_load_mid 39 x ho b 0 hx s.cells.toList _ (range_whole hb) Try.underlying39 rfl (by rw [Array.length_toList, St.size]; exact state_info) (by rw [Array.toArray_toList]; exact hK)

theorem wpList_load_state {ops : Array Oper} {rest : List Oper} {op : Oper} {a : Act} {w : World} {Q : Exit → Act → World → Prop} (s : St) (b : Nat) (hgd : op.guard = none) (x : Operand) (ho : op.op = .load 39 x) (hx : a.eval x = .pointer (some ⟨b, 0, none⟩))
    (hb : w.heap[b]? = some (.cells s.cells 39 (0, 0))) (h : wpList Try.prog ops Q rest (a.put op.dst (.agg s.cells)) w) : wpList Try.prog ops Q (op :: rest) a w :=
  wpList_plain hgd fun _ hK => wp_load_state s b x ho hx hb (hK _ _ h)

/-- A state stored whole into its variable. -/
theorem wpList_store_state {ops : Array Oper} {rest : List Oper} {op : Oper} {a : Act} {w : World} {Q : Exit → Act → World → Prop} (s : St) (b : Nat) (hgd : op.guard = none) (x y : Operand) (ho : op.op = .store 39 x y) (hx : a.eval x = .pointer (some ⟨b, 0, none⟩)) (hy : a.eval y = .agg s.cells)
    {c : Array Value} (hb : w.heap[b]? = some (.cells c 39 (0, 0))) (hc : c.size = 17) (h : wpList Try.prog ops Q rest (a.put op.dst undef) (w.setCells b 0 s.cells.toList)) : wpList Try.prog ops Q (op :: rest) a w :=
  wpList_store_arr hgd 39 x y ho b 0 s.cells hx hy hb (by rw [hc, St.size]; exact Nat.le_refl _) (by rw [St.size]; exact state_info) s.one h

theorem wpList_store_state' {ops : Array Oper} {rest : List Oper} {op : Oper} {a : Act} {w : World} {Q : Exit → Act → World → Prop} (s : St) (b : Nat) (hgd : op.guard = none) (x y : Operand) (ho : op.op = .store 39 x y) (hx : a.eval x = .pointer (some ⟨b, 0, none⟩)) (hy : a.eval y = .agg s.cells)
    {c : Array Value} (hb : w.heap[b]? = some (.cells c 39 (0, 0))) (hc : c.size = 17) (h : ∀ w', w.setCells b 0 s.cells.toList = w' → wpList Try.prog ops Q rest (a.put op.dst undef) w') : wpList Try.prog ops Q (op :: rest) a w :=
  wpList_store_state s b hgd x y ho hx hy hb hc (h _ rfl)

theorem wr_state (c : Array Value) (s : St) (hc : c.size = 17) : wr c 0 s.cells.toList = s.cells := by
  apply Array.ext_getElem?
  intro k
  have hl : s.cells.toList.length = 17 := rfl
  rw [wr_get _ _ _ _ (by rw [hl, hc]; exact Nat.le_refl _), hl]
  by_cases h : k < 17
  · rw [if_pos (by omega), Nat.sub_zero, Array.getElem?_toList]
  · rw [if_neg (by omega), Array.getElem?_eq_none (by omega), Array.getElem?_eq_none (by rw [St.size]; omega)]

/-- What a store of a whole state leaves. -/
theorem heap_store_state {w : World} {b : Nat} {c : Array Value} (s : St) (hb : w.heap[b]? = some (.cells c 39 (0, 0))) (hc : c.size = 17) : (w.setCells b 0 s.cells.toList).heap[b]? = some (.cells s.cells 39 (0, 0)) := by
  rw [heap_setCells_same _ _ _ _ hb, wr_state c s hc]

end Go.Proofs.Ytdgclmibbmofcaa

/-
  Structs held against one another, field by field; the guest's states. No condition.
-/
namespace Go.Proofs.Ytdgclmibbmofcaa
open Go Go.RowKit
set_option linter.unusedVariables false
set_option linter.unusedSimpArgs false

def St.eqB (s t : St) : Bool := (((List.range 8).all fun i => s.R i == t.R i) && ((s.pc == t.pc) && ((((s.cf == t.cf) && ((s.pf == t.pf) && ((s.af == t.af) && ((s.zf == t.zf) && ((s.sf == t.sf) && ((s.of_ == t.of_) && true))))))) && ((s.df == t.df) && ((s.f == t.f) && true)))))

theorem St.eqB_self (s : St) : s.eqB s = true := by simp [St.eqB]

def flagsOf (s : St) : Array Value := #[.bool s.cf, .bool s.pf, .bool s.af, .bool s.zf, .bool s.sf, .bool s.of_]

theorem run_equalIn_flags (s t : St) (w : World) (d : Nat) : (Op.equalIn (d + 1 + 1) 36 (.agg (flagsOf s)) (.agg (flagsOf t))).run Try.prog w = .ok ((s.cf == t.cf) && ((s.pf == t.pf) && ((s.af == t.af) && ((s.zf == t.zf) && ((s.sf == t.sf) && ((s.of_ == t.of_) && true)))))) w := by
  have hf : Try.prog.fieldsOf 36 = #[{ name := "CF", type := 4, offset := 0, embedded := false, tag := "", pkgPath := "", byteOffset := 0 }, { name := "PF", type := 4, offset := 1, embedded := false, tag := "", pkgPath := "", byteOffset := 1 },
    { name := "AF", type := 4, offset := 2, embedded := false, tag := "", pkgPath := "", byteOffset := 2 }, { name := "ZF", type := 4, offset := 3, embedded := false, tag := "", pkgPath := "", byteOffset := 3 },
    { name := "SF", type := 4, offset := 4, embedded := false, tag := "", pkgPath := "", byteOffset := 4 }, { name := "OF", type := 4, offset := 5, embedded := false, tag := "", pkgPath := "", byteOffset := 5 }] := by kernel_rfl
  have hu : Try.prog.underlying 36 = some (.struct (Try.prog.fieldsOf 36)) := by kernel_rfl
  have hp : Try.prog.plainKey 4 = true := by kernel_rfl
  have hb := fun (a b : Bool) => run_equalIn_bool (P := Try.prog) w d 4 a b Try.underlying4
  rw [run_equalIn_struct w _ 36 _ _ hu (Try.stoodInHeld36), hf]
  exact eqFields_cons (by decide) (run_part_plain w hp rfl) (run_part_plain w hp rfl) (hb _ _) (eqFields_cons (by decide) (run_part_plain w hp rfl) (run_part_plain w hp rfl) (hb _ _) (eqFields_cons (by decide) (run_part_plain w hp rfl) (run_part_plain w hp rfl) (hb _ _) (eqFields_cons (by decide) (run_part_plain w hp rfl) (run_part_plain w hp rfl) (hb _ _) (eqFields_cons (by decide) (run_part_plain w hp rfl) (run_part_plain w hp rfl) (hb _ _) (eqFields_cons (by decide) (run_part_plain w hp rfl) (run_part_plain w hp rfl) (hb _ _) eqFields_nil)))))

theorem run_equalIn_state (s t : St) (w : World) (d : Nat) : (Op.equalIn (d + 1 + 1 + 1) 39 (.agg s.cells) (.agg t.cells)).run Try.prog w = .ok (s.eqB t) w := by
  have hf : Try.prog.fieldsOf 39 = #[{ name := "R", type := 34, offset := 0, embedded := false, tag := "", pkgPath := "", byteOffset := 0 }, { name := "PC", type := 33, offset := 8, embedded := false, tag := "", pkgPath := "", byteOffset := 32 },
    { name := "Fl", type := 36, offset := 9, embedded := false, tag := "", pkgPath := "", byteOffset := 36 }, { name := "DF", type := 4, offset := 15, embedded := false, tag := "", pkgPath := "", byteOffset := 42 }, { name := "F", type := 37, offset := 16, embedded := false, tag := "", pkgPath := "", byteOffset := 48 }] := by kernel_rfl
  have hu : Try.prog.underlying 39 = some (.struct (Try.prog.fieldsOf 39)) := by kernel_rfl
  have hpB : Try.prog.plainKey 4 = true := by kernel_rfl
  have hp32 : Try.prog.plainKey 33 = true := by kernel_rfl
  have hp64 : Try.prog.plainKey 37 = true := by kernel_rfl
  have hc : Try.prog.cellsOf 33 = 1 := by kernel_rfl
  have hpR := fun xs : Array Value => part_range (P := Try.prog) (xs := xs) (t := 34) (i := Try.t34) (n := 8) (off := 0) w (Try.isAgg34 w) (by kernel_rfl) (by kernel_rfl)
  have hpF := fun xs : Array Value => part_range (P := Try.prog) (xs := xs) (t := 36) (i := Try.t36) (n := 6) (off := 9) w (Try.isAgg36 w) (by kernel_rfl) (by kernel_rfl)
  have eF : ∀ s : St, s.cells.extract 9 (9 + 6) = flagsOf s := fun s => by simp [St.cells, flagsOf]
  have hR : (Op.equalIn (d + 1 + 1) 34 (.agg (s.cells.extract 0 (0 + 8))) (.agg (t.cells.extract 0 (0 + 8)))).run Try.prog w = .ok ((List.range 8).all fun i => s.R i == t.R i) w := by
    rw [run_equalIn_array w (d + 1) (i := Try.t33) _ _ Try.underlying34 (by kernel_rfl), hc]
    have e : ∀ (s : St) i, i < 8 → (s.cells.extract 0 (0 + 8))[i]? = some (.int .u32 (s.R i)) := fun s i hi => by
      rw [Array.getElem?_extract, if_pos (by rw [St.size]; omega), Nat.zero_add, St.cR s i hi]
    exact eqItems_int w d Try.underlying33 _ _ _ _ _ (fun i hi => ⟨e s i (List.mem_range.1 hi), e t i (List.mem_range.1 hi)⟩)
  have hF := run_equalIn_flags s t w d
  rw [← eF s, ← eF t] at hF
  rw [run_equalIn_struct w _ 39 _ _ hu (Try.stoodInHeld39), hf]
  exact eqFields_cons (by decide) (hpR _) (hpR _) hR (eqFields_cons (by decide) (run_part_plain w hp32 rfl) (run_part_plain w hp32 rfl) (run_equalIn_int w _ 33 .u32 .u32 _ _ Try.underlying33)
    (eqFields_cons (by decide) (hpF _) (hpF _) hF (eqFields_cons (by decide) (run_part_plain w hpB rfl) (run_part_plain w hpB rfl) (run_equalIn_bool w _ 4 _ _ Try.underlying4)
    (eqFields_cons (by decide) (run_part_plain w hp64 rfl) (run_part_plain w hp64 rfl) (run_equalIn_int w _ 37 .u64 .u64 _ _ Try.underlying37) eqFields_nil))))

end Go.Proofs.Ytdgclmibbmofcaa

/-
  Package page: Copy (slices.Clone), by its contract.
-/
namespace Go.Proofs.Ytdgclmibbmofcaa
open Go Go.RowKit
set_option linter.unusedVariables false
set_option linter.unusedSimpArgs false

theorem run_buildNone (w : World) : (Instr.buildSlice 71 0 #[]).run Try.prog w = .ok (.slice (some ⟨w.heap.size, 0, none⟩) 0 0) (w.alloc (.cells #[] 108)) := by
  simp [Instr.buildSlice, run_underlying Try.underlying71, sizeOf, typeInfo, zeroValue, info_page, page_zero, newRow, Instr.fill]
  exact congrArg (fun x => w.alloc (.cells x 108)) (by simp)

/-- A slice literal without items. -/
theorem wpList_buildNone {ops : Array Oper} {rest : List Oper} {op : Oper} {a : Act} {w : World} {Q : Exit → Act → World → Prop} (hgd : op.guard = none) (ho : op.op = .buildSlice 71 0 #[])
    (h : wpList Try.prog ops Q rest (a.put op.dst (.slice (some ⟨w.heap.size, 0, none⟩) 0 0)) (w.alloc (.cells #[] 108))) : wpList Try.prog ops Q (op :: rest) a w :=
  wpList_plain hgd fun _ hK => by
    unfold Oper.wp execOp
    simp only [ho, Array.map_empty, Sem.run_bind, run_buildNone, Result.andThen_ok, Sem.run_pure]
    exact hK _ _ h

theorem page_list (w : World) {a pb : Nat} {M : Mem} (hM : IsMem w a pb M) : ∀ j u, M.cells.toList[j]? = some u → w.cell? ((⟨pb, 0, none⟩ : Addr).add j) = some u := by
  intro j u hu
  obtain ⟨C, hC, hb⟩ := hM.pg
  have hj : j < 16448 := by
    by_cases h : j < 16448
    · exact h
    · rw [List.getElem?_eq_none (by rw [Array.length_toList, Mem.size_cells]; omega)] at hu; cases hu
  have e : (⟨pb, 0, none⟩ : Addr).add j = ⟨pb, j, none⟩ := by
    rcases j with _ | j <;> simp [Addr.add]
  rw [e, cells_of hb, hC.get j hj, ← hu, Array.getElem?_toList, Mem.getElem?_cells _ _ hj]

theorem cells_oneCell (M : Mem) : ∀ u ∈ M.cells.toList, u.oneCell' = true := by
  intro u hu
  rw [Array.mem_toList_iff, Mem.cells, Array.mem_map] at hu
  obtain ⟨k, _, rfl⟩ := hu
  rw [Mem.at_]; split <;> rfl

theorem owns_holds {w : World} {base : Nat} {v : Value} {M : Mem} (h : w.ownsRow base 108 257 v (0 + 64) M.cells.toList) : ∃ g c C, v = .slice (some ⟨g, 0, none⟩) 64 c ∧ 64 ≤ c ∧ base ≤ g ∧ Holds C M ∧ w.heap[g]? = some (.cells C 108 (0, 0)) := by
  obtain ⟨_, ⟨_, h2⟩ | ⟨g, cap, cur, h1, h2, h3, h4, h5, h6, h7⟩⟩ := h
  · cases h2
  · refine ⟨g, cap, cur, h1, h4, h2, ⟨by rw [h6]; omega, fun k hk => ?_⟩, h3⟩
    have : (cur.toList.take (64 * 257))[k]? = some (M.at_ k) := by rw [h7, Array.getElem?_toList, Mem.getElem?_cells _ _ hk]
    rw [List.getElem?_take, if_pos (by omega), Array.getElem?_toList] at this
    exact this

set_option maxRecDepth 100000 in
set_option maxHeartbeats 2000000 in
theorem Clone_any (M : Mem) (a pb c : Nat) (w : World) (hM : IsMem w a pb M) :
    Calls Try.prog 65 #[.slice (some ⟨pb, 0, none⟩) 64 c] w fun e w' => ∃ g d C, e = .returned (.slice (some ⟨g, 0, none⟩) 64 d) ∧ 64 ≤ d ∧ w.heap.size ≤ g ∧ Holds C M ∧ w'.heap[g]? = some (.cells C 108 (0, 0)) ∧ Upd [] w w' := by
  have hnil := fun w : World => Lib.run_eql_slice_nil w 71 108 (some ⟨pb, 0, none⟩) 64 c 0 0 Try.underlying71
  have HM := Lib.hid hM
  clear hM
  go_enter Try.func65, Try.ntmps65
  have hown : (w.alloc (.cells #[] 108)).ownsRow w.heap.size 108 257 (.slice (some ⟨w.heap.size, 0, none⟩) 0 0) 0 [] := ⟨by simp, .inr ⟨w.heap.size, 0, #[], rfl, Nat.le_refl _, heap_alloc_new _ _, Nat.le_refl _, Nat.zero_le _, rfl, rfl⟩⟩
  have HO := Lib.hid hown
  clear hown
  have hsz : Try.t108.size = 257 := by kernel_rfl
  have hby : Try.t108.bytes = 264 := by kernel_rfl
  have HS := Lib.hid (And.intro hsz hby)
  clear hsz hby
  go_wp2_with (first | (refine wpList_buildNone rfl rfl ?_) | (at_builtin; refine wpList_append_own _ rfl _ _ 71 rfl w.heap.size 108 Try.t108 (.agg zeroPage) 257 264 Try.underlying71 info_page page_zero HS.out.1 HS.out.2 (by simp [Value.cells, zeroPage_size]) (by decide) _ _ _ rfl HO.out ⟨pb, 0, none⟩ 64 c M.cells.toList rfl (by rw [Array.length_toList, Mem.size_cells]) (page_list _ (HM.out.keep ((Upd.refl [] w).alloc _) (by simp) (by simp))) (cells_oneCell M) (by unfold maxLen; omega) (by omega) (by simp) ?_; intro v' w' hv hg _))
  have e1 : ∀ l : List Value, [] ++ l = l := fun l => List.nil_append l
  rw [e1] at hv
  have hg' : Upd [w.heap.size] (w.alloc (.cells #[] 108)) w' := Upd.of_grown (row := some w.heap.size) hg
  clear hg
  have hx := owns_holds hv
  clear hv
  go_ret
  obtain ⟨g, d, C, he, hd, hge, hC, hb⟩ := hx
  exact ⟨g, d, C, ret_of he, hd, hge, hC, hb, ((Upd.refl [] w).alloc _).new hg' (by simp)⟩

set_option maxRecDepth 100000 in
set_option maxHeartbeats 2000000 in
theorem Copy_any (M : Mem) (a pb : Nat) (w : World) (hM : IsMem w a pb M) :
    Calls Try.prog 48 #[.pointer (some ⟨a, 0, none⟩)] w fun e w' => ∃ b qb, e = .returned (.pointer (some ⟨b, 0, none⟩)) ∧ w.heap.size ≤ b ∧ w.heap.size ≤ qb ∧ IsMem w' b qb M ∧ Upd [] w w' := by
  obtain ⟨c, hc, c0⟩ := hM.c0
  have HM := Lib.hid hM
  clear hM
  go_enter Try.func48, Try.ntmps48
  go_wp2_with (go_at_call 65; refine (Clone_any M a pb c _ HM.out).mono ?_; rintro e w1 ⟨g, d, C, rfl, hd, hge, hC, hb, hU⟩; have HB := Lib.hid hb; have HU := Lib.hid hU; clear hb hU)
  go_ret
  refine ⟨w1.heap.size, g, rfl, HU.out.size, hge, ?_, HU.out.alloc _⟩
  exact ⟨⟨d, hd, heap_alloc_new _ _⟩, ⟨C, hC, heap_alloc_keep _ HB.out⟩, HM.out.ok⟩

end Go.Proofs.Ytdgclmibbmofcaa

/-
  Slices of words that a law is given. No condition.
-/
namespace Go.Proofs.Ytdgclmibbmofcaa
open Go Go.RowKit Go.WideShapes Go.ChangeShapes
set_option linter.unusedVariables false
set_option linter.unusedSimpArgs false

/-- A slice of words that reads as l; its cells, if any, lie in block g. -/
def Rp (w : World) (v : Value) (l : List Int) (g : Nat) : Prop :=
  (v = .slice none 0 0 ∧ l = []) ∨ ∃ o c C T f, v = .slice (some ⟨g, o, none⟩) l.length c ∧ l.length ≤ c ∧ w.heap[g]? = some (.cells C T f) ∧ ∀ i, i < l.length → C[o + i]? = some (.int .u32 (l.getD i 0))
theorem Rp.form {w : World} {v : Value} {l : List Int} {g : Nat} (h : Rp w v l g) : ∃ b c, v = .slice b l.length c := by
  rcases h with ⟨h1, h2⟩ | ⟨o, c, _, _, _, h1, _⟩
  · exact ⟨none, 0, by rw [h1, h2]; rfl⟩
  · exact ⟨_, _, h1⟩
theorem Rp.keep {w w' : World} {v : Value} {l : List Int} {g : Nat} {S : List Nat} (h : Rp w v l g) (u : Upd S w w') (hg : g ∉ S) : Rp w' v l g := by
  rcases h with h | ⟨o, c, C, T, f, h1, h2, h3, h4⟩
  · exact .inl h
  · exact .inr ⟨o, c, C, T, f, h1, h2, u.get h3 hg, h4⟩
/-- .. what was there ahead of the call. -/
theorem Rp.old {w w' : World} {v : Value} {l : List Int} {g : Nat} (h : Rp w v l g) (u : Upd [] w w') : Rp w' v l g := h.keep u (by simp)
theorem Rp.cell {w : World} {b : Option Addr} {n c : Nat} {l : List Int} {g : Nat} (h : Rp w (.slice b n c) l g) (hl : 0 < l.length) : ∃ o, b = some ⟨g, o, none⟩ ∧ n = l.length ∧ ∀ i, i < l.length → w.cell? ⟨g, o + i, none⟩ = some (.int .u32 (l.getD i 0)) := by
  rcases h with ⟨h1, h2⟩ | ⟨o, c', C, T, f, h1, h2, h3, h4⟩
  · rw [h2] at hl; cases hl
  · injection h1 with e1 e2 e3
    exact ⟨o, e1, e2, fun i hi => by rw [cells_of h3]; exact h4 i hi⟩

theorem wf_word {z : Int} (h : (Lit.int .u32 z).wf = true) : 0 ≤ z ∧ z < 4294967296 := by
  simp [Lit.wf, IntKind.min, IntKind.max, IntKind.signed, IntKind.bits] at h
  omega
set_option maxRecDepth 100000 in
theorem cells_u32 : Try.prog.cellsOf 33 = 1 := by kernel_rfl

set_option maxRecDepth 100000 in
/-- A slice of words that came in. -/
theorem open_words {H : Type} {enc : TypeId × Value → H} {w : World} {t : TypeId} (ht : Try.prog.underlying t = some (.slice 33)) {b0 : Nat} {v : Value} {d : DataW H} {p : List MemPlace}
    (hval : Value.okWide Try.prog w .any b0 t v) (h : DataW.Trod enc Try.prog w 0 (fun _ => true) true t v d p) : ∃ L g, Rp w v L g ∧ (∀ i, 0 ≤ L.getD i 0 ∧ L.getD i 0 < 4294967296) ∧ (v = .slice none 0 0 ∨ g < w.heap.size) ∧ L.length ≤ maxLen := by
  obtain ⟨a1, len, cap, rfl⟩ := okWide_slice ht hval
  obtain ⟨fuel, hf⟩ := h
  rcases open_ints ht Try.underlying33 cells_u32 hf with ⟨hcs, hx⟩ | ⟨a, len', cap', zs, hcs, _, hl, hm, hz, hx, hcell, hwz⟩
  · simp [Value.cells] at hcs
    obtain ⟨rfl, rfl, rfl⟩ := hcs
    exact ⟨[], 0, .inl ⟨rfl, rfl⟩, fun i => by simp, .inl rfl, Nat.zero_le _⟩
  · simp [Value.cells] at hcs
    obtain ⟨rfl, rfl, rfl⟩ := hcs
    simp only [if_true] at hz
    simp only [Value.okWide, ht, Cell.okWide, Cell.ok, World.has] at hval
    obtain ⟨_, _, _, hsp, row, cells, hsh, _⟩ := hval
    obtain ⟨ab, ao, spot⟩ := a
    simp only at hsp
    subst hsp
    have hb : ∃ C f, w.heap[ab]? = some (.cells C row f) := by
      unfold World.shape? at hsh
      split at hsh
      · rename_i c e f hh
        injection hsh with hsh
        injection hsh with h1 _
        subst h1
        exact ⟨c, f, hh⟩
      · cases hsh
    obtain ⟨C, f, hb⟩ := hb
    have hlen : (zs.take len).length = len := by rw [List.length_take]; omega
    refine ⟨zs.take len, ab, .inr ⟨ao, cap, C, row, f, by rw [hlen], by omega, hb, fun i hi => ?_⟩, fun i => ?_, .inr (lt_of_heap hb), by omega⟩
    · rw [hlen] at hi
      have hc := hcell i (by omega)
      rw [Addr.add_lit, cells_of hb] at hc
      rw [hc, List.getD_eq_getElem?_getD, List.getD_eq_getElem?_getD, List.getElem?_take, if_pos hi]
    · rw [List.getD_eq_getElem?_getD, List.getElem?_take]
      split
      · by_cases hi : i < zs.length
        · rw [List.getElem?_eq_getElem hi, Option.getD_some]; exact wf_word (hwz _ (List.getElem_mem hi))
        · rw [List.getElem?_eq_none (by omega)]; simp
      · simp
end Go.Proofs.Ytdgclmibbmofcaa

/-
  Package call: calls in memory; New, result, kinds, whether a call changes pages, how many bytes. No condition.
-/
namespace Go.Proofs.Ytdgclmibbmofcaa
open Go Go.RowKit Go.Maps
set_option linter.unusedVariables false
set_option linter.unusedSimpArgs false

theorem Upd_drewN {S : List Nat} {a b : World} (h : Upd S a b) (n : Nat) : Upd S a (b.drewN n) := ⟨h.os, h.tape, h.output, h.size, h.block⟩
/-- What a call tells. -/
structure Ev where
  n : Int
  b : Int
  c : Int
  d : Int
  r : Int
  s : ByteArray
def Ev.cells (e : Ev) : Array Value := #[.int .u32 e.n, .int .u32 e.b, .int .u32 e.c, .int .u32 e.d, .int .u32 e.r, .string e.s]
def Ev.val (e : Ev) : Value := .agg e.cells
/-- How an event reads: as itself. -/
def evR (v : Value) : Option (DataW Value × List MemPlace) := some (.held v, [])
/-- Calls in memory: what is left of replies and input, the events by their numbers (D). -/
structure IsCl (w : World) (c b g : Nat) (l : List Int) (inp : ByteArray) (k n : Nat) (D : DataW Value) : Prop where
  hd : ∃ v, w.heap[c]? = some (.cells #[v, .string inp, .map (some b), .int .i64 n] 77 (0, 0)) ∧ Rp w v l g
  mp : w.ownsMap Try.prog 3 evR b k D
  cb : c ≠ b
  cg : c ≠ g ∧ b ≠ g
section
variable {w w' : World} {c b g k n : Nat} {l : List Int} {inp : ByteArray} {D : DataW Value} {S : List Nat}
theorem ownsMap_keep {H : Type} {P : Program} {kt : TypeId} {R : Value → Option (DataW H × List MemPlace)} {D : DataW H} (h : w.ownsMap P kt R b n D) (u : Upd S w w') (hb : b ∉ S) : w'.ownsMap P kt R b n D := by
  obtain ⟨es, clock, h1, h2⟩ := h
  exact ⟨es, clock, u.get h1 hb, h2⟩
theorem IsCl.keep (h : IsCl w c b g l inp k n D) (u : Upd S w w') (hc : c ∉ S) (hb : b ∉ S) (hg : g ∉ S) : IsCl w' c b g l inp k n D := by
  obtain ⟨v, h1, h2⟩ := h.hd
  exact ⟨⟨v, u.get h1 hc, h2.keep u hg⟩, ownsMap_keep h.mp u hb, h.cb, h.cg⟩
end

set_option maxRecDepth 100000 in
theorem result_any (n : Int) (hn : -2147483648 ≤ n ∧ n < 2147483648) (w : World) : Calls Try.prog 28 #[.int .i64 n] w fun e w' => e = .returned (.int .u32 (n % 4294967296)) ∧ Upd [] w w' := by
  have e1 : IntKind.i32.wrap n = n := by unfold IntKind.wrap; simp [IntKind.signed, IntKind.bits]; omega
  go_enter Try.func28, Try.ntmps28
  go_wp2_with fail
  go_ret
  exact ⟨by rfl, Upd.refl _ _⟩

set_option maxRecDepth 100000 in
theorem kinds_any (w : World) : Calls Try.prog 23 #[] w fun e w' => e = .returned (.agg #[.int .u32 91, .int .u32 125, .int .u32 192]) ∧ Upd [] w w' := by
  go_enter Try.func23, Try.ntmps23
  go_wp2_with fail
  exact bodyPost_ret (results_one' rfl (res_row 0 40 w.heap.size _ _ rfl (heap_alloc_new w _) Try.underlying40 rfl (by kernel_rfl))) rfl ⟨rfl, (Upd.refl [] w).alloc _⟩

set_option maxRecDepth 100000 in
set_option maxHeartbeats 1000000 in
/-- The search for a word in a row of words. -/
theorem Index32_any (l : List Int) (kb c : Nat) (C : Array Value) (x : Int) (w : World) (hb : w.heap[kb]? = some (.cells C 33 (0, 0)) ∨ w.heap[kb]? = some (.cells C 40 (0, 0))) (hC : ∀ i, i < l.length → C[i]? = some (.int .u32 (l.getD i 0))) (hl : l.length < 1000) :
    Calls Try.prog 51 #[.slice (some ⟨kb, 0, none⟩) l.length c, .int .u32 x] w fun e w' => ∃ k : Int, e = .returned (.int .i64 k) ∧ decide (0 ≤ k) = l.contains x ∧ Upd [] w w' := by
  have HC : ∀ i, i < l.length → w.cell? ⟨kb, i, none⟩ = some (.int .u32 (l.getD i 0)) := fun i hi => by
    rcases hb with hb | hb
    · rw [cells_of hb]; exact hC i hi
    · rw [cells_of hb]; exact hC i hi
  obtain ⟨n, hn⟩ : ∃ n, l.length = n := ⟨_, rfl⟩
  rw [hn] at hl HC ⊢
  have HX := Lib.hid (And.intro HC hn)
  clear HC hC hb hn
  go_enter Try.func51, Try.ntmps51
  go_wp2_with fail
  go_loopw [5, 8] (fun _ i wr => ∃ k : Nat, k ≤ n ∧ i = .int .i64 k ∧ (Hid (∀ j, j < k → l.getD j 0 ≠ x)) ∧ wr = w) (fun _ i _ => n - (intOf i).toNat)
  case atStart => exact ⟨0, Nat.zero_le _, rfl, Lib.hid (fun j hj => by omega), rfl⟩
  case round =>
    obtain ⟨k, hk, rfl, hno, rfl⟩ := hrel
    by_cases hlt : k < n
    · have hc := HX.out.1 k hlt
      by_cases he : l.getD k 0 = x
      · rw [he] at hc
        go_wp2_with fail
        go_ret
        refine ⟨k, rfl, ?_, Upd.refl _ _⟩
        rw [decide_eq_true (by omega)]
        symm
        rw [List.contains_iff_mem]
        rw [← he, List.getD_eq_getElem?_getD, List.getElem?_eq_getElem (by rw [HX.out.2]; exact hlt)]
        exact List.getElem_mem _
      · obtain ⟨y, hy⟩ : ∃ y, l.getD k 0 = y := ⟨_, rfl⟩
        rw [hy] at hc he
        have q1 : (x == y) = false := by simp; exact fun e => he e.symm
        have HY := Lib.hid (And.intro hy he)
        clear hy he
        go_wp2_with fail
        go_roundw
        case rel =>
          refine ⟨k + 1, by omega, by go_num, Lib.hid fun j hj => ?_, trivial⟩
          by_cases e : j = k
          · subst e; rw [HY.out.1]; exact HY.out.2
          · exact hno.out j (by omega)
        case measure => simp [intOf]; omega
    · have hkn : k = n := by omega
      subst hkn
      go_wp2_with fail
      go_ret
      refine ⟨-1, rfl, ?_, Upd.refl _ _⟩
      rw [decide_eq_false (by omega)]
      symm
      rw [← Bool.not_eq_true, List.contains_iff_mem]
      intro hm
      obtain ⟨j, hj, e⟩ := List.getElem_of_mem hm
      exact hno.out j (by rw [← HX.out.2]; exact hj) (by rw [List.getD_eq_getElem?_getD, List.getElem?_eq_getElem hj]; exact e)

set_option maxRecDepth 100000 in
theorem Contains32_any (l : List Int) (kb c : Nat) (C : Array Value) (x : Int) (w : World) (hb : w.heap[kb]? = some (.cells C 33 (0, 0)) ∨ w.heap[kb]? = some (.cells C 40 (0, 0))) (hC : ∀ i, i < l.length → C[i]? = some (.int .u32 (l.getD i 0))) (hl : l.length < 1000) :
    Calls Try.prog 26 #[.slice (some ⟨kb, 0, none⟩) l.length c, .int .u32 x] w fun e w' => e = .returned (.bool (l.contains x)) ∧ Upd [] w w' := by
  obtain ⟨bb, hbb⟩ : ∃ bb, l.contains x = bb := ⟨_, rfl⟩
  rw [hbb]
  have HB := Lib.hid hbb
  clear hbb
  go_enter Try.func26, Try.ntmps26
  go_wp2_with (go_at_call 51; refine (Index32_any l kb c C x _ hb hC hl).mono ?_; rintro e w1 ⟨k, rfl, hk, hu⟩; rw [HB.out] at hk)
  go_ret
  exact ⟨rfl, hu⟩

set_option maxRecDepth 100000 in
theorem length_any (e : Ev) (hd : 0 ≤ e.d ∧ e.d < 4294967296) (w : World) : Calls Try.prog 47 #[e.val] w fun x w' => x = .returned (.int .i64 (min e.d 64)) ∧ Upd [] w w' := by
  obtain ⟨n, b, c, d, r, s⟩ := e
  have hd : 0 ≤ d ∧ d < 4294967296 := hd
  show Calls Try.prog 47 #[.agg #[.int .u32 n, .int .u32 b, .int .u32 c, .int .u32 d, .int .u32 r, .string s]] w fun x w' => x = .returned (.int .i64 (min d 64)) ∧ Upd [] w w'
  obtain ⟨m, hm⟩ : ∃ m, min d 64 = m := ⟨_, rfl⟩
  have h64 : (if (64 : Int) < d then 64 else d) = m := by rw [← hm]; omega
  rw [hm]
  by_cases h : 64 < d
  · rw [if_pos h] at h64
    subst h64
    clear hm
    go_enter Try.func47, Try.ntmps47
    go_wp2_with fail
    go_ret
    exact ⟨rfl, (Upd.refl [] w).alloc _⟩
  · rw [if_neg h] at h64
    subst h64
    clear hm
    go_enter Try.func47, Try.ntmps47
    go_wp2_with fail
    go_ret
    exact ⟨rfl, (Upd.refl [] w).alloc _⟩

set_option maxRecDepth 100000 in
theorem Left_any (c b g k n : Nat) (l : List Int) (inp : ByteArray) (D : DataW Value) (w : World) (h : IsCl w c b g l inp k n D) :
    Calls Try.prog 16 #[.pointer (some ⟨c, 0, none⟩)] w fun e w' => e = .returned (.tuple #[.int .i64 l.length, .int .i64 inp.size]) ∧ Upd [] w w' := by
  obtain ⟨v, h1, h2⟩ := h.hd
  obtain ⟨a, cp, rfl⟩ := h2.form
  have hc := cells_of h1
  clear h h1 h2
  go_enter Try.func16, Try.ntmps16
  go_wp2_with fail
  go_quiet (fail)
  go_wp2_with fail
  go_ret2
  exact ⟨rfl, Upd_drewN (Upd.refl [] w) _⟩
end Go.Proofs.Ytdgclmibbmofcaa

/-
  Package page: Load, by its contract.
-/
namespace Go.Proofs.Ytdgclmibbmofcaa
open Go Go.RowKit
set_option linter.unusedVariables false
set_option linter.unusedSimpArgs false

/-- A span of pages, with the bytes at its beginning. -/
structure SpanV where
  pg : Int
  ct : Int
  rt : Int
  by_ : ByteArray
  deriving Inhabited

def SpanV.ok (s : SpanV) : Prop := -9223372036854775808 ≤ s.ct ∧ s.ct ≤ 9223372036854775807

/-- Spans in memory: a slice. -/
def SpansIn (w : World) (v : Value) (l : List SpanV) (g : Nat) : Prop :=
  (∃ a c, v = .slice a 0 c ∧ l = []) ∨
  ∃ o c, v = .slice (some ⟨g, o, none⟩) l.length c ∧ g < w.heap.size ∧ l.length ≤ 9223372036854775807 ∧ ∀ i s, l[i]? = some s → w.cell? ⟨g, o + i * 4, none⟩ = some (.int .i64 s.pg) ∧ w.cell? ⟨g, o + i * 4 + 1, none⟩ = some (.int .i64 s.ct) ∧ w.cell? ⟨g, o + i * 4 + 2, none⟩ = some (.int .i64 s.rt) ∧ w.cell? ⟨g, o + i * 4 + 3, none⟩ = some (.string s.by_)

theorem SpansIn.keep {w w' : World} {v : Value} {l : List SpanV} {g : Nat} {S : List Nat} (h : SpansIn w v l g) (u : Upd S w w') (hg : g ∉ S) : SpansIn w' v l g := by
  rcases h with h | ⟨o, c, h1, h2, h4, h3⟩
  · exact .inl h
  · refine .inr ⟨o, c, h1, Nat.lt_of_lt_of_le h2 u.size, h4, fun i s hs => ?_⟩
    have e : ∀ k, w'.cell? ⟨g, k, none⟩ = w.cell? ⟨g, k, none⟩ := fun k => by
      simp only [World.cell?]; rw [u.block g h2 hg]
    rw [e, e, e, e]
    exact h3 i s hs

def strInts (s : ByteArray) : List Int := s.data.toList.map fun b => (b.toNat : Int)

theorem strInts_length (s : ByteArray) : (strInts s).length = s.size := by rw [strInts, List.length_map, Array.length_toList]; rfl

theorem strInts_ok (s : ByteArray) (i : Nat) : 0 ≤ (strInts s).getD i 0 ∧ (strInts s).getD i 0 ≤ 255 := by
  rw [List.getD_eq_getElem?_getD, strInts, List.getElem?_map]
  cases s.data.toList[i]? with
  | none => simp
  | some b =>
    have h := b.toNat_lt
    simp only [Option.map_some, Option.getD_some]
    exact ⟨by omega, by omega⟩

def Mem.spanB (M : Mem) (s : SpanV) : Bool := M.mapB s.pg s.ct s.rt && decide ((s.by_.size : Int) ≤ s.ct * 256)
def Mem.span1 (M : Mem) (s : SpanV) : Mem := (M.mapN s.pg.toNat s.ct.toNat s.rt).poke (s.pg * 256) (strInts s.by_)

def loadN (l : List SpanV) : Nat → Mem
  | 0 => Mem.zero
  | j + 1 => (loadN l j).span1 (l.getD j default)

def loadB (l : List SpanV) : Bool := (List.range l.length).all fun i => (loadN l i).spanB (l.getD i default)
def loadM (l : List SpanV) : Mem := loadN l l.length

/-- What Load leaves. -/
def loadR (l : List SpanV) (M : Mem) : Mem := if loadB l then loadM l else M

theorem loadR_yes {l : List SpanV} {M : Mem} (h : loadB l = true) : loadR l M = loadM l := by rw [loadR, if_pos h]
theorem loadR_no {l : List SpanV} {M : Mem} (h : loadB l = false) : loadR l M = M := by rw [loadR, if_neg (by rw [h]; simp)]

theorem mapB_row {M : Mem} {p n r : Int} (h : M.mapB p n r = true) : 0 ≤ p ∧ 1 ≤ n ∧ n ≤ 64 ∧ p ≤ 64 - n := by
  simp only [Mem.mapB, Mem.all, Bool.and_eq_true] at h
  exact (rowB_iff p n).1 h.2.1

theorem loadB_no {l : List SpanV} {j : Nat} (hj : j < l.length) (h : (loadN l j).spanB (l.getD j default) = false) : loadB l = false := by
  rw [loadB, List.all_eq_false]; exact ⟨j, List.mem_range.2 hj, by rw [h]; simp⟩

theorem loadB_yes {l : List SpanV} (h : ∀ j, j < l.length → (loadN l j).spanB (l.getD j default) = true) : loadB l = true := by
  rw [loadB, List.all_eq_true]; exact fun j hj => h j (List.mem_range.1 hj)

theorem bytes_sl (w : World) (s : ByteArray) (cap : Nat) (f : Nat × Nat) (h : s.size ≤ cap) :
    BySl ((w.drew.alloc (.cells (bytesRow s cap) 5 f))) (.slice (some ⟨w.heap.size, 0, none⟩) s.size cap) (strInts s) w.heap.size := by
  refine .inr ⟨0, cap, _, _, _, by rw [strInts_length], heap_alloc_new _ _, fun i hi => ?_⟩
  rw [strInts_length] at hi
  have hi' : i < s.data.size := hi
  have e : (strInts s).getD i 0 = ((s.data[i]'hi').toNat : Int) := by
    rw [List.getD_eq_getElem?_getD, strInts, List.getElem?_map, Array.getElem?_toList, Array.getElem?_eq_getElem hi']
    rfl
  rw [e, Nat.zero_add, bytesRow, Array.getElem?_append_left (by rw [Array.size_map]; exact hi'), Array.getElem?_map, Array.getElem?_eq_getElem hi']
  rfl

/-- The memory at a, its pages where they were, or new. -/
structure SomeMem (w w' : World) (a pb : Nat) (M : Mem) : Prop where
  ex : ∃ qb, (qb = pb ∨ w.heap.size ≤ qb) ∧ IsMem w' a qb M

theorem SomeMem.mk' {w w' : World} {a pb : Nat} {M : Mem} (qb : Nat) (h : qb = pb ∨ w.heap.size ≤ qb) (k : IsMem w' a qb M) : SomeMem w w' a pb M := ⟨⟨qb, h, k⟩⟩

theorem load_end {w w1 : World} {a pb na nb d : Nat} {M N : Mem} (hN : IsMem w1 na nb N) (hM : IsMem w a pb M) (hU : Upd [] w w1) (hna : w.heap.size ≤ na) (hnb : w.heap.size ≤ nb) (hd : 64 ≤ d)
    (h1 : w1.heap[na]? = some (.cells #[.slice (some ⟨nb, 0, none⟩) 64 d] 73 (0, 0))) : IsMem (w1.setCell ⟨a, 0, none⟩ (.slice (some ⟨nb, 0, none⟩) 64 d)) a nb N := by
  obtain ⟨c, _, h2⟩ := hM.hd
  have h3 := hU.get h2 (by simp)
  obtain ⟨C, h4, h5⟩ := hN.pg
  have ha := hM.al
  exact ⟨⟨d, hd, heap_set_same h3 0 _⟩, ⟨C, h4, heap_set_keep _ (by simp; omega) h5⟩, hN.ok⟩

set_option maxRecDepth 100000 in
set_option maxHeartbeats 4000000 in
theorem Load_any (M : Mem) (a pb g : Nat) (v : Value) (l : List SpanV) (w : World) (hM : IsMem w a pb M) (hl : SpansIn w v l g) (hok : ∀ s, s ∈ l → s.ok) :
    Calls Try.prog 34 #[.pointer (some ⟨a, 0, none⟩), v] w fun e w' => e = .returned (.int .i64 (errI (loadB l) 60)) ∧ SomeMem w w' a pb (loadR l M) ∧ Upd [a] w w' := by
  have hmo : Try.prog.follows .mixedOrders = true := by kernel_rfl
  have HM := Lib.hid hM
  have HL := Lib.hid hl
  clear hM
  have hl2 := hl
  clear hl
  rcases hl2 with ⟨x, c, rfl, rfl⟩ | ⟨o, c, rfl, hg, hlen, hc⟩
  · go_enter Try.func34, Try.ntmps34
    go_wp2_with (go_at_call 6; refine (New_any _).mono ?_; rintro e w1 ⟨na, nb, rfl, hna, hnb, hN, hU⟩; have HN := Lib.hid hN; have HU := Lib.hid hU; clear hN hU)
    go_loopw [11] (fun i wr => i = .int .i64 0 ∧ IsMem wr na nb Mem.zero ∧ Upd [] w wr) (fun _ _ => 0)
    case atStart => exact ⟨rfl, HN.out, HU.out⟩
    case round =>
      obtain ⟨rfl, hN, hU⟩ := hrel
      have HN := Lib.hid hN
      have HU := Lib.hid hU
      clear hN hU
      obtain ⟨d, hd, h1⟩ := HN.out.hd
      have H1 := Lib.hid h1
      have ca : wr.cell? ⟨na, 0, none⟩ = some (.slice (some ⟨nb, 0, none⟩) 64 d) := by rw [cells_of h1]; rfl
      obtain ⟨d2, hd2, h2⟩ := HM.out.hd
      have h2' := HU.out.get h2 (by simp)
      have H2 := Lib.hid h2'
      have hfr : wr.frozen? ⟨a, 0, none⟩ = false := free_of h2' 0
      have hcb : wr.cell? ⟨a, 0, none⟩ = some (.slice (some ⟨pb, 0, none⟩) 64 d2) := by rw [cells_of h2']; rfl
      clear h1 h2 h2'
      go_wp2
      go_ret
      exact ⟨rfl, SomeMem.mk' (M := loadR [] M) nb (.inr hnb) (load_end HN.out HM.out HU.out hna hnb hd H1.out), (HU.out.mono (by simp)).setCell (by simp) _⟩
  · have hcv := fun (w : World) (s : ByteArray) => run_bytes_of_string (P := Try.prog) w 9 67 5 s (by kernel_rfl) (by kernel_rfl) (by kernel_rfl)
    have HC := Lib.hid hc
    clear hc
    have HO := Lib.hid hok
    clear hok
    go_enter Try.func34, Try.ntmps34
    go_wp2_with (go_at_call 6; refine (New_any _).mono ?_; rintro e w1 ⟨na, nb, rfl, hna, hnb, hN, hU⟩; have HN := Lib.hid hN; have HU := Lib.hid hU; clear hN hU)
    go_loopw [11] (fun i wr => ∃ j : Nat, j ≤ l.length ∧ i = .int .i64 j ∧ (∀ k, k < j → (loadN l k).spanB (l.getD k default) = true) ∧ IsMem wr na nb (loadN l j) ∧ Upd [] w wr) (fun i _ => l.length - (intOf i).toNat)
    case atStart => exact ⟨0, Nat.zero_le _, rfl, by omega, HN.out, HU.out⟩
    case round =>
      obtain ⟨j, hj, rfl, hall, hN, hU⟩ := hrel
      clear HN HU
      have HN := Lib.hid hN
      have HU := Lib.hid hU
      have HA := Lib.hid hall
      clear hN hU hall
      by_cases hlt : j < l.length
      · obtain ⟨s, hs⟩ : ∃ s, l[j]? = some s := ⟨l[j], List.getElem?_eq_getElem hlt⟩
        have hsd : l.getD j default = s := by rw [List.getD_eq_getElem?_getD, hs]; rfl
        have hcs := HL.out.keep HU.out (by simp)
        obtain ⟨c0, c1, c2, c3⟩ : wr.cell? ⟨g, o + j * 4, none⟩ = some (.int .i64 s.pg) ∧ wr.cell? ⟨g, o + j * 4 + 1, none⟩ = some (.int .i64 s.ct) ∧ wr.cell? ⟨g, o + j * 4 + 2, none⟩ = some (.int .i64 s.rt) ∧ wr.cell? ⟨g, o + j * 4 + 3, none⟩ = some (.string s.by_) := by
          rcases hcs with ⟨_, _, hv, _⟩ | ⟨o', c', hv, _, _, h⟩
          · injection hv with _ e _; omega
          · injection hv with e _ _
            injection e with e
            injection e with _ e _
            subst e
            exact h j s hs
        have hsm : s.ok := HO.out s (List.mem_of_getElem? hs)
        have HS := Lib.hid hsm
        have HSD := Lib.hid hsd
        clear hcs hs hsm hsd
        have hmb : (loadN l j).mapB s.pg s.ct s.rt = true ∨ (loadN l j).mapB s.pg s.ct s.rt = false := by cases (loadN l j).mapB s.pg s.ct s.rt <;> simp
        rcases hmb with hmb | hmb
        · have hrow := mapB_row hmb
          have HB := Lib.hid hmb
          clear hmb
          by_cases hsz : (s.by_.size : Int) ≤ s.ct * 256
          · obtain ⟨p1, p2, p3, p4⟩ := hrow
            have q1 : s.pg * 256 % 4294967296 = s.pg * 256 := by omega
            have q2 : 0 ≤ s.pg * 256 := by omega
            have q3 : s.pg * 256 < 4294967296 := by omega
            go_wp2_with (first | (go_at_call 20; refine (Map_yes (loadN l j) na nb s.pg s.ct s.rt _ (HN.out.keep ((Upd.refl [] _).alloc _) (by simp) (by simp)) HS.out.1 HB.out).mono ?_; rintro e w2 ⟨rfl, hM2, hU2⟩; have HM2 := Lib.hid hM2; have HU2 := Lib.hid hU2; have cs2 : ∀ o, w2.cell? ⟨wr.heap.size, o, none⟩ = #[Value.int .i64 s.pg, .int .i64 s.ct, .int .i64 s.rt, .string s.by_][o]? := cells_of (hU2.get (heap_alloc_new _ _) (by have := HN.out.pl; simp; omega)); clear hM2 hU2) | (go_at_call 55; refine (Poke_any _ na nb (s.pg * 256) _ (strInts s.by_) w2.heap.size _ (HM2.out.keep (((Upd.refl [] _).drew).alloc _) (by simp) (by simp)) q2 q3 (bytes_sl _ _ _ _ (grownCap_ge _ _ _ _)) (by have := HM2.out.pl; omega) (strInts_ok _) (by rw [strInts_length]; unfold maxLen; omega)).mono ?_; rintro e w3 ⟨rfl, hM3, hU3⟩; have HM3 := Lib.hid hM3; have HU3 := Lib.hid hU3; clear hM3 hU3))
            go_roundw
            case rel =>
              refine ⟨j + 1, by omega, by go_num, fun k hk => ?_, ?_, ?_⟩
              · by_cases e : k = j
                · subst e
                  rw [HSD.out, Mem.spanB, HB.out]
                  simpa using hsz
                · exact HA.out k (by omega)
              · have h := HM3.out
                rw [loadN, HSD.out]
                exact h
              · have hn : ∀ x, x ∈ [nb] → x ∈ ([] : List Nat) ∨ w.heap.size ≤ x := by simpa using hnb
                exact ((((HU.out.alloc _).also HU2.out hn).drew).alloc _).also HU3.out hn
            case measure => simp [intOf]; omega
          · obtain ⟨p1, p2, p3, p4⟩ := hrow
            have hsz' : s.ct * 256 < s.by_.size := by omega
            go_wp2_with (go_at_call 20; refine (Map_yes (loadN l j) na nb s.pg s.ct s.rt _ (HN.out.keep ((Upd.refl [] _).alloc _) (by simp) (by simp)) HS.out.1 HB.out).mono ?_; rintro e w2 ⟨rfl, hM2, hU2⟩; have HM2 := Lib.hid hM2; have HU2 := Lib.hid hU2; have cs2 : ∀ o, w2.cell? ⟨wr.heap.size, o, none⟩ = #[Value.int .i64 s.pg, .int .i64 s.ct, .int .i64 s.rt, .string s.by_][o]? := cells_of (hU2.get (heap_alloc_new _ _) (by have := HN.out.pl; simp; omega)); clear hM2 hU2)
            go_ret
            have hn : ∀ x, x ∈ [nb] → x ∈ ([] : List Nat) ∨ w.heap.size ≤ x := by simpa using hnb
            have hno : loadB l = false := loadB_no hlt (by rw [HSD.out, Mem.spanB]; simp; omega)
            have hU' := (HU.out.alloc _).also HU2.out hn
            exact ⟨by rw [hno]; rfl, by rw [loadR_no hno]; exact SomeMem.mk' pb (.inl rfl) (HM.out.keep hU' (by simp) (by simp)), hU'.mono (by simp)⟩
        · have HB := Lib.hid hmb
          clear hmb
          go_wp2_with (go_at_call 20; refine (Map_no (loadN l j) na nb s.pg s.ct s.rt _ (HN.out.keep ((Upd.refl [] _).alloc _) (by simp) (by simp)) HS.out.1 HB.out).mono ?_; rintro e w2 ⟨rfl, hU2⟩; have HU2 := Lib.hid hU2; clear hU2)
          go_ret
          have hno : loadB l = false := loadB_no hlt (by rw [HSD.out, Mem.spanB, HB.out]; rfl)
          have hU' := (HU.out.alloc _).also HU2.out (by simp)
          exact ⟨by rw [hno]; rfl, by rw [loadR_no hno]; exact SomeMem.mk' pb (.inl rfl) (HM.out.keep hU' (by simp) (by simp)), hU'.mono (by simp)⟩
      · obtain ⟨d, hd, h1⟩ := HN.out.hd
        have H1 := Lib.hid h1
        have ca : wr.cell? ⟨na, 0, none⟩ = some (.slice (some ⟨nb, 0, none⟩) 64 d) := by rw [cells_of h1]; rfl
        obtain ⟨d2, hd2, h2⟩ := HM.out.hd
        have h2' := HU.out.get h2 (by simp)
        have H2 := Lib.hid h2'
        have hfr : wr.frozen? ⟨a, 0, none⟩ = false := free_of h2' 0
        have hcb : wr.cell? ⟨a, 0, none⟩ = some (.slice (some ⟨pb, 0, none⟩) 64 d2) := by rw [cells_of h2']; rfl
        clear h1 h2 h2'
        go_wp2
        go_ret
        have e : j = l.length := by omega
        subst e
        have hyes := loadB_yes HA.out
        exact ⟨by rw [hyes]; rfl, by rw [loadR_yes hyes]; exact SomeMem.mk' nb (.inr hnb) (load_end HN.out HM.out HU.out hna hnb hd H1.out), (HU.out.mono (by simp)).setCell (by simp) _⟩

end Go.Proofs.Ytdgclmibbmofcaa

/-
  Spans of pages as an argument of a law, opened. No condition.
-/
namespace Go.Proofs.Ytdgclmibbmofcaa
open Go Go.RowKit Go.WideShapes Go.ChangeShapes
set_option linter.unusedVariables false
set_option linter.unusedSimpArgs false

def intOfV : Option Value → Int
  | some (.int _ z) => z
  | _ => 0
def strOfV : Option Value → ByteArray
  | some (.string s) => s
  | _ => ByteArray.empty

/-- The span in four cells. -/
def spanAt (w : World) (g o : Nat) : SpanV := ⟨intOfV (w.cell? ⟨g, o, none⟩), intOfV (w.cell? ⟨g, o + 1, none⟩), intOfV (w.cell? ⟨g, o + 2, none⟩), strOfV (w.cell? ⟨g, o + 3, none⟩)⟩

structure SpanV.Ok (s : SpanV) : Prop where
  pg : -9223372036854775808 ≤ s.pg ∧ s.pg ≤ 9223372036854775807
  ct : -9223372036854775808 ≤ s.ct ∧ s.ct ≤ 9223372036854775807
  rt : -9223372036854775808 ≤ s.rt ∧ s.rt ≤ 9223372036854775807
  by_ : s.by_.size ≤ maxLen

theorem wf_i64 {z : Int} (h : (Lit.int .i64 z).wf = true) : -9223372036854775808 ≤ z ∧ z ≤ 9223372036854775807 := by
  simp only [Lit.wf, Bool.and_eq_true, decide_eq_true_eq] at h
  have h1 : IntKind.i64.min = -9223372036854775808 := by decide
  have h2 : IntKind.i64.max = 9223372036854775807 := by decide
  omega

/-- A span read as data lies in four cells. -/
theorem span_cells {H : Type} {enc : TypeId × Value → H} {w : World} {base : Nat} {spare : Nat → Bool} {held : Bool} {n : Nat} {g o : Nat} {y : DataW H × List MemPlace}
    (h : (w.cells? base ⟨g, o, none⟩ (Try.prog.cellsOf 92)).bind (DataW.trod enc Try.prog w base spare held n 92) = some y) :
    w.cell? ⟨g, o, none⟩ = some (.int .i64 (spanAt w g o).pg) ∧ w.cell? ⟨g, o + 1, none⟩ = some (.int .i64 (spanAt w g o).ct) ∧ w.cell? ⟨g, o + 2, none⟩ = some (.int .i64 (spanAt w g o).rt) ∧ w.cell? ⟨g, o + 3, none⟩ = some (.string (spanAt w g o).by_) ∧ (spanAt w g o).Ok ∧ g < w.heap.size := by
  rw [show Try.prog.cellsOf 92 = 4 by kernel_rfl, Option.bind_eq_some_iff] at h
  obtain ⟨cs, hcs, hy⟩ := h
  have hb := World.cells?_block hcs (by decide)
  obtain ⟨_, hl, hc⟩ := World.cells?_some hcs
  have c : ∀ j, j < 4 → ∀ lf, leafAt Try.prog 8 92 j = some lf → ∃ x, w.cell? ⟨g, o + j, none⟩ = some x ∧ LeafOk lf x := by
    intro j hj lf hlf
    obtain ⟨x, hx, hok⟩ := leafAt_ok 8 _ _ _ _ j lf hy hlf
    refine ⟨x, ?_, hok⟩
    have := hc j hj
    rw [Addr.add_lit] at this
    rw [this, hx]
  obtain ⟨x0, h0, z0, rfl, w0⟩ := c 0 (by decide) (.int .i64) (by kernel_rfl)
  obtain ⟨x1, h1, z1, rfl, w1⟩ := c 1 (by decide) (.int .i64) (by kernel_rfl)
  obtain ⟨x2, h2, z2, rfl, w2⟩ := c 2 (by decide) (.int .i64) (by kernel_rfl)
  obtain ⟨x3, h3, s, rfl, w3⟩ := c 3 (by decide) .string (by kernel_rfl)
  have e : spanAt w g o = ⟨z0, z1, z2, s⟩ := by
    have h0' : w.cell? ⟨g, o, none⟩ = _ := h0
    simp only [spanAt, h0', h1, h2, h3]
    rfl
  rw [e]
  exact ⟨h0, h1, h2, h3, ⟨wf_i64 w0, wf_i64 w1, wf_i64 w2, w3⟩, hb⟩

/-- Spans as a law's argument. -/
structure SArg (w : World) (v : Value) (L : List SpanV) (g : Nat) : Prop where
  sp : SpansIn w v L g
  ok : ∀ s ∈ L, s.Ok
  len : L.length ≤ maxLen
  lt : g ≤ w.heap.size
  form : ∀ b n c, v = .slice b n c → n = L.length

theorem SArg.keep {w w' : World} {v : Value} {L : List SpanV} {g : Nat} (h : SArg w v L g) (u : Upd [] w w') : SArg w' v L g :=
  ⟨h.sp.keep u (by simp), h.ok, h.len, Nat.le_trans h.lt u.size, h.form⟩

set_option maxRecDepth 100000 in
theorem spans_of_row {H : Type} {enc : TypeId × Value → H} {w : World} {t : TypeId} (ht : Try.prog.underlying t = some (.slice 92)) {base b0 fuel : Nat} {spare : Nat → Bool} {held : Bool} {r : Reach} {v : Value} {x : DataW H × List MemPlace}
    (hval : Value.okWide Try.prog w r b0 t v) (hf : DataW.trod enc Try.prog w base spare held fuel t v.cells.toList = some x) : ∃ L g, SArg w v L g := by
  obtain ⟨a1, len, cap, rfl⟩ := okWide_slice ht hval
  rcases DataW.trod_slice ht hf with ⟨hcs, hx⟩ | ⟨a, len', cap', elems, rest, n, _, hcs, _, _, hl, hm, hel, he, _, _⟩
  · simp [Value.cells] at hcs
    obtain ⟨rfl, rfl, rfl⟩ := hcs
    exact ⟨[], 0, .inl ⟨_, _, rfl, rfl⟩, by simp, by simp, Nat.zero_le _, fun b n c e => by injection e with _ e _; exact e.symm⟩
  · simp [Value.cells] at hcs
    obtain ⟨rfl, rfl, rfl⟩ := hcs
    simp only [Value.okWide, ht, Cell.okWide, Cell.ok, World.has] at hval
    obtain ⟨_, _, _, hsp, row, cells, hsh, _⟩ := hval
    obtain ⟨ab, ao, spot⟩ := a
    simp only at hsp
    subst hsp
    have hlt : ab < w.heap.size := by
      unfold World.shape? at hsh
      split at hsh
      · rename_i c e f hh
        exact lt_of_heap hh
      · cases hsh
    have hc4 : Try.prog.cellsOf 92 = 4 := by kernel_rfl
    have each : ∀ i, i < len → w.cell? ⟨ab, ao + i * 4, none⟩ = some (.int .i64 (spanAt w ab (ao + i * 4)).pg) ∧ w.cell? ⟨ab, ao + i * 4 + 1, none⟩ = some (.int .i64 (spanAt w ab (ao + i * 4)).ct) ∧ w.cell? ⟨ab, ao + i * 4 + 2, none⟩ = some (.int .i64 (spanAt w ab (ao + i * 4)).rt) ∧ w.cell? ⟨ab, ao + i * 4 + 3, none⟩ = some (.string (spanAt w ab (ao + i * 4)).by_) ∧ (spanAt w ab (ao + i * 4)).Ok ∧ ab < w.heap.size := fun i hi => by
      have h := he i hi
      obtain ⟨y, hy⟩ : ∃ y, elems[i]? = some y := ⟨_, List.getElem?_eq_getElem (by omega)⟩
      rw [hy, Addr.add_lit] at h
      have h2 := span_cells h
      rw [hc4] at h2
      exact h2
    have hl2 : ((List.range len).map fun i => spanAt w ab (ao + i * 4)).length = len := by simp
    refine ⟨(List.range len).map fun i => spanAt w ab (ao + i * 4), ab, .inr ⟨ao, cap, by rw [hl2], hlt, by rw [hl2]; unfold maxLen at hm; omega, fun i s hs => ?_⟩, fun s hs => ?_, by rw [hl2]; omega, Nat.le_of_lt hlt, fun b n c e => by injection e with _ e _; rw [hl2]; exact e.symm⟩
    · have hi : i < len := by
        have := (List.getElem?_eq_some_iff.1 hs).1
        rwa [hl2] at this
      rw [List.getElem?_map, List.getElem?_range hi] at hs
      simp only [Option.map_some, Option.some.injEq] at hs
      subst hs
      have h := each i hi
      exact ⟨h.1, h.2.1, h.2.2.1, h.2.2.2.1⟩
    · obtain ⟨i, hi, rfl⟩ := List.mem_map.1 hs
      have h := each i (List.mem_range.1 hi)
      exact h.2.2.2.2.1

set_option maxRecDepth 100000 in
theorem open_spans {H : Type} {enc : TypeId × Value → H} {w : World} {t : TypeId} (ht : Try.prog.underlying t = some (.slice 92)) {b0 : Nat} {v : Value} {d : DataW H} {p : List MemPlace}
    (hval : Value.okWide Try.prog w .any b0 t v) (h : DataW.Trod enc Try.prog w 0 (fun _ => true) true t v d p) : ∃ L g, SArg w v L g := by
  obtain ⟨fuel, hf⟩ := h
  exact spans_of_row ht hval hf

end Go.Proofs.Ytdgclmibbmofcaa
