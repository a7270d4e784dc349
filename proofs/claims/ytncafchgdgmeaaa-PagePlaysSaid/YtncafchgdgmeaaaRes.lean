/-
  What a function tells, where a result lies in memory: one, two, three results, each by its own reading. No condition.
-/
import Derived.Test.YtncafchgdgmeaaaMem
import Derived.WalkKit
import Derived.Deep.MidRow
namespace Go.Proofs.Ytncafchgdgmeaaa
open Go Go.RowKit
set_option linter.unusedVariables false
set_option linter.unusedSimpArgs false

def resRun (tmps : Array Value) : ResultVar → Sem Value
  | .tmp t => pure (tmps.getD t undef)
  | .cell a t => do loadVar t (← asAddr (tmps.getD a undef))

theorem results_eq (fn : Func) (tmps : Array Value) : results fn tmps = (do
    let vs ← fn.results.mapM (resRun tmps)
    pure (if h : vs.size = 1 then vs[0] else .tuple vs)) := by
  unfold results
  congr 1

section
variable {P : Program} {fn : Func} {tmps : Array Value} {w : World} {r0 r1 r2 : ResultVar} {v0 v1 v2 : Value}

theorem results_one' (h : fn.results = #[r0]) (h0 : (resRun tmps r0).run P w = .ok v0 w) : (results fn tmps).run P w = .ok v0 w := by
  rw [results_eq, h]
  simp [Sem.run_bind, h0]

theorem results_two' (h : fn.results = #[r0, r1]) (h0 : (resRun tmps r0).run P w = .ok v0 w) (h1 : (resRun tmps r1).run P w = .ok v1 w) : (results fn tmps).run P w = .ok (.tuple #[v0, v1]) w := by
  rw [results_eq, h]
  simp [Sem.run_bind, h0, h1]

theorem results_three' (h : fn.results = #[r0, r1, r2]) (h0 : (resRun tmps r0).run P w = .ok v0 w) (h1 : (resRun tmps r1).run P w = .ok v1 w) (h2 : (resRun tmps r2).run P w = .ok v2 w) : (results fn tmps).run P w = .ok (.tuple #[v0, v1, v2]) w := by
  rw [results_eq, h]
  simp [Sem.run_bind, h0, h1, h2]

theorem res_tmp (t : Tmp) (h : tmps.getD t undef = v0) : (resRun tmps (.tmp t)).run P w = .ok v0 w := by
  simp only [resRun, Sem.run_pure, h]

theorem res_row (a : Tmp) (ty : TypeId) (b : Nat) (cs : Array Value) {t : TypeId} {f : Nat × Nat} (d : TypeDesc) (ha : tmps.getD a undef = .pointer (some ⟨b, 0, none⟩)) (hb : w.heap[b]? = some (.cells cs t f))
    (hu : P.underlying ty = some d) (hd : d.isRow = true) (hi : (P.info? ty).map (·.size) = some cs.size) : (resRun tmps (.cell a ty)).run P w = .ok (.agg cs) w := by
  have h := run_loadVar_mid (P := P) w b 0 ty cs.toList d (range_whole hb) hu hd (by rw [Array.length_toList]; exact hi)
  rw [Array.toArray_toList] at h
  simp only [resRun, Sem.run_bind, ha]
  simp [asAddr, h]

theorem res_int (a : Tmp) (ty : TypeId) (b : Nat) (v : Value) {k : IntKind} {t : TypeId} {f : Nat × Nat} (ha : tmps.getD a undef = .pointer (some ⟨b, 0, none⟩)) (hb : w.heap[b]? = some (.cells #[v] t f))
    (hr : ∀ w, w.cell? ⟨b, 0, none⟩ = some v → (loadVar ty ⟨b, 0, none⟩).run P w = .ok v w) : (resRun tmps (.cell a ty)).run P w = .ok v w := by
  simp only [resRun, Sem.run_bind, ha]
  simp [asAddr, hr w (by rw [cells_of hb]; rfl)]
end

/-- Stands the walk at a store, at a load of this type? (A guard for an arm: it fails at once elsewhere.) -/
theorem at_store {P : Program} {ops : Array Oper} {rest : List Oper} {op : Oper} {a : Act} {w : World} {Q : Exit → Act → World → Prop} (ty : TypeId) {x y : Operand} (ho : op.op = .store ty x y) (h : wpList P ops Q (op :: rest) a w) : wpList P ops Q (op :: rest) a w := h
theorem at_load {P : Program} {ops : Array Oper} {rest : List Oper} {op : Oper} {a : Act} {w : World} {Q : Exit → Act → World → Prop} (ty : TypeId) {x : Operand} (ho : op.op = .load ty x) (h : wpList P ops Q (op :: rest) a w) : wpList P ops Q (op :: rest) a w := h

/-- A step of an operation that is wanted, guarded or not. -/
theorem wpList_want {P : Program} {ops : Array Oper} {Q : Exit → Act → World → Prop} {a : Act} {w : World} {rest : List Oper} {o : Oper} (hw : Region.wanted o (yielded ops a.tmps) = true)
    (h : ∀ K : Act → World → Prop, (∀ a w, wpList P ops Q rest a w → K a w) → o.wp P a w K Q) : wpList P ops Q (o :: rest) a w :=
  wpList_step fun K hK => by simp only [hw, if_true]; exact h K hK

theorem at_load_wp {P : Program} {op : Oper} {a : Act} {w : World} {K : Act → World → Prop} {Q : Exit → Act → World → Prop} (ty : TypeId) {x : Operand} (ho : op.op = .load ty x) (h : op.wp P a w K Q) : op.wp P a w K Q := h

end Go.Proofs.Ytncafchgdgmeaaa
