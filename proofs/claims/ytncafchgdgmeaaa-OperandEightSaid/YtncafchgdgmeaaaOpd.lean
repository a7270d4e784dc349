/-
  Operands and instructions as plain data. No condition.
-/
import Derived.WalkKit
namespace Go.Proofs.Ytncafchgdgmeaaa
open Go Go.RowKit
set_option linter.unusedVariables false

structure Opd where
  k : Int
  r : Int
  imm : Int
  b : Int
  x : Int
  sc : Int

structure Opd.Ok (o : Opd) : Prop where
  imm : 0 ≤ o.imm ∧ o.imm < 4294967296
  sc : 0 ≤ o.sc ∧ o.sc < 4294967296

def Opd.val (o : Opd) : Value := .agg #[.int .i64 o.k, .int .i64 o.r, .int .u32 o.imm, .int .i64 o.b, .int .i64 o.x, .int .u32 o.sc]

theorem Opd.ext' {a b : Opd} (h1 : a.k = b.k) (h2 : a.r = b.r) (h3 : a.imm = b.imm) (h4 : a.b = b.b) (h5 : a.x = b.x) (h6 : a.sc = b.sc) : a = b := by
  cases a; cases b; simp_all

def Opd.none : Opd := ⟨0, 0, 0, 0, 0, 0⟩
def regO (r : Int) : Opd := ⟨1, r, 0, 0, 0, 0⟩
def immO (v : Int) : Opd := ⟨2, 0, v, 0, 0, 0⟩

/-- An instruction: its operation, its condition, both operands, whether it is repeated, its bytes. -/
structure Ins where
  op : Int
  cond : Int
  a : Opd
  b : Opd
  rep : Bool
  len : Int

def Ins.zero : Ins := ⟨0, 0, Opd.none, Opd.none, false, 0⟩

def Ins.cells (i : Ins) : Array Value := #[.int .i64 i.op, .int .i64 i.cond,
  .int .i64 i.a.k, .int .i64 i.a.r, .int .u32 i.a.imm, .int .i64 i.a.b, .int .i64 i.a.x, .int .u32 i.a.sc,
  .int .i64 i.b.k, .int .i64 i.b.r, .int .u32 i.b.imm, .int .i64 i.b.b, .int .i64 i.b.x, .int .u32 i.b.sc,
  .bool i.rep, .int .i64 i.len]

theorem Ins.size (i : Ins) : i.cells.size = 16 := rfl
theorem Ins.one (i : Ins) : i.cells.all (·.oneCell') = true := by simp [Ins.cells, Value.oneCell']

end Go.Proofs.Ytncafchgdgmeaaa
