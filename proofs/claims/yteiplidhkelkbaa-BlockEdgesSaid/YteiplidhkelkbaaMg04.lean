/-
  Package bits: Field, by its contract.
-/
import Derived.Test.YteiplidhkelkbaaRows
import Derived.Test.YteiplidhkelkbaaMg01
import Derived.Laws.BitsAllLaws
import Derived.WalkLawsBesides
import Derived.Lib.Hide
import Derived.Laws.IdiomCopy
import Derived.WalkKit
import Derived.Test.YteiplidhkelkbaaMg03
import Derived.Test.YteiplidhkelkbaaMg02
import Derived.Outline
import Derived.StillTailTactics
namespace Go.Proofs.Yteiplidhkelkbaa
open Go Go.RowKit
set_option linter.unusedVariables false
set_option linter.unusedSimpArgs false

theorem and_mask (x n : Nat) (hx : x < 18446744073709551616) (hn : n ≤ 32) : bits .and .u64 (x : Int) (IntKind.u64.wrap (IntKind.u64.wrap (2 ^ n) - 1)) = ((x % 2 ^ n : Nat) : Int) := by
  have h1 : (2 : Nat) ^ n ≤ 2 ^ 32 := Nat.pow_le_pow_right (by decide) hn
  have h2 : 0 < (2 : Nat) ^ n := Nat.pow_pos (by decide)
  have e : IntKind.u64.wrap (IntKind.u64.wrap (2 ^ n) - 1) = ((2 ^ n - 1 : Nat) : Int) := by
    have : ((2 : Int) ^ n) = ((2 ^ n : Nat) : Int) := by push_cast; rfl
    rw [this]
    generalize (2 : Nat) ^ n = m at *
    simp [IntKind.wrap, IntKind.signed, IntKind.bits]
    omega
  rw [e, u64_and_nat _ _ hx (by omega), Nat.and_two_pow_sub_one_eq_mod]

set_option maxRecDepth 100000 in
set_option maxHeartbeats 400000 in
theorem Field_any (x : Int) (a n : Nat) (w : World) (h0 : 0 ≤ x) (h1 : x < 4294967296) (ha : a < 32) (hn : n ≤ 32) :
    Calls Try.prog 41 #[.int .u32 x, .int .i64 a, .int .i64 n] w fun e w' => e = .returned (.int .u32 (x / 2 ^ a % 2 ^ n)) ∧ w = w' := by
  go_enter Try.func41, Try.ntmps41
  go_wp2
  go_ret
  refine ⟨ret_of (congrArg (Value.int .u32) ?_), rfl⟩
  obtain ⟨x, rfl⟩ := Int.eq_ofNat_of_zero_le h0
  have e : (x : Int) / 2 ^ a = ((x / 2 ^ a : Nat) : Int) := by push_cast; rfl
  have h3 : x / 2 ^ a ≤ x := Nat.div_le_self _ _
  rw [e, and_mask _ _ (by omega) hn]
  have h4 : x / 2 ^ a % 2 ^ n ≤ x / 2 ^ a := Nat.mod_le _ _
  have h5 : (((x / 2 ^ a % 2 ^ n : Nat) : Int)) % 4294967296 = ((x / 2 ^ a % 2 ^ n : Nat) : Int) := by omega
  rw [h5]
  push_cast
  rfl

end Go.Proofs.Yteiplidhkelkbaa

/-
  Operands and instructions as plain data. No condition.
-/
namespace Go.Proofs.Yteiplidhkelkbaa
open Go Go.RowKit
set_option linter.unusedVariables false

structure Opd where
  k : Int
  r : Int
  imm : Int
  b : Int
  x : Int
  sc : Int

structure Opd.Ok (o : Opd) : Prop where
  imm : 0 ≤ o.imm ∧ o.imm < 4294967296
  sc : 0 ≤ o.sc ∧ o.sc < 4294967296

def Opd.val (o : Opd) : Value := .agg #[.int .i64 o.k, .int .i64 o.r, .int .u32 o.imm, .int .i64 o.b, .int .i64 o.x, .int .u32 o.sc]

theorem Opd.ext' {a b : Opd} (h1 : a.k = b.k) (h2 : a.r = b.r) (h3 : a.imm = b.imm) (h4 : a.b = b.b) (h5 : a.x = b.x) (h6 : a.sc = b.sc) : a = b := by
  cases a; cases b; simp_all

def Opd.none : Opd := ⟨0, 0, 0, 0, 0, 0⟩
def regO (r : Int) : Opd := ⟨1, r, 0, 0, 0, 0⟩
def immO (v : Int) : Opd := ⟨2, 0, v, 0, 0, 0⟩

/-- An instruction: its operation, its condition, both operands, whether it is repeated, its bytes. -/
structure Ins where
  op : Int
  cond : Int
  a : Opd
  b : Opd
  rep : Bool
  len : Int

def Ins.zero : Ins := ⟨0, 0, Opd.none, Opd.none, false, 0⟩

def Ins.cells (i : Ins) : Array Value := #[.int .i64 i.op, .int .i64 i.cond,
  .int .i64 i.a.k, .int .i64 i.a.r, .int .u32 i.a.imm, .int .i64 i.a.b, .int .i64 i.a.x, .int .u32 i.a.sc,
  .int .i64 i.b.k, .int .i64 i.b.r, .int .u32 i.b.imm, .int .i64 i.b.b, .int .i64 i.b.x, .int .u32 i.b.sc,
  .bool i.rep, .int .i64 i.len]

theorem Ins.size (i : Ins) : i.cells.size = 16 := rfl
theorem Ins.one (i : Ins) : i.cells.all (·.oneCell') = true := by simp [Ins.cells, Value.oneCell']

end Go.Proofs.Yteiplidhkelkbaa

/-
  The guest's state and operands as plain data, how they lie in cells; the small functions of packages bits, state and operand, each by its contract.
-/
namespace Go.Proofs.Yteiplidhkelkbaa
open Go Go.RowKit
set_option linter.unusedVariables false
set_option linter.unusedSimpArgs false

/-! ### The state -/
structure St where
  R : Nat → Int
  pc : Int
  cf : Bool
  pf : Bool
  af : Bool
  zf : Bool
  sf : Bool
  of_ : Bool
  df : Bool
  f : Int

structure St.Ok (s : St) : Prop where
  R : ∀ i, 0 ≤ s.R i ∧ s.R i < 4294967296
  pc : 0 ≤ s.pc ∧ s.pc < 4294967296
  f : 0 ≤ s.f ∧ s.f < 18446744073709551616

def St.cells (s : St) : Array Value := #[.int .u32 (s.R 0), .int .u32 (s.R 1), .int .u32 (s.R 2), .int .u32 (s.R 3), .int .u32 (s.R 4), .int .u32 (s.R 5), .int .u32 (s.R 6), .int .u32 (s.R 7), .int .u32 s.pc,
  .bool s.cf, .bool s.pf, .bool s.af, .bool s.zf, .bool s.sf, .bool s.of_, .bool s.df, .int .u64 s.f]

def St.zero : St := ⟨fun _ => 0, 0, false, false, false, false, false, false, false, 0⟩

theorem St.zero_ok : St.zero.Ok := ⟨fun _ => by simp [St.zero], by simp [St.zero], by simp [St.zero]⟩

theorem St.size (s : St) : s.cells.size = 17 := rfl

theorem St.cR (s : St) (i : Nat) (h : i < 8) : s.cells[i]? = some (.int .u32 (s.R i)) := by
  match i, h with
  | 0, _ => rfl
  | 1, _ => rfl
  | 2, _ => rfl
  | 3, _ => rfl
  | 4, _ => rfl
  | 5, _ => rfl
  | 6, _ => rfl
  | 7, _ => rfl

theorem St.one (s : St) : s.cells.all (·.oneCell') = true := by simp [St.cells, Value.oneCell']

/-- A register; of none 0. -/
def St.reg (s : St) (r : Int) : Int := if r = -1 then 0 else s.R (r % 8).toNat

end Go.Proofs.Yteiplidhkelkbaa

/-
  Package page: Write, by its contract.
-/
namespace Go.Proofs.Yteiplidhkelkbaa
open Go Go.RowKit
set_option linter.unusedVariables false
set_option linter.unusedSimpArgs false

structure WriteC (M : Mem) (a pb : Nat) (w : World) (g : Nat) (cur : Array Value) (w1 : World) : Prop where
  f : w1.heap[w.heap.size]? = some (.cells #[.int .i64 0, .int .u32 0, .int .u32 0, .int .i64 0] 32 (0, 0))
  k : w1.heap[w.heap.size + 1]? = some (.cells #[.bool false] 4 (0, 0))
  m : IsMem w1 a pb M
  u : Upd [pb] w w1
  g : w1.heap[g]? = some (.cells cur 77 (0, 0))

theorem WriteC.store {M : Mem} {a pb : Nat} {w w1 : World} {g : Nat} {cur : Array Value} (h : WriteC M a pb w g cur w1) (ha : a < w.heap.size) (hp : pb < w.heap.size) (hg : w.heap.size ≤ g) {y : Int} (h0 : 0 ≤ y) (h1 : y < 16384) {b : Int} (hb0 : 0 ≤ b) (hb1 : b ≤ 255) :
    WriteC (M.setB y.toNat b) a pb w g cur (w1.setCell ⟨pb, cellOf y, none⟩ (.int .u8 b)) :=
  ⟨heap_set_keep _ (by simp <;> omega) h.f, heap_set_keep _ (by simp <;> omega) h.k, h.m.store h0 h1 hb0 hb1, h.u.setCell (by simp) _, heap_set_keep _ (by simp <;> omega) h.g⟩

end Go.Proofs.Yteiplidhkelkbaa

/-
  Faults as plain data; the rights that bytes lack; results in memory: a bool, a fault. No condition.
-/
namespace Go.Proofs.Yteiplidhkelkbaa
open Go Go.RowKit
set_option linter.unusedVariables false
set_option linter.unusedSimpArgs false

theorem fault_info : (Try.prog.info? 32).map (·.size) = some 4 := by kernel_rfl

theorem store4 {w : World} {b : Nat} {t : TypeId} {a0 a1 a2 a3 : Value} (h : w.heap[b]? = some (.cells #[a0, a1, a2, a3] t (0, 0))) (u0 u1 u2 u3 : Value) :
    ((((w.setCell ⟨b, 0, none⟩ u0).setCell ⟨b, 0 + 1, none⟩ u1).setCell ⟨b, 0 + 2, none⟩ u2).setCell ⟨b, 0 + 3, none⟩ u3).heap[b]? = some (.cells #[u0, u1, u2, u3] t (0, 0)) :=
  heap_set_same (heap_set_same (heap_set_same (heap_set_same h 0 u0) 1 u1) 2 u2) 3 u3

theorem Upd_store4 {S : List Nat} {w0 w : World} {b : Nat} (h : Upd S w0 w) (hb : b ∈ S ∨ w0.heap.size ≤ b) (u0 u1 u2 u3 : Value) :
    Upd S w0 ((((w.setCell ⟨b, 0, none⟩ u0).setCell ⟨b, 0 + 1, none⟩ u1).setCell ⟨b, 0 + 2, none⟩ u2).setCell ⟨b, 0 + 3, none⟩ u3) :=
  (((h.setCell (p := ⟨b, 0, none⟩) hb _).setCell (p := ⟨b, 0 + 1, none⟩) hb _).setCell (p := ⟨b, 0 + 2, none⟩) hb _).setCell (p := ⟨b, 0 + 3, none⟩) hb _

/-- A fault's four numbers. -/
structure Flt where
  k : Int
  pc : Int
  a : Int
  wt : Int
  deriving DecidableEq

def Flt.cells (f : Flt) : Array Value := #[.int .i64 f.k, .int .u32 f.pc, .int .u32 f.a, .int .i64 f.wt]
def Flt.val (f : Flt) : Value := .agg #[.int .i64 f.k, .int .u32 f.pc, .int .u32 f.a, .int .i64 f.wt]
def Flt.zero : Flt := ⟨0, 0, 0, 0⟩

def Mem.rdF (M : Mem) (x bytes right : Int) : Flt := match M.bad x (rightI right) (widthI bytes).toNat with | none => Flt.zero | some i => ⟨1, 0, plus x i, rightI right⟩
theorem Mem.readF_val (M : Mem) (x bytes right : Int) : M.readF x bytes right = (M.rdF x bytes right).val := by
  unfold Mem.readF Mem.rdF; cases M.bad x (rightI right) (widthI bytes).toNat <;> rfl
theorem res_bool {tmps : Array Value} {w : World} (a : Tmp) (b : Nat) (k : Bool) (ha : tmps.getD a undef = .pointer (some ⟨b, 0, none⟩)) (hb : w.heap[b]? = some (.cells #[.bool k] 4 (0, 0))) : (resRun tmps (.cell a 4)).run Try.prog w = .ok (.bool k) w := by
  have hc : w.cell? ⟨b, 0, none⟩ = some (.bool k) := by rw [cells_of hb]; rfl
  simp only [resRun, Sem.run_bind, ha]
  simp [asAddr, go_sem, hc]

theorem res_flt {tmps : Array Value} {w : World} (a : Tmp) (b : Nat) (F : Flt) (ha : tmps.getD a undef = .pointer (some ⟨b, 0, none⟩)) (hb : w.heap[b]? = some (.cells #[.int .i64 F.k, .int .u32 F.pc, .int .u32 F.a, .int .i64 F.wt] 32 (0, 0))) :
    (resRun tmps (.cell a 32)).run Try.prog w = .ok F.val w :=
  res_row a 32 b _ _ ha hb Try.underlying32 rfl fault_info

end Go.Proofs.Yteiplidhkelkbaa

/-
  A region whose order of operations is drawn, with an invariant that knows which operations are done. No condition; no program here.
-/
namespace Go.Proofs.Yteiplidhkelkbaa
open Go Go.RowKit
set_option linter.unusedVariables false
set_option linter.unusedSimpArgs false

def updD (d : Nat → Bool) (i : Nat) : Nat → Bool := fun j => if j = i then true else d j
def doneD (listed : Array Bool) : Nat → Bool := fun j => listed.getD j false

theorem doneD_set {listed : Array Bool} {i : Nat} (h : i < listed.size) : doneD (listed.setIfInBounds i true) = updD (doneD listed) i := by
  funext j
  simp only [doneD, updD]
  by_cases e : j = i
  · subst e; simp [h]
  · rw [if_neg e, getD_set_ne false (fun h => e h.symm)]

theorem doneD_none (n : Nat) : doneD (Array.replicate n false) = fun _ => false := by
  funext j; exact getD_replicate_false _ _

section
variable {P : Program} {ops : Array Oper} {B : (Nat → Bool) → World → Prop} {X : List PanicEntry → World → Prop} {fin : List Nat → Act → Prop} {dead : List Nat} {i : Nat} {o : Oper} {rest : List Oper} {a : Act}

end

end Go.Proofs.Yteiplidhkelkbaa

/-
  Package operand: lacking, can, Can, must, Read8, Write8, each by its contract.
-/
namespace Go.Proofs.Yteiplidhkelkbaa
open Go Go.RowKit
set_option linter.unusedVariables false
set_option linter.unusedSimpArgs false

structure CanB (w w1 : World) : Prop where
  f : w1.heap[w.heap.size]? = some (.cells #[.int .i64 0, .int .u32 0, .int .u32 0, .int .i64 0] 32 (0, 0))
  k : w1.heap[w.heap.size + 1]? = some (.cells #[.bool false] 4 (0, 0))
  u : Upd [] w w1

theorem CanB.start (w : World) : CanB w ((w.alloc (.cells #[.int .i64 0, .int .u32 0, .int .u32 0, .int .i64 0] 32)).alloc (.cells #[.bool false] 4)) :=
  ⟨heap_alloc2_old _ _ _, heap_alloc2_new _ _ _, ((Upd.refl _ _).alloc _).alloc _⟩

end Go.Proofs.Yteiplidhkelkbaa

/-
  Package step: its deferred recovery. No condition.
-/
namespace Go.Proofs.Yteiplidhkelkbaa
open Go Go.RowKit
set_option linter.unusedVariables false
set_option linter.unusedSimpArgs false

set_option maxRecDepth 100000 in
set_option maxHeartbeats 1000000 in
theorem scaught_panicking (pc : Int) (fb kb : Nat) (y0 y1 y2 y3 k0 : Value) (x0 x1 x2 x3 : Int) (older : List PanicEntry) (w : World)
    (hf : w.heap[fb]? = some (.cells #[y0, y1, y2, y3] 32 (0, 0))) (hk : w.heap[kb]? = some (.cells #[k0] 4 (0, 0))) (hne : fb ≠ kb) :
    CallsD Try.prog 22 #[.int .u32 pc, .pointer (some ⟨fb, 0, none⟩), .pointer (some ⟨kb, 0, none⟩)] (.panicking ({ v := .iface 32 (.agg #[.int .i64 x0, .int .u32 x1, .int .u32 x2, .int .i64 x3]), recovered := false } :: older)) w fun e u' w' =>
      e = .returned (.tuple #[]) ∧ u' = .panicking ({ v := .iface 32 (.agg #[.int .i64 x0, .int .u32 x1, .int .u32 x2, .int .i64 x3]), recovered := true } :: older) ∧
        w'.heap[fb]? = some (.cells #[.int .i64 x0, .int .u32 pc, .int .u32 x2, .int .i64 x3] 32 (0, 0)) ∧ w'.heap[kb]? = some (.cells #[.bool false] 4 (0, 0)) ∧ Upd [fb, kb] w w' := by
  refine callsD_of_wpS Try.func22 rfl fun c₀ cs hu => ?_
  simp only [Try.ntmps22, List.size_toArray, List.length_cons, List.length_nil, Nat.reduceAdd, Nat.reduceSub, Array.replicate_succ, Array.replicate_zero, List.push_toArray, List.append_toArray, List.nil_append, List.cons_append]
  apply wpS_seq
  apply wpS_region
  simp [wpOpsS, go_sem, recoverD, hu, Try.ntmps22, Exit.thenS]
  refine wpS_of_wp ?_
  clear hu
  have hfl := lt_of_heap hf
  have hkl := lt_of_heap hk
  have hcf : ∀ o, w.cell? ⟨fb, o, none⟩ = #[y0, y1, y2, y3][o]? := cells_of hf
  have hck : ∀ o, w.cell? ⟨kb, o, none⟩ = #[k0][o]? := cells_of hk
  have hff : ∀ o, w.frozen? ⟨fb, o, none⟩ = false := free_of hf
  have hfk : ∀ o, w.frozen? ⟨kb, o, none⟩ = false := free_of hk
  have HF := Lib.hid hf
  have HK := Lib.hid hk
  clear hf hk
  have hta := assert_fault
  go_wp2_with fail
  refine ⟨rfl, _, rfl, _, results_none rfl _ _ _, rfl, rfl, ?_, ?_, ?_⟩
  · refine heap_alloc_keep _ (heap_set_keep _ hne ?_)
    have h := heap_set_same (heap_set_same (heap_set_same (heap_set_same HF.out 0 (.int .i64 x0)) 1 (.int .u32 pc)) 2 (.int .u32 x2)) 3 (.int .i64 x3)
    exact h
  · refine heap_alloc_keep _ ?_
    have h := heap_set_keep (a := ⟨fb, 3, none⟩) (.int .i64 x3) hne.symm (heap_set_keep (a := ⟨fb, 2, none⟩) (.int .u32 x2) hne.symm (heap_set_keep (a := ⟨fb, 1, none⟩) (.int .u32 pc) hne.symm (heap_set_keep (a := ⟨fb, 0, none⟩) (.int .i64 x0) hne.symm HK.out)))
    exact heap_set_same h 0 (.bool false)
  · exact ((((((Upd.refl _ _).setCell (by simp) _).setCell (by simp) _).setCell (by simp) _).setCell (by simp) _).setCell (by simp) _).alloc _

set_option maxRecDepth 100000 in
set_option maxHeartbeats 1000000 in
theorem scaught_idle (pc : Int) (fb kb : Nat) (w : World) :
    CallsD Try.prog 22 #[.int .u32 pc, .pointer (some ⟨fb, 0, none⟩), .pointer (some ⟨kb, 0, none⟩)] .returning w fun e u' w' => e = .returned (.tuple #[]) ∧ u' = .returning ∧ w = w' := by
  refine callsD_of_wpS Try.func22 rfl fun c₀ cs hu => ?_
  simp only [Try.ntmps22, List.size_toArray, List.length_cons, List.length_nil, Nat.reduceAdd, Nat.reduceSub, Array.replicate_succ, Array.replicate_zero, List.push_toArray, List.append_toArray, List.nil_append, List.cons_append]
  apply wpS_seq
  apply wpS_region
  simp [wpOpsS, go_sem, recoverD, hu, Try.ntmps22, Exit.thenS]
  refine wpS_of_wp ?_
  have HU := Lib.hid hu
  clear hu
  go_wp2_with fail
  refine ⟨rfl, .returning, ?_, _, results_none rfl _ _ _, rfl, rfl, rfl⟩
  rw [← HU.out]

def sDefers (pc : Int) (fb kb : Nat) : List Deferred :=
  [{ target := .fn (.func 22) #[], args := #[.int .u32 pc, .pointer (some ⟨fb, 0, none⟩), .pointer (some ⟨kb, 0, none⟩)] }]

theorem sdoor_panic {fn : Func} {tmps : Array Value} {R : Ending → World → Prop} {w1 : World} {pc : Int} {fb kb : Nat} {y0 y1 y2 y3 k0 : Value} (F : Flt) (V : Value)
    (hres : ∀ w2, w2.heap[fb]? = some (.cells #[.int .i64 F.k, .int .u32 pc, .int .u32 F.a, .int .i64 F.wt] 32 (0, 0)) → w2.heap[kb]? = some (.cells #[.bool false] 4 (0, 0)) → Upd [fb, kb] w1 w2 → (results fn tmps).run Try.prog w2 = .ok V w2)
    (hf : w1.heap[fb]? = some (.cells #[y0, y1, y2, y3] 32 (0, 0))) (hk : w1.heap[kb]? = some (.cells #[k0] 4 (0, 0))) (hne : fb ≠ kb)
    (hR : ∀ w2, Upd [fb, kb] w1 w2 → R (.returned V) w2) :
    Leaves Try.prog fn tmps R (sDefers pc fb kb) (.panicking [{ v := .iface 32 F.val, recovered := false }]) w1 := by
  refine leaves_cons (f := 22) (args := #[.int .u32 pc, .pointer (some ⟨fb, 0, none⟩), .pointer (some ⟨kb, 0, none⟩)]) (by simp) (by simp [go_sem]) ?_
  refine (scaught_panicking pc fb kb _ _ _ _ _ _ _ _ _ [] w1 hf hk hne).mono ?_
  rintro e u' w2 ⟨rfl, rfl, hf, hk, hU⟩
  simp only [settle, List.dropWhile_nil]
  exact ⟨_, hres w2 hf hk hU, hR _ hU⟩

theorem sdoor_ret {fn : Func} {tmps : Array Value} {R : Ending → World → Prop} {w1 : World} {pc : Int} {fb kb : Nat} (V : Value) (hres : (results fn tmps).run Try.prog w1 = .ok V w1) (hR : R (.returned V) w1) :
    Leaves Try.prog fn tmps R (sDefers pc fb kb) .returning w1 := by
  refine leaves_cons (f := 22) (args := #[.int .u32 pc, .pointer (some ⟨fb, 0, none⟩), .pointer (some ⟨kb, 0, none⟩)]) (by simp) (by simp [go_sem]) ?_
  refine (scaught_idle _ _ _ w1).mono ?_
  rintro e u' w2 ⟨rfl, rfl, rfl⟩
  simp only [settle]
  exact ⟨_, hres, hR⟩

end Go.Proofs.Yteiplidhkelkbaa

/-
  Package bits: Sign8, Word: each by its contract.
-/
namespace Go.Proofs.Yteiplidhkelkbaa
open Go Go.RowKit
set_option linter.unusedVariables false
set_option linter.unusedSimpArgs false

set_option maxRecDepth 100000 in
set_option maxHeartbeats 400000 in
theorem signed8_any (x : Int) (w : World) (h0 : 0 ≤ x) (h1 : x < 4294967296) :
    Calls Try.prog 53 #[.int .u32 x, .int .i64 8] w fun e w' => e = .returned (.int .i32 (if x % 256 < 128 then x % 256 else x % 256 - 256)) ∧ w = w' := by
  obtain ⟨r, hr⟩ : ∃ r : Int, (if x % 256 < 128 then x % 256 else x % 256 - 256) = r := ⟨_, rfl⟩
  have e1 : wrap32 (x * 16777216 % 4294967296) / 16777216 = r := by
    rw [← hr]
    unfold wrap32
    split <;> omega
  rw [hr]
  clear hr h0 h1
  go_enter Try.func53, Try.ntmps53
  go_wp2
  go_ret
  exact ⟨rfl, rfl⟩

/-- The lowest byte of a word with its sign. -/
def sign8 (x : Int) : Int := if x % 256 < 128 then x % 256 else x % 256 + 4294967040

set_option maxRecDepth 100000 in
set_option maxHeartbeats 400000 in
theorem Sign8_any (x : Int) (w : World) (h0 : 0 ≤ x) (h1 : x < 4294967296) :
    Calls Try.prog 46 #[.int .u32 x] w fun e w' => e = .returned (.int .u32 (sign8 x)) ∧ w = w' := by
  obtain ⟨r, hr⟩ : ∃ r : Int, (if x % 256 < 128 then x % 256 else x % 256 - 256) = r := ⟨_, rfl⟩
  have e1 : r % 4294967296 = sign8 x := by
    rw [← hr]
    unfold sign8
    split <;> omega
  have HX := Lib.hid (And.intro h0 h1)
  have HR := Lib.hid hr
  clear h0 h1 hr
  go_enter Try.func46, Try.ntmps46
  go_wp2_with (go_at_call 53; refine (signed8_any x _ HX.out.1 HX.out.2).mono ?_; rintro e w' ⟨rfl, rfl⟩; rw [HR.out])
  go_ret
  exact ⟨ret_of (congrArg (Value.int .u32) (by first | rfl | exact e1)), rfl⟩

theorem cell_alloc_keep {w : World} {p : Addr} {v : Value} (o : Obj) (h : w.cell? p = some v) (hp : p.block < w.heap.size) : (w.alloc o).cell? p = some v := by
  rw [World.cell?, heap_alloc_old _ _ hp]
  exact h

theorem word_join (a b c d : Int) (ha : 0 ≤ a ∧ a ≤ 255) (hb : 0 ≤ b ∧ b ≤ 255) (hc : 0 ≤ c ∧ c ≤ 255) (hd : 0 ≤ d ∧ d ≤ 255) :
    bits .or .u32 (bits .or .u32 (bits .or .u32 a (b * 256)) (c * 65536)) (d * 16777216) = a + b * 256 + c * 65536 + d * 16777216 := by
  obtain ⟨a, rfl⟩ := Int.eq_ofNat_of_zero_le ha.1
  obtain ⟨b, rfl⟩ := Int.eq_ofNat_of_zero_le hb.1
  obtain ⟨c, rfl⟩ := Int.eq_ofNat_of_zero_le hc.1
  obtain ⟨d, rfl⟩ := Int.eq_ofNat_of_zero_le hd.1
  have q1 := u32_or_nat a (b * 256) (by omega) (by omega)
  have q2 := u32_or_nat (b * 256 + a) (c * 65536) (by omega) (by omega)
  have q3 := u32_or_nat (c * 65536 + (b * 256 + a)) (d * 16777216) (by omega) (by omega)
  rw [Nat.or_comm, nat_join 8 _ _ (by omega) (by omega)] at q1
  rw [Nat.or_comm, nat_join 16 _ _ (by omega) (by omega)] at q2
  rw [Nat.or_comm, nat_join 24 _ _ (by omega) (by omega)] at q3
  have e1 : (b : Int) * 256 = ((b * 256 : Nat) : Int) := by omega
  have e2 : (c : Int) * 65536 = ((c * 65536 : Nat) : Int) := by omega
  have e3 : (d : Int) * 16777216 = ((d * 16777216 : Nat) : Int) := by omega
  rw [e1, q1, e2, q2, e3, q3]
  omega

set_option maxRecDepth 100000 in
set_option maxHeartbeats 400000 in
theorem Word_any (g o c : Nat) (f : Nat → Int) (w : World) (hf : ∀ i, i < 4 → w.cell? ⟨g, o + i, none⟩ = some (.int .u8 (f i))) (hr : ∀ i, 0 ≤ f i ∧ f i ≤ 255) (hg : g < w.heap.size) :
    Calls Try.prog 47 #[.slice (some ⟨g, o, none⟩) 4 c] w fun e w' => e = .returned (.int .u32 (f 0 + f 1 * 256 + f 2 * 65536 + f 3 * 16777216)) ∧ Upd [] w w' := by
  have hn := heap_alloc_new w (.cells #[Value.int .u8 0, .int .u8 0, .int .u8 0, .int .u8 0] 97)
  have hcp := run_copy_cells (P := Try.prog) (w.alloc (.cells #[Value.int .u8 0, .int .u8 0, .int .u8 0, .int .u8 0] 97)) 28 28 3 5 w.heap.size 0 4 4 ⟨g, o, none⟩ 4 c [.int .u8 (f 0), .int .u8 (f 1), .int .u8 (f 2), .int .u8 (f 3)]
    Try.underlying28 (by kernel_rfl) (by rfl) (by
      intro j v hv
      rw [Addr.add_mid]
      refine cell_alloc_keep _ ?_ hg
      rcases j with _ | _ | _ | _ | j
      · rw [List.getElem?_cons_zero, Option.some.injEq] at hv; subst hv; exact hf 0 (by decide)
      · rw [List.getElem?_cons_succ, List.getElem?_cons_zero, Option.some.injEq] at hv; subst hv; exact hf 1 (by decide)
      · rw [List.getElem?_cons_succ, List.getElem?_cons_succ, List.getElem?_cons_zero, Option.some.injEq] at hv; subst hv; exact hf 2 (by decide)
      · rw [List.getElem?_cons_succ, List.getElem?_cons_succ, List.getElem?_cons_succ, List.getElem?_cons_zero, Option.some.injEq] at hv; subst hv; exact hf 3 (by decide)
      · simp at hv) (by intro j hj; rw [cells_of hn]; simp at hj ⊢; omega) (by intro j hj; rw [free_of hn]) (by simp [Value.oneCell'])
  obtain ⟨w2, hw2⟩ : ∃ w2, (w.alloc (.cells #[Value.int .u8 0, .int .u8 0, .int .u8 0, .int .u8 0] 97)).setCells w.heap.size 0 [.int .u8 (f 0), .int .u8 (f 1), .int .u8 (f 2), .int .u8 (f 3)] = w2 := ⟨_, rfl⟩
  rw [hw2] at hcp
  have h2 : w2.heap[w.heap.size]? = some (.cells #[.int .u8 (f 0), .int .u8 (f 1), .int .u8 (f 2), .int .u8 (f 3)] 97 (0, 0)) := by
    rw [← hw2, heap_setCells_same _ _ _ _ hn]
    rfl
  have HU := Lib.hid (show Upd [] w w2 by rw [← hw2]; exact ((Upd.refl [] w).alloc _).setCells (.inr (Nat.le_refl _)) _ _)
  have hc2 := cells_of h2
  have hj := word_join (f 0) (f 1) (f 2) (f 3) (hr 0) (hr 1) (hr 2) (hr 3)
  have r0 := hr 0
  have r1 := hr 1
  have r2 := hr 2
  have r3 := hr 3
  have s0 : f 0 % 4294967296 = f 0 := by omega
  have s1 : f 1 * 256 % 4294967296 = f 1 * 256 := by omega
  have s2 : f 2 * 65536 % 4294967296 = f 2 * 65536 := by omega
  have s3 : f 3 * 16777216 % 4294967296 = f 3 * 16777216 := by omega
  clear hf hr hn hg r0 r1 r2 r3 hw2 h2
  go_enter Try.func47, Try.ntmps47
  go_wp2_with fail
  go_ret
  exact ⟨ret_of (congrArg (Value.int .u32) (by first | rfl | exact hj)), HU.out⟩

end Go.Proofs.Yteiplidhkelkbaa

/-
  Bytes as instructions, as plain data: what each function of the decoder makes of a list of bytes from a place on. No condition; no program in sight.
-/
namespace Go.Proofs.Yteiplidhkelkbaa
open Go Go.RowKit
set_option linter.unusedVariables false

/-- What a reading makes: a value and the place behind it, or an error's number. -/
inductive DR (α : Type) where
  | ok (v : α) (k : Nat)
  | err (c : Int)

def DR.bind {α β : Type} (r : DR α) (f : α → Nat → DR β) : DR β :=
  match r with
  | .ok v k => f v k
  | .err c => .err c

theorem DR.bind_ok {α β : Type} (v : α) (k : Nat) (f : α → Nat → DR β) : (DR.ok v k).bind f = f v k := rfl
theorem DR.bind_err {α β : Type} (c : Int) (f : α → Nat → DR β) : (DR.err c : DR α).bind f = .err c := rfl

def dcByte (L : List Int) (k : Nat) : DR Int := if k < L.length then .ok (L.getD k 0) (k + 1) else .err 10

def wordAt (L : List Int) (k : Nat) : Int := L.getD k 0 + L.getD (k + 1) 0 * 256 + L.getD (k + 2) 0 * 65536 + L.getD (k + 3) 0 * 16777216

def dcWord (L : List Int) (k : Nat) : DR Int := if k + 4 ≤ L.length then .ok (wordAt L k) (k + 4) else .err 10

/-- A byte with its sign, as a word. -/
def sx8 (b : Int) : Int := if b < 128 then b else b + 4294967040

def dcImm8 (L : List Int) (k : Nat) : DR Opd := (dcByte L k).bind fun b k => .ok (immO (sx8 b)) k
def dcSmall (L : List Int) (k : Nat) : DR Opd := (dcByte L k).bind fun b k => .ok (immO b) k
def dcImm32 (L : List Int) (k : Nat) : DR Opd := (dcWord L k).bind fun v k => .ok (immO v) k

structure Mrm where
  mod : Int
  reg : Int
  rm : Int

def Mrm.cells (m : Mrm) : Array Value := #[.int .i64 m.mod, .int .i64 m.reg, .int .i64 m.rm]
def mrmOf (b : Int) : Mrm := ⟨b / 64, b / 8 % 8, b % 8⟩

def dcMrm (L : List Int) (k : Nat) : DR Mrm := (dcByte L k).bind fun b k => .ok (mrmOf b) k

def dcTail (L : List Int) (mod base x sc : Int) (k : Nat) : DR Opd :=
  if mod = 1 then (dcByte L k).bind fun b k => .ok ⟨3, 0, sx8 b, base, x, sc⟩ k
  else if mod = 2 then (dcWord L k).bind fun v k => .ok ⟨3, 0, v, base, x, sc⟩ k
  else if base = 5 then (dcWord L k).bind fun v k => .ok ⟨3, 0, v, -1, x, sc⟩ k
  else .ok ⟨3, 0, 0, base, x, sc⟩ k

def dcPlace (L : List Int) (m : Mrm) (k : Nat) : DR Opd :=
  if m.mod = 3 then .ok (regO m.rm) k
  else if m.rm = 4 then (dcByte L k).bind fun s k => dcTail L m.mod (s % 8) (if s / 8 % 8 = 4 then -1 else s / 8 % 8) (if s / 8 % 8 = 4 then 1 else 2 ^ (s / 64).toNat) k
  else dcTail L m.mod m.rm (-1) 1 k

def eightI (n : Int) : Int := n + 3
def shiftsI (n : Int) : Int := if n = 0 then 21 else if n = 1 then 22 else if n = 4 then 23 else if n = 5 then 24 else if n = 7 then 25 else 0
def othersI (n : Int) : Int := if n = 2 then 14 else if n = 3 then 15 else if n = 4 then 16 else if n = 5 then 17 else if n = 6 then 19 else if n = 7 then 20 else 0
def numbersI (n : Int) : Int := if n = 0 then 47 else if n = 1 then 48 else if n = 2 then 53 else if n = 4 then 49 else if n = 6 then 50 else 0
def fldI (n : Int) : Int := if n = 0 then 45 else if n = 3 then 46 else 0
def lastI (n : Int) : Int := if n = 0 then 12 else if n = 1 then 13 else if n = 2 then 30 else if n = 4 then 32 else if n = 6 then 28 else 0

def dcTwo (L : List Int) (op : Int) (toReg : Bool) (k : Nat) : DR Ins :=
  (dcMrm L k).bind fun m k => (dcPlace L m k).bind fun o k => .ok (if toReg = true then ⟨op, 0, regO m.reg, o, false, 0⟩ else ⟨op, 0, o, regO m.reg, false, 0⟩) k

def dcOne (L : List Int) (op : Int) (m : Mrm) (k : Nat) : DR Ins := (dcPlace L m k).bind fun o k => .ok ⟨op, 0, o, Opd.none, false, 0⟩ k

def dcRow (L : List Int) (c : Int) (k : Nat) : DR Ins :=
  if c % 8 = 1 then dcTwo L (eightI (c / 8)) false k
  else if c % 8 = 3 then dcTwo L (eightI (c / 8)) true k
  else if c % 8 = 5 then (dcImm32 L k).bind fun o k => .ok ⟨eightI (c / 8), 0, regO 0, o, false, 0⟩ k
  else .err 12

def dcLea (L : List Int) (k : Nat) : DR Ins :=
  (dcMrm L k).bind fun m k => if m.mod = 3 then .err 90 else (dcPlace L m k).bind fun o k => .ok ⟨26, 0, regO m.reg, o, false, 0⟩ k

def dcLays (L : List Int) (c : Int) (k : Nat) : DR Ins :=
  (dcMrm L k).bind fun m k => if m.reg ≠ 0 then .err 90 else (dcPlace L m k).bind fun o k =>
    if c = 199 then (dcImm32 L k).bind fun i k => .ok ⟨1, 0, o, i, false, 0⟩ k
    else (dcSmall L k).bind fun i k => .ok ⟨2, 0, o, i, false, 0⟩ k

def dcShift (L : List Int) (c : Int) (k : Nat) : DR Ins :=
  (dcMrm L k).bind fun m k => if shiftsI m.reg = 0 then .err 12 else (dcPlace L m k).bind fun o k =>
    if c = 193 then (dcSmall L k).bind fun i k => .ok ⟨shiftsI m.reg, 0, o, i, false, 0⟩ k
    else if c = 209 then .ok ⟨shiftsI m.reg, 0, o, immO 1, false, 0⟩ k
    else .ok ⟨shiftsI m.reg, 0, o, regO 1, false, 0⟩ k

def numOp (c : Int) (m : Mrm) : Int := if c = 221 then fldI m.reg else numbersI m.reg

def dcNumber (L : List Int) (c : Int) (k : Nat) : DR Ins :=
  (dcMrm L k).bind fun m k => if numOp c m = 0 ∨ m.mod = 3 then .err 12 else dcOne L (numOp c m) m k

def dcUnary (L : List Int) (k : Nat) : DR Ins :=
  (dcMrm L k).bind fun m k =>
    if m.reg = 0 then (dcPlace L m k).bind fun o k => (dcImm32 L k).bind fun i k => .ok ⟨11, 0, o, i, false, 0⟩ k
    else if othersI m.reg ≠ 0 then dcOne L (othersI m.reg) m k
    else .err 12

def dcLast (L : List Int) (k : Nat) : DR Ins :=
  (dcMrm L k).bind fun m k => if lastI m.reg ≠ 0 then dcOne L (lastI m.reg) m k else if m.reg = 7 then .err 90 else .err 12

def bareI (op : Int) : Ins := ⟨op, 0, Opd.none, Opd.none, false, 0⟩

def dcGroups (L : List Int) (c : Int) (k : Nat) : DR Ins :=
  if c = 193 ∨ c = 209 ∨ c = 211 then dcShift L c k
  else if c = 205 then (dcSmall L k).bind fun o k => if o.imm = 128 then .ok ⟨43, 0, o, Opd.none, false, 0⟩ k else .err 12
  else if c = 217 then (dcByte L k).bind fun x k => if x = 224 then .ok (bareI 51) k else if x = 225 then .ok (bareI 52) k else .err 12
  else if c = 220 ∨ c = 221 then dcNumber L c k
  else if c = 243 then (dcByte L k).bind fun x k => if x = 165 then .ok ⟨41, 0, Opd.none, Opd.none, true, 0⟩ k else if x = 171 then .ok ⟨42, 0, Opd.none, Opd.none, true, 0⟩ k else .err 12
  else if c = 247 then dcUnary L k
  else if c = 255 then dcLast L k
  else .err 12

def dcPlain (L : List Int) (c : Int) (k : Nat) : DR Ins :=
  if c = 144 then .ok (bareI 44) k
  else if c = 153 then .ok (bareI 38) k
  else if c = 165 then .ok (bareI 41) k
  else if c = 171 then .ok (bareI 42) k
  else if c = 195 then .ok (bareI 31) k
  else if c = 252 then .ok (bareI 39) k
  else if c = 253 then .ok (bareI 40) k
  else if c = 232 then (dcImm32 L k).bind fun o k => .ok ⟨30, 0, o, Opd.none, false, 0⟩ k
  else if c = 233 then (dcImm32 L k).bind fun o k => .ok ⟨32, 0, o, Opd.none, false, 0⟩ k
  else if c = 235 then (dcImm8 L k).bind fun o k => .ok ⟨32, 0, o, Opd.none, false, 0⟩ k
  else dcGroups L c k

def dcMoves (L : List Int) (c : Int) (k : Nat) : DR Ins :=
  if c = 104 then (dcImm32 L k).bind fun o k => .ok ⟨28, 0, o, Opd.none, false, 0⟩ k
  else if c = 106 then (dcImm8 L k).bind fun o k => .ok ⟨28, 0, o, Opd.none, false, 0⟩ k
  else if c = 129 then (dcMrm L k).bind fun m k => (dcPlace L m k).bind fun o k => (dcImm32 L k).bind fun i k => .ok ⟨eightI m.reg, 0, o, i, false, 0⟩ k
  else if c = 131 then (dcMrm L k).bind fun m k => (dcPlace L m k).bind fun o k => (dcImm8 L k).bind fun i k => .ok ⟨eightI m.reg, 0, o, i, false, 0⟩ k
  else if c = 133 then dcTwo L 11 false k
  else if c = 135 then dcTwo L 27 false k
  else if c = 136 then dcTwo L 2 false k
  else if c = 138 then dcTwo L 2 true k
  else if c = 137 then dcTwo L 1 false k
  else if c = 139 then dcTwo L 1 true k
  else if c = 141 then dcLea L k
  else if c = 169 then (dcImm32 L k).bind fun o k => .ok ⟨11, 0, regO 0, o, false, 0⟩ k
  else if c = 198 ∨ c = 199 then dcLays L c k
  else dcPlain L c k

def dcSecond (L : List Int) (k : Nat) : DR Ins :=
  (dcByte L k).bind fun c k =>
    if c = 11 then .err 90
    else if 64 ≤ c ∧ c < 80 then (dcTwo L 35 true k).bind fun i k => .ok { i with cond := c % 16 } k
    else if 128 ≤ c ∧ c < 144 then (dcImm32 L k).bind fun o k => .ok ⟨33, c % 16, o, Opd.none, false, 0⟩ k
    else if 144 ≤ c ∧ c < 160 then (dcMrm L k).bind fun m k => if m.reg ≠ 0 then .err 12 else (dcPlace L m k).bind fun o k => .ok ⟨34, c % 16, o, Opd.none, false, 0⟩ k
    else if c = 175 then dcTwo L 18 true k
    else if c = 182 then dcTwo L 36 true k
    else if c = 190 then dcTwo L 37 true k
    else .err 12

def dcRest (L : List Int) (c : Int) (k : Nat) : DR Ins :=
  if c = 15 then dcSecond L k
  else if c < 64 then dcRow L c k
  else if c < 72 then .ok ⟨12, 0, regO (c % 8), Opd.none, false, 0⟩ k
  else if c < 80 then .ok ⟨13, 0, regO (c % 8), Opd.none, false, 0⟩ k
  else if c < 88 then .ok ⟨28, 0, regO (c % 8), Opd.none, false, 0⟩ k
  else if c < 96 then .ok ⟨29, 0, regO (c % 8), Opd.none, false, 0⟩ k
  else if 112 ≤ c ∧ c < 128 then (dcImm8 L k).bind fun o k => .ok ⟨33, c % 16, o, Opd.none, false, 0⟩ k
  else if 176 ≤ c ∧ c < 184 then (dcSmall L k).bind fun o k => .ok ⟨2, 0, regO (c % 8), o, false, 0⟩ k
  else if 184 ≤ c ∧ c < 192 then (dcImm32 L k).bind fun o k => .ok ⟨1, 0, regO (c % 8), o, false, 0⟩ k
  else dcMoves L c k

def dcInsn (L : List Int) (k : Nat) : DR Ins := (dcByte L k).bind fun c k => dcRest L c k

/-- The instruction, how many bytes, the error. -/
def decI (L : List Int) : Ins := match dcInsn L 0 with | .ok i k => { i with len := k } | .err _ => Ins.zero
def decN (L : List Int) : Int := match dcInsn L 0 with | .ok _ k => k | .err _ => 0
def decE (L : List Int) : Int := match dcInsn L 0 with | .ok _ _ => 0 | .err c => c
/-- Bytes. -/
def BOk (L : List Int) : Prop := ∀ i, 0 ≤ L.getD i 0 ∧ L.getD i 0 ≤ 255

end Go.Proofs.Yteiplidhkelkbaa

/-
  Package decode: the decoder's small functions: next, byte, imm8, small, imm32, modrm, reg, each by its contract.
-/
namespace Go.Proofs.Yteiplidhkelkbaa
open Go Go.RowKit
set_option linter.unusedVariables false
set_option linter.unusedSimpArgs false

/-- A decoder at block d: its bytes, the place. -/
structure IsDec (w : World) (d : Nat) (v : Value) (L : List Int) (g k : Nat) : Prop where
  h : w.heap[d]? = some (.cells #[v, .int .i64 k] 73 (0, 0))
  b : BySl w v L g
  k : k ≤ L.length
  n : L.length ≤ maxLen
  gd : g ≠ d
  r : BOk L
  c : ∀ b n c, v = .slice b n c → n ≤ c

theorem IsDec.step {w w' : World} {d : Nat} {v : Value} {L : List Int} {g k : Nat} (h : IsDec w d v L g k) (u : Upd [] w w') : IsDec w' d v L g k :=
  ⟨u.get h.h (by simp), h.b.keep u (by simp), h.k, h.n, h.gd, h.r, h.c⟩

def DAns {α : Type} (d : Nat) (v : Value) (L : List Int) (g : Nat) (w : World) (r : DR α) (val : α → Value) (e : Ending) (w' : World) : Prop :=
  match r with
  | .ok x k => e = .returned (val x) ∧ IsDec w' d v L g k ∧ Upd [d] w w'
  | .err c => e = .panicked [{ v := .iface 25 (.int .i64 c), recovered := false }] ∧ Upd [d] w w'

structure DecB (w : World) (d : Nat) (v : Value) (L : List Int) (g k : Nat) (w1 : World) : Prop where
  d : IsDec w1 d v L g k
  u : Upd [] w w1

theorem DecB.cells {w w1 : World} {d : Nat} {v : Value} {L : List Int} {g k : Nat} (h : DecB w d v L g k w1) : w1.cell? ⟨d, 0, none⟩ = some v ∧ w1.cell? ⟨d, 1, none⟩ = some (.int .i64 k) := by
  rw [cells_of h.d.h, cells_of h.d.h]; exact ⟨rfl, rfl⟩

set_option maxRecDepth 100000 in
set_option maxHeartbeats 1000000 in
theorem next_no (d g k n : Nat) (v : Value) (L : List Int) (w : World) (hD : IsDec w d v L g k) (hn : n ≤ 4) (h : L.length < k + n) :
    Calls Try.prog 40 #[.pointer (some ⟨d, 0, none⟩), .int .i64 n] w fun e w' => e = .panicked [{ v := .iface 25 (.int .i64 10), recovered := false }] ∧ Upd [d] w w' := by
  have hmo : Try.prog.follows .mixedOrders = true := by kernel_rfl
  obtain ⟨sb, sc, rfl⟩ := hD.b.form
  have hk := hD.k
  have hl := hD.n
  unfold maxLen at hl
  have e1 : wrap64 ((L.length : Int) - k) = L.length - k := by unfold wrap64; omega
  have e2 : decide ((L.length : Int) - k < n) = true := by simp; omega
  have HD := Lib.hid hD
  clear hD hk hl h
  go_enter Try.func40, Try.ntmps40
  go_wp2_with fail
  refine wp_draw 12 (DecB w d (.slice sb L.length sc) L g k) (fun _ _ => False) (by kernel_rfl) (by kernel_rfl) ⟨HD.out.step (Upd.refl [] w).drew, (Upd.refl [] w).drew⟩ (fun _ _ _ h => h.elim) ?_
  simp only [List.take_succ_cons, List.take_zero, List.drop_succ_cons, List.drop_zero]
  repeat
    apply headW_val rfl rfl
    · intro K hK w1 hB1
      obtain ⟨c0, c1⟩ := hB1.cells
      have HB := Lib.hid hB1
      clear hB1
      go_wp2_with fail
      first
      | exact hK _ HB.out
      | exact HB.out
    · exact ⟨_, rfl⟩
  refine headW_nil (fun _ w1 hB1 => ?_)
  have HB := Lib.hid hB1
  clear hB1
  go_wp2_with fail
  exact ⟨rfl, rfl, HB.out.u.mono (by simp)⟩

/-- What 'next' gives: a slice of the bytes at k. -/
def Cut (w : World) (u : Value) (L : List Int) (g k n : Nat) : Prop :=
  ∃ o c, u = .slice (some ⟨g, o, none⟩) n c ∧ n ≤ c ∧ (∀ i, i < n → w.cell? ⟨g, o + i, none⟩ = some (.int .u8 (L.getD (k + i) 0)))

theorem IsDec.set {w : World} {d : Nat} {v : Value} {L : List Int} {g k : Nat} (h : IsDec w d v L g k) (j : Nat) (hj : j ≤ L.length) : IsDec (w.setCell ⟨d, 1, none⟩ (.int .i64 j)) d v L g j := by
  have h1 := heap_set_same h.h 1 (.int .i64 j)
  exact ⟨h1, h.b.keep ((Upd.refl [d] w).setCell (by simp) _) (by simpa using h.gd), hj, h.n, h.gd, h.r, h.c⟩

set_option maxRecDepth 100000 in
set_option maxHeartbeats 1000000 in
theorem next_yes (d g k n : Nat) (v : Value) (L : List Int) (w : World) (hD : IsDec w d v L g k) (hn : 1 ≤ n ∧ n ≤ 4) (h : k + n ≤ L.length) :
    Calls Try.prog 40 #[.pointer (some ⟨d, 0, none⟩), .int .i64 n] w fun e w' => ∃ u, e = .returned u ∧ Cut w' u L g k n ∧ IsDec w' d v L g (k + n) ∧ Upd [d] w w' := by
  have hmo : Try.prog.follows .mixedOrders = true := by kernel_rfl
  obtain ⟨o, sc, rfl, hsc⟩ : ∃ o c, v = .slice (some ⟨g, o, none⟩) L.length c ∧ L.length ≤ c := by
    rcases hD.b with ⟨_, h1⟩ | ⟨o, c, _, _, _, h1, _⟩
    · rw [h1] at h; simp at h; omega
    · exact ⟨o, c, h1, hD.c _ _ _ h1⟩
  have hk := hD.k
  have hl := hD.n
  unfold maxLen at hl
  have e1 : wrap64 ((L.length : Int) - k) = L.length - k := by unfold wrap64; omega
  have e2 : decide ((L.length : Int) - k < n) = false := by simp; omega
  obtain ⟨z, hz⟩ : ∃ z : Int, ((k + n : Nat) : Int) = z := ⟨_, rfl⟩
  have e3 : wrap64 ((k : Int) + n) = z := by unfold wrap64; omega
  have e6 : wrap64 (z - n) = k := by unfold wrap64; omega
  have e7 : z.toNat = k + n := by omega
  have q1 : 0 ≤ z := by omega
  have q2 : z ≤ (sc : Int) := by omega
  have q3 : ¬ sc = k := by omega
  have q4 : k ≤ k + n := by omega
  have q5 : k + n - k = n := by omega
  have HZ := Lib.hid hz
  clear hz
  have HD := Lib.hid hD
  have HN := Lib.hid (And.intro hn (And.intro h hsc))
  clear hD hk hl h hn hsc
  go_enter Try.func40, Try.ntmps40
  go_wp2_with fail
  refine wp_draw 12 (DecB w d (.slice (some ⟨g, o, none⟩) L.length sc) L g k) (fun _ _ => False) (by kernel_rfl) (by kernel_rfl) ⟨HD.out.step (Upd.refl [] w).drew, (Upd.refl [] w).drew⟩ (fun _ _ _ h => h.elim) ?_
  simp only [List.take_succ_cons, List.take_zero, List.drop_succ_cons, List.drop_zero]
  repeat
    apply headW_val rfl rfl
    · intro K hK w1 hB1
      obtain ⟨c0, c1⟩ := hB1.cells
      have HB := Lib.hid hB1
      clear hB1
      go_wp2_with fail
      first
      | exact hK _ HB.out
      | exact HB.out
    · exact ⟨_, rfl⟩
  refine headW_nil (fun _ w1 hB1 => ?_)
  obtain ⟨c0, c1⟩ := hB1.cells
  have f1 := free_of hB1.d.h
  have HB := Lib.hid hB1
  clear hB1
  go_wp2_with fail
  have hS := HB.out.d.set (k + n) HN.out.2.1
  rw [HZ.out] at hS
  have hU : Upd [d] w (w1.setCell ⟨d, 1, none⟩ (.int .i64 z)) := (HB.out.u.mono (by simp)).setCell (by simp) _
  generalize w1.setCell ⟨d, 1, none⟩ (.int .i64 z) = w2 at hS hU
  have HU := Lib.hid hU
  have HS := Lib.hid hS
  clear hU hS c0 c1 f1
  refine wp_draw 15 (DecB w2 d (.slice (some ⟨g, o, none⟩) L.length sc) L g (k + n)) (fun _ _ => False) (by kernel_rfl) (by kernel_rfl) ⟨HS.out.step (Upd.refl [] w2).drew, (Upd.refl [] w2).drew⟩ (fun _ _ _ h => h.elim) ?_
  simp only [List.take_succ_cons, List.take_zero, List.drop_succ_cons, List.drop_zero]
  iterate 14
    apply headW_val rfl rfl
    · intro K hK w3 hB1
      obtain ⟨c0, c1⟩ := hB1.cells
      rw [HZ.out] at c1
      have HB := Lib.hid hB1
      clear hB1
      go_wp2_with fail
      first
      | exact hK _ HB.out
      | exact HB.out
    · exact ⟨_, rfl⟩
  apply headW_val rfl rfl
  · intro K hK w3 hB1
    have HB := Lib.hid hB1
    clear hB1
    go_wp2_with fail
    first
    | exact hK _ HB.out
    | exact HB.out
  · exact ⟨_, rfl⟩
  refine headW_nil (fun _ w3 hB1 => ?_)
  have HB := Lib.hid hB1
  clear hB1
  go_wp2_with fail
  go_ret
  have hb := HB.out.d.b
  refine ⟨_, rfl, ⟨o + k, sc - k, rfl, by have := HN.out; omega, fun i hi => ?_⟩, HB.out.d, HU.out.also (HB.out.u) (by simp)⟩
  rcases hb with ⟨h1, _⟩ | ⟨o', c', C, T, f, h1, h2, h3⟩
  · cases h1
  · injection h1 with h1 h4 h5
    injection h1 with h1
    injection h1 with h1 h6
    subst h6
    rw [cells_of h2, Nat.add_assoc]
    exact h3 (k + i) (by have := HN.out; omega)

theorem IsDec.frame {w w' : World} {d : Nat} {v : Value} {L : List Int} {g k : Nat} (h : IsDec w d v L g k) (hd : w'.heap[d]? = w.heap[d]?) (u : Upd [d] w w') : IsDec w' d v L g k :=
  ⟨by rw [hd]; exact h.h, h.b.keep u (by simpa using h.gd), h.k, h.n, h.gd, h.r, h.c⟩

set_option maxRecDepth 100000 in
set_option maxHeartbeats 1000000 in
theorem byte_any (d g k : Nat) (v : Value) (L : List Int) (w : World) (hD : IsDec w d v L g k) :
    Calls Try.prog 32 #[.pointer (some ⟨d, 0, none⟩)] w (DAns d v L g w (dcByte L k) (.int .u8 ·)) := by
  unfold dcByte
  have HD := Lib.hid hD
  by_cases h : k < L.length
  · rw [if_pos h]
    clear hD
    have HL := Lib.hid h
    clear h
    go_enter Try.func32, Try.ntmps32
    go_wp2_with (go_at_call 40; refine (next_yes d g k 1 v L _ HD.out (by decide) HL.out).mono ?_; rintro e w2 ⟨u, rfl, ⟨o, c, rfl, hc, hcell⟩, hD2, hu⟩; have h0 := hcell 0 (by decide); simp only [Nat.add_zero] at h0; have H2 := Lib.hid (And.intro hD2 hu); clear hcell hD2 hu)
    go_ret
    exact ⟨rfl, H2.out.1, H2.out.2⟩
  · rw [if_neg h]
    clear hD
    have HL := Lib.hid (show L.length < k + 1 by omega)
    clear h
    go_enter Try.func32, Try.ntmps32
    go_wp2_with (go_at_call 40; refine (next_no d g k 1 v L _ HD.out (by decide) HL.out).mono ?_; rintro e w2 ⟨rfl, hu⟩)
    exact ⟨rfl, rfl, hu⟩

end Go.Proofs.Yteiplidhkelkbaa

/-
  Operands and instructions in memory: stores, loads, results; the decoder's reg, imm8, small, imm32, each by its contract.
-/
namespace Go.Proofs.Yteiplidhkelkbaa
open Go Go.RowKit
set_option linter.unusedVariables false
set_option linter.unusedSimpArgs false

def Opd.cells (o : Opd) : Array Value := #[.int .i64 o.k, .int .i64 o.r, .int .u32 o.imm, .int .i64 o.b, .int .i64 o.x, .int .u32 o.sc]
theorem Opd.size (o : Opd) : o.cells.size = 6 := rfl
theorem Opd.one (o : Opd) : o.cells.all (·.oneCell') = true := by simp [Opd.cells, Value.oneCell']
def Ins.val (i : Ins) : Value := .agg i.cells

theorem opd_info : (Try.prog.info? 36).map (·.size) = some 6 := by kernel_rfl
theorem ins_info : (Try.prog.info? 38).map (·.size) = some 16 := by kernel_rfl

theorem res_opd {tmps : Array Value} {w : World} (a : Tmp) (b : Nat) (o : Opd) (ha : tmps.getD a undef = .pointer (some ⟨b, 0, none⟩)) (hb : w.heap[b]? = some (.cells o.cells 36 (0, 0))) :
    (resRun tmps (.cell a 36)).run Try.prog w = .ok o.val w :=
  res_row a 36 b _ _ ha hb Try.underlying36 rfl opd_info

theorem res_ins {tmps : Array Value} {w : World} (a : Tmp) (b : Nat) (i : Ins) (ha : tmps.getD a undef = .pointer (some ⟨b, 0, none⟩)) (hb : w.heap[b]? = some (.cells i.cells 38 (0, 0))) :
    (resRun tmps (.cell a 38)).run Try.prog w = .ok i.val w :=
  res_row a 38 b _ _ ha hb Try.underlying38 rfl ins_info

/-- An instruction stored whole into its variable; the world gets a name. -/
theorem wpList_store_ins {ops : Array Oper} {rest : List Oper} {op : Oper} {a : Act} {w : World} {Q : Exit → Act → World → Prop} (i : Ins) (b : Nat) (hgd : op.guard = none) (x y : Operand) (ho : op.op = .store 38 x y) (hx : a.eval x = .pointer (some ⟨b, 0, none⟩)) (hy : a.eval y = .agg i.cells)
    {c : Array Value} (hb : w.heap[b]? = some (.cells c 38 (0, 0))) (hc : c.size = 16) (h : ∀ w', w.setCells b 0 i.cells.toList = w' → wpList Try.prog ops Q rest (a.put op.dst undef) w') : wpList Try.prog ops Q (op :: rest) a w :=
  wpList_store_arr hgd 38 x y ho b 0 i.cells hx hy hb (by rw [hc, Ins.size]; exact Nat.le_refl _) (by rw [Ins.size]; exact ins_info) i.one (h _ rfl)

theorem wr_ins (c : Array Value) (s : Ins) (hc : c.size = 16) : wr c 0 s.cells.toList = s.cells := by
  apply Array.ext_getElem?
  intro k
  have hl : s.cells.toList.length = 16 := rfl
  rw [wr_get _ _ _ _ (by rw [hl, hc]; exact Nat.le_refl _), hl]
  by_cases h : k < 16
  · rw [if_pos (by omega), Nat.sub_zero, Array.getElem?_toList]
  · rw [if_neg (by omega), Array.getElem?_eq_none (by omega), Array.getElem?_eq_none (by rw [Ins.size]; omega)]

theorem ins_new {S : List Nat} {w0 w w' : World} {b : Nat} {i : Ins} {c : Array Value} (hw : w.setCells b 0 i.cells.toList = w') (hb : w.heap[b]? = some (.cells c 38 (0, 0))) (hc : c.size = 16) (hu : Upd S w0 w) (hs : b ∈ S ∨ w0.heap.size ≤ b) :
    w'.heap[b]? = some (.cells i.cells 38 (0, 0)) ∧ Upd S w0 w' := by
  subst hw
  exact ⟨by rw [heap_setCells_same _ _ _ _ hb, wr_ins c i hc], hu.setCells hs _ _⟩

set_option maxRecDepth 100000 in
set_option maxHeartbeats 400000 in
theorem dreg_any (r : Int) (w : World) : Calls Try.prog 35 #[.int .i64 r] w fun e w' => e = .returned (regO r).val ∧ Upd [] w w' := by
  go_enter Try.func35, Try.ntmps35
  go_wp2
  exact bodyPost_ret (results_one' rfl (res_opd 2 w.heap.size (regO r) rfl (heap_alloc_new _ _))) rfl ⟨rfl, (Upd.refl _ _).alloc _⟩

theorem sx8_eq {b : Int} (h0 : 0 ≤ b) (h1 : b ≤ 255) : sign8 b = sx8 b := by
  unfold sign8 sx8
  rw [show b % 256 = b by omega]

theorem dcByte_ok {L : List Int} {k k1 : Nat} {c : Int} (hL : BOk L) (h : dcByte L k = .ok c k1) : 0 ≤ c ∧ c ≤ 255 ∧ k1 = k + 1 := by
  unfold dcByte at h
  by_cases hk : k < L.length
  · rw [if_pos hk] at h
    injection h with h1 h2
    subst h1
    exact ⟨(hL k).1, (hL k).2, h2.symm⟩
  · rw [if_neg hk] at h
    cases h

/-- An operand stored whole; the world gets a name. -/
theorem wpList_store_opd {ops : Array Oper} {rest : List Oper} {op : Oper} {a : Act} {w : World} {Q : Exit → Act → World → Prop} (o : Opd) (b off : Nat) (hgd : op.guard = none) (x y : Operand) (ho : op.op = .store 36 x y) (hx : a.eval x = .pointer (some ⟨b, off, none⟩)) (hy : a.eval y = .agg o.cells)
    {c : Array Value} {t : TypeId} (hb : w.heap[b]? = some (.cells c t (0, 0))) (hc : off + 6 ≤ c.size) (h : ∀ w', w.setCells b off o.cells.toList = w' → wpList Try.prog ops Q rest (a.put op.dst undef) w') : wpList Try.prog ops Q (op :: rest) a w :=
  wpList_store_arr hgd 36 x y ho b off o.cells hx hy hb (by rw [Opd.size]; exact hc) (by rw [Opd.size]; exact opd_info) o.one (h _ rfl)

theorem wr_opd (c : Array Value) (o : Opd) (hc : c.size = 6) : wr c 0 o.cells.toList = o.cells := by
  apply Array.ext_getElem?
  intro k
  have hl : o.cells.toList.length = 6 := rfl
  rw [wr_get _ _ _ _ (by rw [hl, hc]; exact Nat.le_refl _), hl]
  by_cases h : k < 6
  · rw [if_pos (by omega), Nat.sub_zero, Array.getElem?_toList]
  · rw [if_neg (by omega), Array.getElem?_eq_none (by omega), Array.getElem?_eq_none (by rw [Opd.size]; omega)]

theorem opd_new {w w' : World} {b : Nat} {o : Opd} {c : Array Value} (hw : w.setCells b 0 o.cells.toList = w') (hb : w.heap[b]? = some (.cells c 36 (0, 0))) (hc : c.size = 6) :
    w'.heap[b]? = some (.cells o.cells 36 (0, 0)) ∧ Upd [b] w w' := by
  subst hw
  exact ⟨by rw [heap_setCells_same _ _ _ _ hb, wr_opd c o hc], (Upd.refl [b] w).setCells (.inl (by simp)) _ _⟩

/-- The decoder behind stores into new variables. -/
theorem dec_fin {d g k k1 : Nat} {v : Value} {L : List Int} {w w2 w3 : World} {S : List Nat} (hD0 : IsDec w d v L g k) (hD : IsDec w2 d v L g k1) (hu : Upd [d] w w2) (u : Upd S w2 w3) (hS : ∀ x, x ∈ S → w.heap.size ≤ x) :
    IsDec w3 d v L g k1 ∧ Upd [d] w w3 := by
  have hd := lt_of_heap hD0.h
  have h2 : Upd [d] w w3 := hu.also u (fun x hx => .inr (hS x hx))
  exact ⟨⟨u.get hD.h (fun hh => by have := hS _ hh; omega), hD0.b.keep h2 (by simpa using hD0.gd), hD.k, hD.n, hD.gd, hD.r, hD.c⟩, h2⟩

/-- The variable of the result, new. -/
theorem new_kept {w w2 : World} {d : Nat} {o : Obj} (hd : d < w.heap.size) (hu : Upd [d] (w.alloc o) w2) : w2.heap[w.heap.size]? = some o := hu.get (heap_alloc_new w o) (by simp; omega)

theorem also_new {w w2 : World} {d : Nat} {o : Obj} (hu : Upd [d] (w.alloc o) w2) : Upd [d] w w2 := ((Upd.refl [d] w).alloc o).also hu (by simp)

set_option maxRecDepth 100000 in
set_option maxHeartbeats 1000000 in
theorem imm8_any (d g k : Nat) (v : Value) (L : List Int) (w : World) (hD : IsDec w d v L g k) :
    Calls Try.prog 36 #[.pointer (some ⟨d, 0, none⟩)] w (DAns d v L g w (dcImm8 L k) Opd.val) := by
  have hb := byte_any d g k v L (w.alloc (.cells Opd.none.cells 36)) (hD.step ((Upd.refl [] w).alloc _))
  have HD := Lib.hid hD
  have HLt := Lib.hid (lt_of_heap hD.h)
  unfold dcImm8
  cases h : dcByte L k with
  | ok c k1 =>
    obtain ⟨c0, c1, _⟩ := dcByte_ok hD.r h
    rw [h] at hb
    rw [DR.bind_ok]
    have HB := Lib.hid hb
    have HR := Lib.hid (And.intro c0 c1)
    have q1 : c % 4294967296 = c := by omega
    have q2 := sx8_eq c0 c1
    clear hb hD h c0 c1
    go_enter Try.func36, Try.ntmps36
    go_wp2_with (first | (go_at_call 32; refine HB.out.mono ?_; rintro e w2 ⟨rfl, hD2, hu⟩; have H2 := Lib.hid (And.intro hD2 (And.intro (also_new hu) (new_kept HLt.out hu))); clear hD2 hu) | (go_at_call 46; refine (Sign8_any c _ HR.out.1 (by have := HR.out; omega)).mono ?_; rintro e w3 ⟨rfl, rfl⟩; rw [q2]) | (refine wpList_store_opd (immO (sx8 c)) w.heap.size 0 rfl _ _ rfl rfl rfl H2.out.2.2 (by decide) ?_; intro w3 hw3; have H3 := Lib.hid (And.intro H2.out.1 (And.intro H2.out.2.1 (opd_new hw3 H2.out.2.2 rfl))); clear hw3 H2))
    obtain ⟨h1, h2⟩ := dec_fin HD.out H3.out.1 H3.out.2.1 H3.out.2.2.2 (by simp)
    exact bodyPost_ret (results_one' rfl (res_opd 2 w.heap.size _ rfl H3.out.2.2.1)) rfl ⟨rfl, h1, h2⟩
  | err c =>
    rw [h] at hb
    rw [DR.bind_err]
    have HB := Lib.hid hb
    clear hb hD h
    go_enter Try.func36, Try.ntmps36
    go_wp2_with (go_at_call 32; refine HB.out.mono ?_; rintro e w2 ⟨rfl, hu⟩)
    exact ⟨rfl, rfl, also_new hu⟩

set_option maxRecDepth 100000 in
set_option maxHeartbeats 1000000 in
theorem small_any (d g k : Nat) (v : Value) (L : List Int) (w : World) (hD : IsDec w d v L g k) :
    Calls Try.prog 37 #[.pointer (some ⟨d, 0, none⟩)] w (DAns d v L g w (dcSmall L k) Opd.val) := by
  have hb := byte_any d g k v L (w.alloc (.cells Opd.none.cells 36)) (hD.step ((Upd.refl [] w).alloc _))
  have HD := Lib.hid hD
  have HLt := Lib.hid (lt_of_heap hD.h)
  unfold dcSmall
  cases h : dcByte L k with
  | ok c k1 =>
    obtain ⟨c0, c1, _⟩ := dcByte_ok hD.r h
    rw [h] at hb
    rw [DR.bind_ok]
    have HB := Lib.hid hb
    have q1 : c % 4294967296 = c := by omega
    clear hb hD h c0 c1
    go_enter Try.func37, Try.ntmps37
    go_wp2_with (first | (go_at_call 32; refine HB.out.mono ?_; rintro e w2 ⟨rfl, hD2, hu⟩; have H2 := Lib.hid (And.intro hD2 (And.intro (also_new hu) (new_kept HLt.out hu))); clear hD2 hu) | (refine wpList_store_opd (immO c) w.heap.size 0 rfl _ _ rfl rfl rfl H2.out.2.2 (by decide) ?_; intro w3 hw3; have H3 := Lib.hid (And.intro H2.out.1 (And.intro H2.out.2.1 (opd_new hw3 H2.out.2.2 rfl))); clear hw3 H2))
    obtain ⟨h1, h2⟩ := dec_fin HD.out H3.out.1 H3.out.2.1 H3.out.2.2.2 (by simp)
    exact bodyPost_ret (results_one' rfl (res_opd 2 w.heap.size _ rfl H3.out.2.2.1)) rfl ⟨rfl, h1, h2⟩
  | err c =>
    rw [h] at hb
    rw [DR.bind_err]
    have HB := Lib.hid hb
    clear hb hD h
    go_enter Try.func37, Try.ntmps37
    go_wp2_with (go_at_call 32; refine HB.out.mono ?_; rintro e w2 ⟨rfl, hu⟩)
    exact ⟨rfl, rfl, also_new hu⟩

/-- 'bits.Word(d.next(4))', both calls. -/
theorem word_next (d g k : Nat) (v : Value) (L : List Int) (w : World) (hD : IsDec w d v L g k) (h : k + 4 ≤ L.length) :
    Calls Try.prog 40 #[.pointer (some ⟨d, 0, none⟩), .int .i64 4] w fun e w' => ∃ o c, e = .returned (.slice (some ⟨g, o, none⟩) 4 c) ∧ (∀ w3, w3 = w' → Calls Try.prog 47 #[.slice (some ⟨g, o, none⟩) 4 c] w3 fun e w4 => e = .returned (.int .u32 (wordAt L k)) ∧ IsDec w4 d v L g (k + 4) ∧ Upd [d] w w4) := by
  refine (next_yes d g k 4 v L w hD (by decide) h).mono ?_
  rintro e w' ⟨u, rfl, ⟨o, c, rfl, hc, hcell⟩, hD2, hu⟩
  refine ⟨o, c, rfl, ?_⟩
  rintro w3 rfl
  have hg : g < w3.heap.size := by
    have h0 := hcell 0 (by decide)
    unfold World.cell? at h0
    simp only at h0
    cases hh : w3.heap[g]? with
    | none => rw [hh] at h0; cases h0
    | some o => exact lt_of_heap hh
  refine (Word_any g o c (fun i => L.getD (k + i) 0) w3 hcell (fun i => hD.r (k + i)) hg).mono ?_
  rintro e w4 ⟨rfl, hu4⟩
  exact ⟨rfl, hD2.step hu4, hu.also hu4 (by simp)⟩

set_option maxRecDepth 100000 in
set_option maxHeartbeats 1000000 in
theorem imm32_any (d g k : Nat) (v : Value) (L : List Int) (w : World) (hD : IsDec w d v L g k) :
    Calls Try.prog 38 #[.pointer (some ⟨d, 0, none⟩)] w (DAns d v L g w (dcImm32 L k) Opd.val) := by
  have HD := Lib.hid hD
  have HLt := Lib.hid (lt_of_heap hD.h)
  unfold dcImm32 dcWord
  by_cases h : k + 4 ≤ L.length
  · have HB := Lib.hid (word_next d g k v L (w.alloc (.cells Opd.none.cells 36)) (hD.step ((Upd.refl [] w).alloc _)) h)
    rw [if_pos h, DR.bind_ok]
    clear hD h
    go_enter Try.func38, Try.ntmps38
    go_wp2_with (first | (go_at_call 40; refine HB.out.mono ?_; rintro e w2 ⟨o, c, rfl, hw⟩; have HW := Lib.hid (hw _ rfl); clear hw) | (go_at_call 47; refine HW.out.mono ?_; rintro e w2 ⟨rfl, hD2, hu⟩; have H2 := Lib.hid (And.intro hD2 (And.intro (also_new hu) (new_kept HLt.out hu))); clear hD2 hu) | (refine wpList_store_opd (immO (wordAt L k)) w.heap.size 0 rfl _ _ rfl rfl rfl H2.out.2.2 (by decide) ?_; intro w3 hw3; have H3 := Lib.hid (And.intro H2.out.1 (And.intro H2.out.2.1 (opd_new hw3 H2.out.2.2 rfl))); clear hw3 H2))
    obtain ⟨h1, h2⟩ := dec_fin HD.out H3.out.1 H3.out.2.1 H3.out.2.2.2 (by simp)
    exact bodyPost_ret (results_one' rfl (res_opd 2 w.heap.size _ rfl H3.out.2.2.1)) rfl ⟨rfl, h1, h2⟩
  · have HB := Lib.hid (next_no d g k 4 v L (w.alloc (.cells Opd.none.cells 36)) (hD.step ((Upd.refl [] w).alloc _)) (by decide) (by omega))
    rw [if_neg h, DR.bind_err]
    clear hD h
    go_enter Try.func38, Try.ntmps38
    go_wp2_with (go_at_call 40; refine HB.out.mono ?_; rintro e w2 ⟨rfl, hu⟩)
    exact ⟨rfl, rfl, also_new hu⟩

end Go.Proofs.Yteiplidhkelkbaa
