/-
  Faults as plain data; the rights that bytes lack; results in memory: a bool, a fault. No condition.
-/
import Derived.Test.YtncafchgdgmeaaaPgE
import Derived.Test.YtncafchgdgmeaaaRes
namespace Go.Proofs.Ytncafchgdgmeaaa
open Go Go.RowKit
set_option linter.unusedVariables false
set_option linter.unusedSimpArgs false

theorem fault_info : (Try.prog.info? 32).map (·.size) = some 4 := by kernel_rfl

theorem store4 {w : World} {b : Nat} {t : TypeId} {a0 a1 a2 a3 : Value} (h : w.heap[b]? = some (.cells #[a0, a1, a2, a3] t (0, 0))) (u0 u1 u2 u3 : Value) :
    ((((w.setCell ⟨b, 0, none⟩ u0).setCell ⟨b, 0 + 1, none⟩ u1).setCell ⟨b, 0 + 2, none⟩ u2).setCell ⟨b, 0 + 3, none⟩ u3).heap[b]? = some (.cells #[u0, u1, u2, u3] t (0, 0)) :=
  heap_set_same (heap_set_same (heap_set_same (heap_set_same h 0 u0) 1 u1) 2 u2) 3 u3

theorem Upd_store4 {S : List Nat} {w0 w : World} {b : Nat} (h : Upd S w0 w) (hb : b ∈ S ∨ w0.heap.size ≤ b) (u0 u1 u2 u3 : Value) :
    Upd S w0 ((((w.setCell ⟨b, 0, none⟩ u0).setCell ⟨b, 0 + 1, none⟩ u1).setCell ⟨b, 0 + 2, none⟩ u2).setCell ⟨b, 0 + 3, none⟩ u3) :=
  (((h.setCell (p := ⟨b, 0, none⟩) hb _).setCell (p := ⟨b, 0 + 1, none⟩) hb _).setCell (p := ⟨b, 0 + 2, none⟩) hb _).setCell (p := ⟨b, 0 + 3, none⟩) hb _

/-- A fault's four numbers. -/
structure Flt where
  k : Int
  pc : Int
  a : Int
  wt : Int
  deriving DecidableEq

def Flt.cells (f : Flt) : Array Value := #[.int .i64 f.k, .int .u32 f.pc, .int .u32 f.a, .int .i64 f.wt]
def Flt.val (f : Flt) : Value := .agg #[.int .i64 f.k, .int .u32 f.pc, .int .u32 f.a, .int .i64 f.wt]
def Flt.zero : Flt := ⟨0, 0, 0, 0⟩

def Mem.rdF (M : Mem) (x bytes right : Int) : Flt := match M.bad x (rightI right) (widthI bytes).toNat with | none => Flt.zero | some i => ⟨1, 0, plus x i, rightI right⟩
def Mem.wrF (M : Mem) (x bytes : Int) : Flt := match M.bad x 2 (widthI bytes).toNat with | none => Flt.zero | some i => ⟨1, 0, plus x i, 2⟩

theorem Mem.readF_val (M : Mem) (x bytes right : Int) : M.readF x bytes right = (M.rdF x bytes right).val := by
  unfold Mem.readF Mem.rdF; cases M.bad x (rightI right) (widthI bytes).toNat <;> rfl
theorem Mem.writeF_val (M : Mem) (x bytes : Int) : M.writeF x bytes = (M.wrF x bytes).val := by
  unfold Mem.writeF Mem.wrF; cases M.bad x 2 (widthI bytes).toNat <;> rfl

/-- The least one of some rights. -/
def lowI (l : Int) : Int := bits .and .i64 l (wrap64 (-l))

/-- The rights of the page of a byte. -/
def Mem.rightAt (M : Mem) (x : Int) : Int := if x < 16384 then M.R (x / 256).toNat else 0

/-- The least right that a byte lacks. -/
def Mem.lack (M : Mem) (x r : Int) : Int := lowI (bits .andNot .i64 r (M.rightAt x))

theorem res_bool {tmps : Array Value} {w : World} (a : Tmp) (b : Nat) (k : Bool) (ha : tmps.getD a undef = .pointer (some ⟨b, 0, none⟩)) (hb : w.heap[b]? = some (.cells #[.bool k] 4 (0, 0))) : (resRun tmps (.cell a 4)).run Try.prog w = .ok (.bool k) w := by
  have hc : w.cell? ⟨b, 0, none⟩ = some (.bool k) := by rw [cells_of hb]; rfl
  simp only [resRun, Sem.run_bind, ha]
  simp [asAddr, go_sem, hc]

theorem res_flt {tmps : Array Value} {w : World} (a : Tmp) (b : Nat) (F : Flt) (ha : tmps.getD a undef = .pointer (some ⟨b, 0, none⟩)) (hb : w.heap[b]? = some (.cells #[.int .i64 F.k, .int .u32 F.pc, .int .u32 F.a, .int .i64 F.wt] 32 (0, 0))) :
    (resRun tmps (.cell a 32)).run Try.prog w = .ok F.val w :=
  res_row a 32 b _ _ ha hb Try.underlying32 rfl fault_info

/-- The first of n bytes that lacks a right. -/
def Mem.canBad (M : Mem) (x : Int) (n : Nat) (r : Int) : Option Nat := (List.range n).find? fun i => M.lack (plus x i) r != 0
def Mem.canF (M : Mem) (x : Int) (n : Nat) (r : Int) : Flt := match M.canBad x n r with | none => Flt.zero | some i => ⟨1, 0, plus x i, M.lack (plus x i) r⟩
def Mem.canK (M : Mem) (x : Int) (n : Nat) (r : Int) : Bool := (M.canBad x n r).isNone

theorem canBad_some (M : Mem) (x : Int) (n : Nat) (r : Int) (j : Nat) (hj : j < n) (hc : ∀ t, t < j → M.lack (plus x t) r = 0) (hb : M.lack (plus x j) r ≠ 0) : M.canBad x n r = some j := by
  rw [Mem.canBad, List.find?_range_eq_some]
  exact ⟨by simpa using hb, by simpa using hj, fun t ht => by simp [hc t ht]⟩

theorem canBad_none (M : Mem) (x : Int) (n : Nat) (r : Int) (hc : ∀ t, t < n → M.lack (plus x t) r = 0) : M.canBad x n r = none := by
  rw [Mem.canBad, List.find?_eq_none]
  intro t ht
  simp [hc t (List.mem_range.1 ht)]

/-- A byte lacks the right to be written just where it can't be written. -/
theorem lack_can {M : Mem} (hM : M.Ok) (y : Int) (h0 : 0 ≤ y) (r : Int) (hr : r = 1 ∨ r = 2 ∨ r = 4) : (M.lack y r = 0) ↔ (M.can y r = true) := by
  unfold Mem.lack Mem.can Mem.rightAt
  by_cases h : y < 16384
  · rw [if_pos h, decide_eq_true h, Bool.true_and]
    have hR := hM.R (y / 256).toNat
    generalize M.R (y / 256).toNat = q at *
    obtain ⟨q0, q7⟩ := hR
    have hq : q = 0 ∨ q = 1 ∨ q = 2 ∨ q = 3 ∨ q = 4 ∨ q = 5 ∨ q = 6 ∨ q = 7 := by omega
    rcases hr with rfl | rfl | rfl <;> rcases hq with rfl | rfl | rfl | rfl | rfl | rfl | rfl | rfl <;> decide +kernel
  · rw [if_neg h, decide_eq_false h, Bool.false_and]
    rcases hr with rfl | rfl | rfl <;> decide +kernel

theorem plus_plus (x : Int) (i j : Nat) : plus (plus x i) j = plus x (i + j) := by
  unfold plus; omega

theorem find?_isNone {p : Nat → Bool} {n : Nat} : ((List.range n).find? p).isNone = true ↔ ∀ t, t < n → p t = false := by
  rw [Option.isNone_iff_eq_none, List.find?_eq_none]
  constructor
  · intro h t ht
    have := h t (List.mem_range.2 ht)
    simpa using this
  · intro h t ht
    simp [h t (List.mem_range.1 ht)]

theorem canK_iff (M : Mem) (x : Int) (n : Nat) (r : Int) : M.canK x n r = true ↔ ∀ t, t < n → M.lack (plus x t) r = 0 := by
  rw [Mem.canK, Mem.canBad, find?_isNone]
  simp

theorem bad_isNone (M : Mem) (x : Int) (n : Nat) (r : Int) : M.bad x r n = none ↔ ∀ t, t < n → M.can (plus x t) r = true := by
  rw [← Option.isNone_iff_eq_none, Mem.bad, find?_isNone]
  simp

end Go.Proofs.Ytncafchgdgmeaaa
