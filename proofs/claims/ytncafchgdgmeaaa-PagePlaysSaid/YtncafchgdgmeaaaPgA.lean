/-
  The small functions of package page, each by its contract: row, isRights, width, Rights, mapped, at, New.
-/
import Derived.Test.YtncafchgdgmeaaaRows
import Derived.Test.YtncafchgdgmeaaaMem
import Derived.Test.YtncafchgdgmeaaaRow
import Derived.WalkSpells
import Derived.WalkLawsBesides
import Derived.Lib.Hide
namespace Go.Proofs.Ytncafchgdgmeaaa
open Go Go.RowKit
set_option linter.unusedVariables false
set_option linter.unusedSimpArgs false

/-- The program's memory at block a, its row of pages at block pb. -/
structure IsMem (w : World) (a pb : Nat) (M : Mem) : Prop where
  hd : ∃ c, 64 ≤ c ∧ w.heap[a]? = some (.cells #[.slice (some ⟨pb, 0, none⟩) 64 c] 106 (0, 0))
  pg : ∃ C, Holds C M ∧ w.heap[pb]? = some (.cells C 113 (0, 0))
  ok : M.Ok

theorem IsMem.ne {w : World} {a pb : Nat} {M : Mem} (h : IsMem w a pb M) : a ≠ pb := by
  intro e; subst e
  obtain ⟨c, _, h1⟩ := h.hd
  obtain ⟨C, h2, h3⟩ := h.pg
  have := h1.symm.trans h3
  simp only [Option.some.injEq, Obj.cells.injEq] at this
  have h4 := h2.size
  rw [← this.1] at h4
  simp at h4

theorem IsMem.al {w : World} {a pb : Nat} {M : Mem} (h : IsMem w a pb M) : a < w.heap.size := by
  obtain ⟨c, _, h1⟩ := h.hd; exact lt_of_heap h1

theorem IsMem.pl {w : World} {a pb : Nat} {M : Mem} (h : IsMem w a pb M) : pb < w.heap.size := by
  obtain ⟨c, _, h1⟩ := h.pg; exact lt_of_heap h1

theorem IsMem.keep {w w' : World} {a pb : Nat} {M : Mem} {S : List Nat} (h : IsMem w a pb M) (u : Upd S w w') (ha : a ∉ S) (hp : pb ∉ S) : IsMem w' a pb M := by
  obtain ⟨c, h0, h1⟩ := h.hd
  obtain ⟨C, h2, h3⟩ := h.pg
  exact ⟨⟨c, h0, u.get h1 ha⟩, ⟨C, h2, u.get h3 hp⟩, h.ok⟩

theorem IsMem.drew {w : World} {a pb : Nat} {M : Mem} (h : IsMem w a pb M) : IsMem w.drew a pb M := ⟨h.hd, h.pg, h.ok⟩

theorem IsMem.c0 {w : World} {a pb : Nat} {M : Mem} (h : IsMem w a pb M) : ∃ c : Nat, 64 ≤ (c : Int) ∧ w.cell? ⟨a, 0, none⟩ = some (.slice (some ⟨pb, 0, none⟩) 64 c) := by
  obtain ⟨c, h0, h1⟩ := h.hd
  exact ⟨c, by omega, by rw [cells_of h1]; rfl⟩

theorem IsMem.cR {w : World} {a pb : Nat} {M : Mem} (h : IsMem w a pb M) (p : Nat) (hp : p < 64) : w.cell? ⟨pb, p * 257, none⟩ = some (.int .i64 (M.R p)) := by
  obtain ⟨C, h2, h3⟩ := h.pg
  rw [cells_of h3, h2.R p hp]

theorem IsMem.cB {w : World} {a pb : Nat} {M : Mem} (h : IsMem w a pb M) (p o : Nat) (hp : p < 64) (ho : o < 256) : w.cell? ⟨pb, p * 257 + 1 + o, none⟩ = some (.int .u8 (M.B (p * 256 + o))) := by
  obtain ⟨C, h2, h3⟩ := h.pg
  rw [cells_of h3, h2.B p o hp ho]

theorem IsMem.free {w : World} {a pb : Nat} {M : Mem} (h : IsMem w a pb M) (o : Nat) : w.frozen? ⟨pb, o, none⟩ = false := by
  obtain ⟨C, h2, h3⟩ := h.pg
  exact free_of h3 o

/-- One cell of the row of pages turned. -/
theorem IsMem.set {w : World} {a pb : Nat} {M M' : Mem} (h : IsMem w a pb M) (i : Nat) (v : Value) (hi : i < 16448) (e : M.cells.setIfInBounds i v = M'.cells) (hok : M'.Ok) : IsMem (w.setCell ⟨pb, i, none⟩ v) a pb M' := by
  obtain ⟨c, h0, h1⟩ := h.hd
  obtain ⟨C, h2, h3⟩ := h.pg
  exact ⟨⟨c, h0, heap_set_keep _ h.ne h1⟩, ⟨_, h2.set i v hi e, heap_set_same h3 i v⟩, hok⟩

/-- Many of them. -/
theorem IsMem.wr {w : World} {a pb : Nat} {M M' : Mem} (h : IsMem w a pb M) (o : Nat) (vs : List Value) (ho : o + vs.length ≤ 16448) (e : Go.Proofs.Ytncafchgdgmeaaa.wr M.cells o vs = M'.cells) (hok : M'.Ok) : IsMem (w.setCells pb o vs) a pb M' := by
  obtain ⟨c, h0, h1⟩ := h.hd
  obtain ⟨C, h2, h3⟩ := h.pg
  exact ⟨⟨c, h0, by rw [heap_setCells_other h.ne]; exact h1⟩, ⟨_, h2.wr o vs ho e, heap_setCells_same _ _ _ _ h3⟩, hok⟩

theorem IsMem.there {w : World} {a pb : Nat} {M : Mem} (h : IsMem w a pb M) (o n : Nat) (hn : o + n ≤ 16448) : w.there pb o n := by
  obtain ⟨C, h2, h3⟩ := h.pg
  exact there_of h3 o n (by have := h2.size; omega)

def rightsB (r : Int) : Bool := decide (1 ≤ r) && decide (r ≤ 7)

theorem rightsB_iff (r : Int) : rightsB r = true ↔ 1 ≤ r ∧ r ≤ 7 := by simp [rightsB]

set_option maxHeartbeats 400000 in
theorem isRights_any (r : Int) (w : World) :
    Calls Try.prog 54 #[.int .i64 r] w fun e w' => e = .returned (.bool (rightsB r)) ∧ w = w' := by
  by_cases h1 : 1 ≤ r
  all_goals
    go_enter Try.func54, Try.ntmps54
    go_wp2
    go_ret
    refine ⟨?_, rfl⟩
    simp [rightsB, h1]
    try omega

def widthI (n : Int) : Int := if n = 1 ∨ n = 2 then n else 4

set_option maxHeartbeats 400000 in
theorem width_any (n : Int) (w : World) :
    Calls Try.prog 59 #[.int .i64 n] w fun e w' => e = .returned (.int .i64 (widthI n)) ∧ w = w' := by
  by_cases h1 : n = 1
  · subst h1
    go_enter Try.func59, Try.ntmps59
    go_wp2
    go_ret
    exact ⟨rfl, rfl⟩
  · by_cases h2 : n = 2
    · subst h2
      go_enter Try.func59, Try.ntmps59
      go_wp2
      go_ret
      exact ⟨rfl, rfl⟩
    · have e1 : (n == 1) = false := by simpa using h1
      have e2 : (n == 2) = false := by simpa using h2
      go_enter Try.func59, Try.ntmps59
      go_wp2
      go_ret
      refine ⟨?_, rfl⟩
      simp [widthI, h1, h2]

/-- Pages at .. at+n-1 are all among the 64. -/
def rowB (at_ n : Int) : Bool := decide (0 ≤ at_) && (decide (1 ≤ n) && (decide (n ≤ 64) && decide (at_ ≤ 64 - n)))

theorem rowB_iff (at_ n : Int) : rowB at_ n = true ↔ 0 ≤ at_ ∧ 1 ≤ n ∧ n ≤ 64 ∧ at_ ≤ 64 - n := by
  simp [rowB]

set_option maxRecDepth 100000 in
set_option maxHeartbeats 400000 in
theorem row_yes (a pb : Nat) (at_ n : Int) (w : World) (M : Mem) (hM : IsMem w a pb M) (h : rowB at_ n = true) :
    Calls Try.prog 56 #[.pointer (some ⟨a, 0, none⟩), .int .i64 at_, .int .i64 n] w fun e w' =>
      ∃ c, e = .returned (.tuple #[.slice (some ⟨pb, at_.toNat * 257, none⟩) n.toNat c, .bool true]) ∧ w = w' := by
  obtain ⟨h1, h2, h3, h4⟩ := (rowB_iff at_ n).1 h
  clear h
  obtain ⟨c, hc, c0⟩ := hM.c0
  have hcp : ¬ c = at_.toNat := by omega
  clear hM
  go_enter Try.func56, Try.ntmps56
  go_wp2
  go_ret2
  refine ⟨c - at_.toNat, ?_, rfl⟩
  have e : (at_ + n).toNat - at_.toNat = n.toNat := by omega
  simp [e]

set_option maxRecDepth 100000 in
set_option maxHeartbeats 400000 in
theorem row_no (a pb : Nat) (at_ n : Int) (w : World) (M : Mem) (hM : IsMem w a pb M) (h : rowB at_ n = false) (hn : -9223372036854775808 ≤ n) :
    Calls Try.prog 56 #[.pointer (some ⟨a, 0, none⟩), .int .i64 at_, .int .i64 n] w fun e w' =>
      e = .returned (.tuple #[.slice none 0 0, .bool false]) ∧ w = w' := by
  clear hM
  by_cases h1 : at_ < 0
  · clear h
    go_enter Try.func56, Try.ntmps56
    go_wp2
    go_ret2
    exact ⟨rfl, rfl⟩
  · by_cases h2 : n < 1
    · clear h
      go_enter Try.func56, Try.ntmps56
      go_wp2
      go_ret2
      exact ⟨rfl, rfl⟩
    · by_cases h3 : 64 < n
      · clear h
        go_enter Try.func56, Try.ntmps56
        go_wp2
        go_ret2
        exact ⟨rfl, rfl⟩
      · have h4 : 64 - n < at_ := by
          have : ¬ rowB at_ n = true := by simp [h]
          rw [rowB_iff] at this
          omega
        clear h
        go_enter Try.func56, Try.ntmps56
        go_wp2
        go_ret2
        exact ⟨rfl, rfl⟩

/-- What (*Memory).Rights tells. -/
def Mem.rights (M : Mem) (p : Int) : Int := if p < 0 ∨ 64 ≤ p then 0 else M.R p.toNat

/-- May the byte at a be used so? -/
def Mem.can (M : Mem) (a right : Int) : Bool := decide (a < 16384) && !(bits .and .i64 (M.R (a / 256).toNat) right == 0)

/-- Where the byte at a lies in the row of pages. -/
def cellOf (a : Int) : Nat := (a / 256).toNat * 257 + 1 + (a % 256).toNat

set_option maxRecDepth 100000 in
set_option maxHeartbeats 400000 in
theorem at_ok (a pb : Nat) (x right : Int) (w : World) (M : Mem) (hM : IsMem w a pb M) (h0 : 0 ≤ x) (h : M.can x right = true) :
    Calls Try.prog 60 #[.pointer (some ⟨a, 0, none⟩), .int .u32 x, .int .i64 right] w fun e w' => e = .returned (.pointer (some ⟨pb, cellOf x, none⟩)) ∧ w = w' := by
  simp only [Mem.can, Bool.and_eq_true, decide_eq_true_eq, Bool.not_eq_true'] at h
  obtain ⟨h1, h2⟩ := h
  obtain ⟨c, hc, c0⟩ := hM.c0
  have cR := hM.cR (x / 256).toNat (by omega)
  clear hM
  go_enter Try.func60, Try.ntmps60
  go_wp2
  go_ret
  exact ⟨rfl, rfl⟩

/-- The fault that a byte's use ends in. -/
def pageFault (x right : Int) : Value := .agg #[.int .i64 1, .int .u32 0, .int .u32 x, .int .i64 right]

set_option maxRecDepth 100000 in
set_option maxHeartbeats 400000 in
theorem at_bad (a pb : Nat) (x right : Int) (w : World) (M : Mem) (hM : IsMem w a pb M) (h0 : 0 ≤ x) (h : M.can x right = false) :
    Calls Try.prog 60 #[.pointer (some ⟨a, 0, none⟩), .int .u32 x, .int .i64 right] w fun e w' => e = .panicked [{ v := .iface 32 (pageFault x right), recovered := false }] ∧ w = w' := by
  by_cases h1 : 16384 ≤ x
  · clear hM h
    go_enter Try.func60, Try.ntmps60
    go_wp2
    exact ⟨rfl, rfl, rfl⟩
  · have h2 : (bits .and .i64 (M.R (x / 256).toNat) right == 0) = true := by
      simpa [Mem.can, show x < 16384 by omega] using h
    obtain ⟨c, hc, c0⟩ := hM.c0
    have cR := hM.cR (x / 256).toNat (by omega)
    clear hM h
    go_enter Try.func60, Try.ntmps60
    go_wp2
    exact ⟨rfl, rfl, rfl⟩

def Mem.mappedB (M : Mem) (x : Int) : Bool := decide (x < 16384) && (M.R (x / 256).toNat != 0)

set_option maxRecDepth 100000 in
set_option maxHeartbeats 400000 in
theorem mapped_any (a pb : Nat) (x : Int) (w : World) (M : Mem) (hM : IsMem w a pb M) (h0 : 0 ≤ x) :
    Calls Try.prog 63 #[.pointer (some ⟨a, 0, none⟩), .int .u32 x] w fun e w' => e = .returned (.bool (M.mappedB x)) ∧ w = w' := by
  by_cases h1 : x < 16384
  · obtain ⟨c, hc, c0⟩ := hM.c0
    have cR := hM.cR (x / 256).toNat (by omega)
    clear hM
    go_enter Try.func63, Try.ntmps63
    go_wp2
    go_ret
    refine ⟨?_, rfl⟩
    rw [Mem.mappedB, decide_eq_true h1, Bool.true_and]
    rfl
  · clear hM
    go_enter Try.func63, Try.ntmps63
    go_wp2
    go_ret
    refine ⟨?_, rfl⟩
    rw [Mem.mappedB, decide_eq_false (by omega)]
    rfl
end Go.Proofs.Ytncafchgdgmeaaa
