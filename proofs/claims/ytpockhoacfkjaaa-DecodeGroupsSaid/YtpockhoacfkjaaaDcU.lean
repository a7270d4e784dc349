/-
  Instructions held against one another. No condition.
-/
import Derived.Test.YtpockhoacfkjaaaEqG
import Derived.Test.YtpockhoacfkjaaaDcB
namespace Go.Proofs.Ytpockhoacfkjaaa
open Go Go.RowKit
set_option linter.unusedVariables false
set_option linter.unusedSimpArgs false

def Opd.eqB (a b : Opd) : Bool := ((a.k == b.k) && ((a.r == b.r) && ((a.imm == b.imm) && ((a.b == b.b) && ((a.x == b.x) && ((a.sc == b.sc) && true))))))
def Ins.eqB (i j : Ins) : Bool := ((i.op == j.op) && ((i.cond == j.cond) && (i.a.eqB j.a && (i.b.eqB j.b && ((i.rep == j.rep) && ((i.len == j.len) && true))))))

theorem Opd.eqB_self (a : Opd) : a.eqB a = true := by simp [Opd.eqB]
theorem Ins.eqB_self (i : Ins) : i.eqB i = true := by simp [Ins.eqB, Opd.eqB_self]
theorem Opd.eqB_iff (a b : Opd) : a.eqB b = true ↔ a = b := by
  constructor
  · intro h
    simp only [Opd.eqB, Bool.and_eq_true, beq_iff_eq, and_true] at h
    exact Opd.ext' h.1 h.2.1 h.2.2.1 h.2.2.2.1 h.2.2.2.2.1 h.2.2.2.2.2
  · rintro rfl; exact a.eqB_self
theorem Ins.eqB_iff (i j : Ins) : i.eqB j = true ↔ i = j := by
  constructor
  · intro h
    simp only [Ins.eqB, Bool.and_eq_true, beq_iff_eq, and_true, Opd.eqB_iff] at h
    obtain ⟨h1, h2, h3, h4, h5, h6⟩ := h
    cases i; cases j; simp_all
  · rintro rfl; exact i.eqB_self

theorem run_equalIn_opd (a b : Opd) (w : World) (d : Nat) : (Op.equalIn (d + 1 + 1) 26 (.agg a.cells) (.agg b.cells)).run Try.prog w = .ok (a.eqB b) w := by
  have hf : Try.prog.fieldsOf 26 = #[{ name := "Kind", type := 3, offset := 0, embedded := false, tag := "", pkgPath := "", byteOffset := 0 }, { name := "Reg", type := 3, offset := 1, embedded := false, tag := "", pkgPath := "", byteOffset := 8 },
    { name := "Imm", type := 24, offset := 2, embedded := false, tag := "", pkgPath := "", byteOffset := 16 }, { name := "Base", type := 3, offset := 3, embedded := false, tag := "", pkgPath := "", byteOffset := 24 },
    { name := "Index", type := 3, offset := 4, embedded := false, tag := "", pkgPath := "", byteOffset := 32 }, { name := "Scale", type := 24, offset := 5, embedded := false, tag := "", pkgPath := "", byteOffset := 40 }] := by kernel_rfl
  have hu : Try.prog.underlying 26 = some (.struct (Try.prog.fieldsOf 26)) := by kernel_rfl
  have hp : Try.prog.plainKey 3 = true := by kernel_rfl
  have hp32 : Try.prog.plainKey 24 = true := by kernel_rfl
  have hi := fun (x y : Int) => run_equalIn_int (P := Try.prog) w d 3 .i64 .i64 x y Try.underlying3
  have h32 := fun (x y : Int) => run_equalIn_int (P := Try.prog) w d 24 .u32 .u32 x y Try.underlying24
  rw [run_equalIn_struct w _ 26 _ _ hu (Try.stoodInHeld26), hf]
  exact eqFields_cons (by decide) (run_part_plain w hp rfl) (run_part_plain w hp rfl) (hi _ _) (eqFields_cons (by decide) (run_part_plain w hp rfl) (run_part_plain w hp rfl) (hi _ _) (eqFields_cons (by decide) (run_part_plain w hp32 rfl) (run_part_plain w hp32 rfl) (h32 _ _)
    (eqFields_cons (by decide) (run_part_plain w hp rfl) (run_part_plain w hp rfl) (hi _ _) (eqFields_cons (by decide) (run_part_plain w hp rfl) (run_part_plain w hp rfl) (hi _ _) (eqFields_cons (by decide) (run_part_plain w hp32 rfl) (run_part_plain w hp32 rfl) (h32 _ _) eqFields_nil)))))

theorem run_equalIn_ins (i j : Ins) (w : World) (d : Nat) : (Op.equalIn (d + 1 + 1 + 1) 28 (.agg i.cells) (.agg j.cells)).run Try.prog w = .ok (i.eqB j) w := by
  have hf : Try.prog.fieldsOf 28 = #[{ name := "Op", type := 3, offset := 0, embedded := false, tag := "", pkgPath := "", byteOffset := 0 }, { name := "Cond", type := 3, offset := 1, embedded := false, tag := "", pkgPath := "", byteOffset := 8 },
    { name := "A", type := 26, offset := 2, embedded := false, tag := "", pkgPath := "", byteOffset := 16 }, { name := "B", type := 26, offset := 8, embedded := false, tag := "", pkgPath := "", byteOffset := 64 },
    { name := "Rep", type := 4, offset := 14, embedded := false, tag := "", pkgPath := "", byteOffset := 112 }, { name := "Len", type := 3, offset := 15, embedded := false, tag := "", pkgPath := "", byteOffset := 120 }] := by kernel_rfl
  have hu : Try.prog.underlying 28 = some (.struct (Try.prog.fieldsOf 28)) := by kernel_rfl
  have hp : Try.prog.plainKey 3 = true := by kernel_rfl
  have hpB : Try.prog.plainKey 4 = true := by kernel_rfl
  have hi := fun (x y : Int) => run_equalIn_int (P := Try.prog) w (d + 1) 3 .i64 .i64 x y Try.underlying3
  have hA := fun xs : Array Value => part_range (P := Try.prog) (xs := xs) (t := 26) (i := Try.t26) (n := 6) (off := 2) w (Try.isAgg26 w) (by kernel_rfl) (by kernel_rfl)
  have hB := fun xs : Array Value => part_range (P := Try.prog) (xs := xs) (t := 26) (i := Try.t26) (n := 6) (off := 8) w (Try.isAgg26 w) (by kernel_rfl) (by kernel_rfl)
  have eA : ∀ s : Ins, s.cells.extract 2 (2 + 6) = s.a.cells := fun s => by simp [Ins.cells, Opd.cells]
  have eB : ∀ s : Ins, s.cells.extract 8 (8 + 6) = s.b.cells := fun s => by simp [Ins.cells, Opd.cells]
  have qA := run_equalIn_opd i.a j.a w d
  have qB := run_equalIn_opd i.b j.b w d
  rw [← eA i, ← eA j] at qA
  rw [← eB i, ← eB j] at qB
  rw [run_equalIn_struct w _ 28 _ _ hu (Try.stoodInHeld28), hf]
  exact eqFields_cons (by decide) (run_part_plain w hp rfl) (run_part_plain w hp rfl) (hi _ _) (eqFields_cons (by decide) (run_part_plain w hp rfl) (run_part_plain w hp rfl) (hi _ _) (eqFields_cons (by decide) (hA _) (hA _) qA (eqFields_cons (by decide) (hB _) (hB _) qB
    (eqFields_cons (by decide) (run_part_plain w hpB rfl) (run_part_plain w hpB rfl) (run_equalIn_bool w _ 4 _ _ Try.underlying4) (eqFields_cons (by decide) (run_part_plain w hp rfl) (run_part_plain w hp rfl) (hi _ _) eqFields_nil)))))

theorem run_eql_ins (i j : Ins) (w : World) : (binOp .eql 28 (.agg i.cells) (.agg j.cells)).run Try.prog w = .ok (.bool (i.eqB j)) w := by
  have h := run_equalIn_ins i j w 9997
  rw [run_eql_struct]
  rw [show (10000 : Nat) = 9997 + 1 + 1 + 1 from rfl, h, Result.andThen_ok]

theorem run_eql_opd (a b : Opd) (w : World) : (binOp .eql 26 (.agg a.cells) (.agg b.cells)).run Try.prog w = .ok (.bool (a.eqB b)) w := by
  have h := run_equalIn_opd a b w 9998
  rw [run_eql_struct]
  rw [show (10000 : Nat) = 9998 + 1 + 1 from rfl, h, Result.andThen_ok]

end Go.Proofs.Ytpockhoacfkjaaa
