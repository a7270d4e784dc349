/-
  Instructions held against one another. No condition.
-/
import Derived.Test.YtoplekfnghkkdaaMg01
import Derived.Test.YtoplekfnghkkdaaMg02
namespace Go.Proofs.Ytoplekfnghkkdaa
open Go Go.RowKit
set_option linter.unusedVariables false
set_option linter.unusedSimpArgs false

def Opd.eqB (a b : Opd) : Bool := ((a.k == b.k) && ((a.r == b.r) && ((a.imm == b.imm) && ((a.b == b.b) && ((a.x == b.x) && ((a.sc == b.sc) && true))))))
def Ins.eqB (i j : Ins) : Bool := ((i.op == j.op) && ((i.cond == j.cond) && (i.a.eqB j.a && (i.b.eqB j.b && ((i.rep == j.rep) && ((i.len == j.len) && true))))))

theorem Opd.eqB_self (a : Opd) : a.eqB a = true := by simp [Opd.eqB]
theorem Ins.eqB_self (i : Ins) : i.eqB i = true := by simp [Ins.eqB, Opd.eqB_self]
theorem Opd.eqB_iff (a b : Opd) : a.eqB b = true ↔ a = b := by
  constructor
  · intro h
    simp only [Opd.eqB, Bool.and_eq_true, beq_iff_eq, and_true] at h
    exact Opd.ext' h.1 h.2.1 h.2.2.1 h.2.2.2.1 h.2.2.2.2.1 h.2.2.2.2.2
  · rintro rfl; exact a.eqB_self
theorem Ins.eqB_iff (i j : Ins) : i.eqB j = true ↔ i = j := by
  constructor
  · intro h
    simp only [Ins.eqB, Bool.and_eq_true, beq_iff_eq, and_true, Opd.eqB_iff] at h
    obtain ⟨h1, h2, h3, h4, h5, h6⟩ := h
    cases i; cases j; simp_all
  · rintro rfl; exact i.eqB_self

theorem run_equalIn_opd (a b : Opd) (w : World) (d : Nat) : (Op.equalIn (d + 1 + 1) 26 (.agg a.cells) (.agg b.cells)).run Try.prog w = .ok (a.eqB b) w := by
  have hf : Try.prog.fieldsOf 26 = #[{ name := "Kind", type := 3, offset := 0, embedded := false, tag := "", pkgPath := "", byteOffset := 0 }, { name := "Reg", type := 3, offset := 1, embedded := false, tag := "", pkgPath := "", byteOffset := 8 },
    { name := "Imm", type := 24, offset := 2, embedded := false, tag := "", pkgPath := "", byteOffset := 16 }, { name := "Base", type := 3, offset := 3, embedded := false, tag := "", pkgPath := "", byteOffset := 24 },
    { name := "Index", type := 3, offset := 4, embedded := false, tag := "", pkgPath := "", byteOffset := 32 }, { name := "Scale", type := 24, offset := 5, embedded := false, tag := "", pkgPath := "", byteOffset := 40 }] := by kernel_rfl
  have hu : Try.prog.underlying 26 = some (.struct (Try.prog.fieldsOf 26)) := by kernel_rfl
  have hp : Try.prog.plainKey 3 = true := by kernel_rfl
  have hp32 : Try.prog.plainKey 24 = true := by kernel_rfl
  have hi := fun (x y : Int) => run_equalIn_int (P := Try.prog) w d 3 .i64 .i64 x y Try.underlying3
  have h32 := fun (x y : Int) => run_equalIn_int (P := Try.prog) w d 24 .u32 .u32 x y Try.underlying24
  rw [run_equalIn_struct w _ 26 _ _ hu (Try.stoodInHeld26), hf]
  exact eqFields_cons (by decide) (run_part_plain w hp rfl) (run_part_plain w hp rfl) (hi _ _) (eqFields_cons (by decide) (run_part_plain w hp rfl) (run_part_plain w hp rfl) (hi _ _) (eqFields_cons (by decide) (run_part_plain w hp32 rfl) (run_part_plain w hp32 rfl) (h32 _ _)
    (eqFields_cons (by decide) (run_part_plain w hp rfl) (run_part_plain w hp rfl) (hi _ _) (eqFields_cons (by decide) (run_part_plain w hp rfl) (run_part_plain w hp rfl) (hi _ _) (eqFields_cons (by decide) (run_part_plain w hp32 rfl) (run_part_plain w hp32 rfl) (h32 _ _) eqFields_nil)))))

theorem run_equalIn_ins (i j : Ins) (w : World) (d : Nat) : (Op.equalIn (d + 1 + 1 + 1) 28 (.agg i.cells) (.agg j.cells)).run Try.prog w = .ok (i.eqB j) w := by
  have hf : Try.prog.fieldsOf 28 = #[{ name := "Op", type := 3, offset := 0, embedded := false, tag := "", pkgPath := "", byteOffset := 0 }, { name := "Cond", type := 3, offset := 1, embedded := false, tag := "", pkgPath := "", byteOffset := 8 },
    { name := "A", type := 26, offset := 2, embedded := false, tag := "", pkgPath := "", byteOffset := 16 }, { name := "B", type := 26, offset := 8, embedded := false, tag := "", pkgPath := "", byteOffset := 64 },
    { name := "Rep", type := 4, offset := 14, embedded := false, tag := "", pkgPath := "", byteOffset := 112 }, { name := "Len", type := 3, offset := 15, embedded := false, tag := "", pkgPath := "", byteOffset := 120 }] := by kernel_rfl
  have hu : Try.prog.underlying 28 = some (.struct (Try.prog.fieldsOf 28)) := by kernel_rfl
  have hp : Try.prog.plainKey 3 = true := by kernel_rfl
  have hpB : Try.prog.plainKey 4 = true := by kernel_rfl
  have hi := fun (x y : Int) => run_equalIn_int (P := Try.prog) w (d + 1) 3 .i64 .i64 x y Try.underlying3
  have hA := fun xs : Array Value => part_range (P := Try.prog) (xs := xs) (t := 26) (i := Try.t26) (n := 6) (off := 2) w (Try.isAgg26 w) (by kernel_rfl) (by kernel_rfl)
  have hB := fun xs : Array Value => part_range (P := Try.prog) (xs := xs) (t := 26) (i := Try.t26) (n := 6) (off := 8) w (Try.isAgg26 w) (by kernel_rfl) (by kernel_rfl)
  have eA : ∀ s : Ins, s.cells.extract 2 (2 + 6) = s.a.cells := fun s => by simp [Ins.cells, Opd.cells]
  have eB : ∀ s : Ins, s.cells.extract 8 (8 + 6) = s.b.cells := fun s => by simp [Ins.cells, Opd.cells]
  have qA := run_equalIn_opd i.a j.a w d
  have qB := run_equalIn_opd i.b j.b w d
  rw [← eA i, ← eA j] at qA
  rw [← eB i, ← eB j] at qB
  rw [run_equalIn_struct w _ 28 _ _ hu (Try.stoodInHeld28), hf]
  exact eqFields_cons (by decide) (run_part_plain w hp rfl) (run_part_plain w hp rfl) (hi _ _) (eqFields_cons (by decide) (run_part_plain w hp rfl) (run_part_plain w hp rfl) (hi _ _) (eqFields_cons (by decide) (hA _) (hA _) qA (eqFields_cons (by decide) (hB _) (hB _) qB
    (eqFields_cons (by decide) (run_part_plain w hpB rfl) (run_part_plain w hpB rfl) (run_equalIn_bool w _ 4 _ _ Try.underlying4) (eqFields_cons (by decide) (run_part_plain w hp rfl) (run_part_plain w hp rfl) (hi _ _) eqFields_nil)))))

theorem run_eql_ins (i j : Ins) (w : World) : (binOp .eql 28 (.agg i.cells) (.agg j.cells)).run Try.prog w = .ok (.bool (i.eqB j)) w := by
  have h := run_equalIn_ins i j w 9997
  rw [run_eql_struct]
  rw [show (10000 : Nat) = 9997 + 1 + 1 + 1 from rfl, h, Result.andThen_ok]

theorem run_eql_opd (a b : Opd) (w : World) : (binOp .eql 26 (.agg a.cells) (.agg b.cells)).run Try.prog w = .ok (.bool (a.eqB b)) w := by
  have h := run_equalIn_opd a b w 9998
  rw [run_eql_struct]
  rw [show (10000 : Nat) = 9998 + 1 + 1 from rfl, h, Result.andThen_ok]

end Go.Proofs.Ytoplekfnghkkdaa

/-
  The document's decoder (the reference of layer 10) as plain data: what each of its functions makes of a list of bytes and a reader. No condition; no program in sight.
-/
namespace Go.Proofs.Ytoplekfnghkkdaa
open Go Go.RowKit
set_option linter.unusedVariables false

/-- A reader: where it stands, whether the bytes ended, whether it is told to be none. -/
structure Rd where
  k : Nat
  sh : Bool
  bd : Bool

def Rd.short (s : Rd) : Rd := { s with sh := true }

/-- A byte. -/
def reB (L : List Int) (s : Rd) : Int := if s.k < L.length then L.getD s.k 0 else 0
def reB' (L : List Int) (s : Rd) : Rd := if s.k < L.length then { s with k := s.k + 1 } else s.short
/-- A word. -/
def reW' (L : List Int) (s : Rd) : Rd := reB' L (reB' L (reB' L (reB' L s)))
def reW (L : List Int) (s : Rd) : Int := reB L s + reB L (reB' L s) * 256 + reB L (reB' L (reB' L s)) * 65536 + reB L (reB' L (reB' L (reB' L s))) * 16777216

/-- What stands behind ModRM and SIB. -/
def reT (L : List Int) (mod base x sc : Int) (s : Rd) : Opd :=
  if mod = 0 ∧ base = 5 then ⟨3, 0, reW L s, -1, x, sc⟩ else if mod = 1 then ⟨3, 0, sx8 (reB L s), base, x, sc⟩ else if mod = 2 then ⟨3, 0, reW L s, base, x, sc⟩ else ⟨3, 0, 0, base, x, sc⟩
def reT' (L : List Int) (mod base x sc : Int) (s : Rd) : Rd :=
  if mod = 0 ∧ base = 5 then reW' L s else if mod = 1 then reB' L s else if mod = 2 then reW' L s else s

/-- ModRM. -/
def reM (L : List Int) (s : Rd) : Opd :=
  let c := reB L s
  if c / 64 = 3 then regO (c % 8)
  else if c % 8 = 4 then
    let t := reB L (reB' L s)
    if t / 8 % 8 = 4 then reT L (c / 64) (t % 8) (-1) 1 (reB' L (reB' L s)) else reT L (c / 64) (t % 8) (t / 8 % 8) (2 ^ (t / 64).toNat) (reB' L (reB' L s))
  else reT L (c / 64) (c % 8) (-1) 1 (reB' L s)
def reM' (L : List Int) (s : Rd) : Rd :=
  let c := reB L s
  if c / 64 = 3 then reB' L s
  else if c % 8 = 4 then
    let t := reB L (reB' L s)
    if t / 8 % 8 = 4 then reT' L (c / 64) (t % 8) (-1) 1 (reB' L (reB' L s)) else reT' L (c / 64) (t % 8) (t / 8 % 8) (2 ^ (t / 64).toNat) (reB' L (reB' L s))
  else reT' L (c / 64) (c % 8) (-1) 1 (reB' L s)
def reN (L : List Int) (s : Rd) : Int := reB L s / 8 % 8

/-- What a part of the decoder makes: the instruction, whether it isn't in here, the reader behind it. -/
structure RI where
  i : Ins
  e : Bool
  s : Rd

def reGroup (L : List Int) (op k : Int) (s : Rd) : RI :=
  if k = 5 then ⟨⟨op, 0, regO 0, immO (reW L s), false, 0⟩, false, reW' L s⟩
  else if k = 1 then ⟨⟨op, 0, reM L s, regO (reN L s), false, 0⟩, false, reM' L s⟩
  else ⟨⟨op, 0, regO (reN L s), reM L s, false, 0⟩, false, reM' L s⟩

/-- Without ModRM; nothing: none of these. -/
def rePlain (L : List Int) (c : Int) (s : Rd) : Option RI :=
  if c = 104 then some ⟨⟨28, 0, immO (reW L s), Opd.none, false, 0⟩, false, reW' L s⟩
  else if c = 106 then some ⟨⟨28, 0, immO (sx8 (reB L s)), Opd.none, false, 0⟩, false, reB' L s⟩
  else if c = 144 then some ⟨bareI 44, false, s⟩
  else if c = 153 then some ⟨bareI 38, false, s⟩
  else if c = 165 then some ⟨bareI 41, false, s⟩
  else if c = 169 then some ⟨⟨11, 0, regO 0, immO (reW L s), false, 0⟩, false, reW' L s⟩
  else if c = 171 then some ⟨bareI 42, false, s⟩
  else if c = 195 then some ⟨bareI 31, false, s⟩
  else if c = 232 then some ⟨⟨30, 0, immO (reW L s), Opd.none, false, 0⟩, false, reW' L s⟩
  else if c = 233 then some ⟨⟨32, 0, immO (reW L s), Opd.none, false, 0⟩, false, reW' L s⟩
  else if c = 235 then some ⟨⟨32, 0, immO (sx8 (reB L s)), Opd.none, false, 0⟩, false, reB' L s⟩
  else if c = 252 then some ⟨bareI 39, false, s⟩
  else if c = 253 then some ⟨bareI 40, false, s⟩
  else if c = 205 then some ⟨⟨43, 0, immO (reB L s), Opd.none, false, 0⟩, false, reB' L s⟩
  else if c = 243 then
    if reB L s = 165 then some ⟨⟨41, 0, Opd.none, Opd.none, true, 0⟩, false, reB' L s⟩
    else if reB L s = 171 then some ⟨⟨42, 0, Opd.none, Opd.none, true, 0⟩, false, reB' L s⟩
    else some ⟨Ins.zero, false, reB' L s⟩
  else none

def modL : List Int := [129, 131, 133, 135, 136, 137, 138, 139, 141, 193, 198, 199, 209, 211, 217, 220, 221, 247, 255]

/-- Told already, where the bytes end within ModRM. -/
def toldE (c n mod : Int) : Bool :=
  if c = 193 ∨ c = 209 ∨ c = 211 then shiftsI n == 0 else if c = 217 then true else if c = 220 then numbersI n == 0 || mod == 3 else if c = 221 then n != 0 && n != 3
  else if c = 247 then n == 1 else if c = 255 then n == 3 || n == 5 else false
def badE (c n : Int) : Bool := if c = 198 ∨ c = 199 then n != 0 else if c = 255 then n == 7 else false
def reEarly (L : List Int) (c : Int) (s : Rd) : RI :=
  if L.length < 2 then ⟨Ins.zero, false, s⟩
  else
    let n := L.getD 1 0 / 8 % 8
    let mod := L.getD 1 0 / 64
    let b := if c = 198 ∨ c = 199 then n != 0 else if c = 255 ∧ n = 7 then true else s.bd
    ⟨Ins.zero, toldE c n mod, ⟨s.k, if toldE c n mod || b then false else s.sh, b⟩⟩

def reRest (L : List Int) (c : Int) (m : Opd) (n : Int) (s : Rd) : RI :=
  if c = 198 then if n = 0 then ⟨⟨2, 0, m, immO (reB L { s with bd := false }), false, 0⟩, false, reB' L { s with bd := false }⟩ else ⟨Ins.zero, false, { s with bd := true }⟩
  else if c = 199 then if n = 0 then ⟨⟨1, 0, m, immO (reW L { s with bd := false }), false, 0⟩, false, reW' L { s with bd := false }⟩ else ⟨Ins.zero, false, { s with bd := true }⟩
  else if c = 217 then if m.eqB (regO 0) = true ∧ n = 4 then ⟨bareI 51, false, s⟩ else ⟨bareI 52, !(m.eqB (regO 1) && n == 4), s⟩
  else if c = 220 then ⟨⟨numbersI n, 0, m, Opd.none, false, 0⟩, numbersI n == 0 || m.k == 1, s⟩
  else if c = 221 then ⟨⟨if n = 3 then 46 else 45, 0, m, Opd.none, false, 0⟩, (n != 0 && n != 3) || m.k == 1, s⟩
  else if c = 247 then if n = 0 then ⟨⟨11, 0, m, immO (reW L s), false, 0⟩, false, reW' L s⟩ else ⟨⟨othersI n, 0, m, Opd.none, false, 0⟩, othersI n == 0, s⟩
  else ⟨⟨lastI n, 0, m, Opd.none, false, 0⟩, lastI n == 0, { s with bd := n == 7 }⟩

def reModRest (L : List Int) (c : Int) (m : Opd) (n : Int) (s : Rd) : RI :=
  if c = 129 then ⟨⟨eightI n, 0, m, immO (reW L s), false, 0⟩, false, reW' L s⟩
  else if c = 131 then ⟨⟨eightI n, 0, m, immO (sx8 (reB L s)), false, 0⟩, false, reB' L s⟩
  else if c = 133 then ⟨⟨11, 0, m, regO n, false, 0⟩, false, s⟩
  else if c = 135 then ⟨⟨27, 0, m, regO n, false, 0⟩, false, s⟩
  else if c = 136 then ⟨⟨2, 0, m, regO n, false, 0⟩, false, s⟩
  else if c = 137 then ⟨⟨1, 0, m, regO n, false, 0⟩, false, s⟩
  else if c = 138 then ⟨⟨2, 0, regO n, m, false, 0⟩, false, s⟩
  else if c = 139 then ⟨⟨1, 0, regO n, m, false, 0⟩, false, s⟩
  else if c = 141 then ⟨⟨26, 0, regO n, m, false, 0⟩, false, { s with bd := m.k == 1 }⟩
  else if c = 193 then if shiftsI n = 0 then ⟨Ins.zero, true, s⟩ else ⟨⟨shiftsI n, 0, m, immO (reB L s), false, 0⟩, false, reB' L s⟩
  else if c = 209 then ⟨⟨shiftsI n, 0, m, immO 1, false, 0⟩, shiftsI n == 0, s⟩
  else if c = 211 then ⟨⟨shiftsI n, 0, m, regO 1, false, 0⟩, shiftsI n == 0, s⟩
  else reRest L c m n s

def reTwo (L : List Int) (s0 : Rd) : RI :=
  let c := reB L s0
  let s := reB' L s0
  if s.sh then ⟨Ins.zero, false, s⟩
  else if c = 11 then ⟨Ins.zero, false, { s with bd := true }⟩
  else if c / 16 = 8 then ⟨⟨33, c % 16, immO (reW L s), Opd.none, false, 0⟩, false, reW' L s⟩
  else if c / 16 = 4 then ⟨⟨35, c % 16, regO (reN L s), reM L s, false, 0⟩, false, reM' L s⟩
  else if c / 16 = 9 then
    if (reM' L s).sh ∧ 2 < L.length ∧ L.getD 2 0 / 8 % 8 ≠ 0 then ⟨Ins.zero, true, { reM' L s with sh := false }⟩
    else ⟨⟨34, c % 16, reM L s, Opd.none, false, 0⟩, reN L s != 0, reM' L s⟩
  else if c = 175 then ⟨⟨18, 0, regO (reN L s), reM L s, false, 0⟩, false, reM' L s⟩
  else if c = 182 then ⟨⟨36, 0, regO (reN L s), reM L s, false, 0⟩, false, reM' L s⟩
  else if c = 190 then ⟨⟨37, 0, regO (reN L s), reM L s, false, 0⟩, false, reM' L s⟩
  else ⟨Ins.zero, true, s⟩

def reModded (L : List Int) (c : Int) (s : Rd) : RI :=
  if c = 15 then reTwo L s
  else if modL.contains c then
    if (reM' L s).sh then reEarly L c (reM' L s) else reModRest L c (reM L s) (reN L s) (reM' L s)
  else ⟨Ins.zero, true, s⟩

def reInsn (L : List Int) (s0 : Rd) : RI :=
  let c := reB L s0
  let s := reB' L s0
  if s.sh then ⟨Ins.zero, false, s⟩
  else if c < 64 ∧ (c % 8 = 1 ∨ c % 8 = 3 ∨ c % 8 = 5) then reGroup L (eightI (c / 8)) (c % 8) s
  else if 64 ≤ c ∧ c < 72 then ⟨⟨12, 0, regO (c % 8), Opd.none, false, 0⟩, false, s⟩
  else if 72 ≤ c ∧ c < 80 then ⟨⟨13, 0, regO (c % 8), Opd.none, false, 0⟩, false, s⟩
  else if 80 ≤ c ∧ c < 88 then ⟨⟨28, 0, regO (c % 8), Opd.none, false, 0⟩, false, s⟩
  else if 88 ≤ c ∧ c < 96 then ⟨⟨29, 0, regO (c % 8), Opd.none, false, 0⟩, false, s⟩
  else if 112 ≤ c ∧ c < 128 then ⟨⟨33, c % 16, immO (sx8 (reB L s)), Opd.none, false, 0⟩, false, reB' L s⟩
  else if 176 ≤ c ∧ c < 184 then ⟨⟨2, 0, regO (c % 8), immO (reB L s), false, 0⟩, false, reB' L s⟩
  else if 184 ≤ c ∧ c < 192 then ⟨⟨1, 0, regO (c % 8), immO (reW L s), false, 0⟩, false, reW' L s⟩
  else match rePlain L c s with
    | some r => r
    | none => reModded L c s

/-! ### What an instruction may be -/
def noneB (o : Opd) : Bool := o.eqB Opd.none
def isRegB (o : Opd) : Bool := o.k == 1 && decide (0 ≤ o.r) && decide (o.r < 8) && o.eqB (regO o.r)
def isImmB (o : Opd) : Bool := o.eqB (immO o.imm) && o.k == 2
def isMemB (o : Opd) : Bool :=
  o.k == 3 && o.r == 0 && decide (-1 ≤ o.b) && decide (o.b < 8) && decide (-1 ≤ o.x) && decide (o.x < 8) && o.x != 4 && (o.sc == 1 || decide (0 ≤ o.x) && (o.sc == 2 || o.sc == 4 || o.sc == 8))
def rmB (o : Opd) : Bool := isRegB o || isMemB o
def byteImmB (o : Opd) : Bool := isImmB o && decide (o.imm < 256)

def operandsB (op : Int) (a b : Opd) : Bool :=
  if op = 1 ∨ 3 ≤ op ∧ op ≤ 10 then rmB a && (isRegB b || isImmB b || isRegB a && isMemB b)
  else if op = 11 then rmB a && (isRegB b || isImmB b)
  else if op = 2 then rmB a && (isRegB b || byteImmB b || isRegB a && isMemB b)
  else if op = 27 then rmB a && isRegB b
  else if 12 ≤ op ∧ op ≤ 17 ∨ op = 19 ∨ op = 20 ∨ op = 34 then rmB a && noneB b
  else if op = 18 ∨ op = 35 ∨ op = 36 ∨ op = 37 then isRegB a && rmB b
  else if 21 ≤ op ∧ op ≤ 25 then rmB a && (byteImmB b || isRegB b && b.r == 1)
  else if op = 26 then isRegB a && isMemB b
  else if op = 28 ∨ op = 30 ∨ op = 32 then (rmB a || isImmB a) && noneB b
  else if op = 29 then isRegB a && noneB b
  else if op = 33 then isImmB a && noneB b
  else if op = 43 then isImmB a && a.imm == 128 && noneB b
  else if op = 45 ∨ op = 46 ∨ 47 ≤ op ∧ op ≤ 50 ∨ op = 53 then isMemB a && noneB b
  else if op = 31 ∨ 38 ≤ op ∧ op ≤ 42 ∨ op = 44 ∨ op = 51 ∨ op = 52 then noneB a && noneB b
  else false

def isB (i : Ins) : Bool :=
  if i.len < 0 ∨ 15 < i.len ∨ i.rep = true ∧ i.op ≠ 41 ∧ i.op ≠ 42 then false
  else if i.cond < 0 ∨ 15 < i.cond ∨ i.cond ≠ 0 ∧ i.op ≠ 33 ∧ i.op ≠ 34 ∧ i.op ≠ 35 then false
  else operandsB i.op i.a i.b

/-- The instruction, the error. -/
def refI (L : List Int) : Ins :=
  let r := reInsn L ⟨0, false, false⟩
  if r.s.sh ∨ r.s.bd ∨ r.e = true ∨ isB r.i = false then Ins.zero else { r.i with len := r.s.k }
def refE (L : List Int) : Int :=
  let r := reInsn L ⟨0, false, false⟩
  if r.s.sh then 10 else if r.s.bd then 90 else if r.e = true ∨ isB r.i = false then 12 else 0

end Go.Proofs.Ytoplekfnghkkdaa

/-
  The document's instructions in Go: none, isReg, isImm, isMem, rm, byteImm: each by its contract. No condition.
-/
namespace Go.Proofs.Ytoplekfnghkkdaa
open Go Go.RowKit
set_option linter.unusedVariables false
set_option linter.unusedSimpArgs false

def Opd.arg (o : Opd) : Value := .agg #[.int .i64 o.k, .int .i64 o.r, .int .u32 o.imm, .int .i64 o.b, .int .i64 o.x, .int .u32 o.sc]

set_option maxRecDepth 100000 in
set_option maxHeartbeats 1000000 in
theorem none9_any (o : Opd) (w : World) : Calls Try.prog 182 #[o.arg] w fun e w' => e = .returned (.bool (noneB o)) ∧ Upd [] w w' := by
  have hq := fun w : World => show (binOp .eql 26 (.agg #[.int .i64 o.k, .int .i64 o.r, .int .u32 o.imm, .int .i64 o.b, .int .i64 o.x, .int .u32 o.sc]) (.agg #[.int .i64 0, .int .i64 0, .int .u32 0, .int .i64 0, .int .i64 0, .int .u32 0])).run Try.prog w = .ok (.bool (noneB o)) w from run_eql_opd o Opd.none w
  unfold Opd.arg
  go_enter Try.func182, Try.ntmps182
  go_wp2
  go_ret
  exact ⟨rfl, (Upd.refl _ _).alloc _⟩

set_option maxRecDepth 100000 in
set_option maxHeartbeats 1000000 in
theorem isReg9_any (o : Opd) (w : World) : Calls Try.prog 178 #[o.arg] w fun e w' => e = .returned (.bool (isRegB o)) ∧ Upd [] w w' := by
  unfold Opd.arg
  go_enter Try.func178, Try.ntmps178
  go_wp2
  all_goals (go_ret; refine ⟨?_, (Upd.refl _ _).alloc _⟩; simp_all [isRegB, Opd.eqB, regO] <;> omega)

set_option maxRecDepth 100000 in
set_option maxHeartbeats 1000000 in
theorem isImm9_any (o : Opd) (w : World) : Calls Try.prog 179 #[o.arg] w fun e w' => e = .returned (.bool (isImmB o)) ∧ Upd [] w w' := by
  unfold Opd.arg
  go_enter Try.func179, Try.ntmps179
  go_wp2
  all_goals (go_ret; refine ⟨?_, (Upd.refl _ _).alloc _⟩; simp_all [isImmB, Opd.eqB, immO])

set_option maxRecDepth 100000 in
set_option maxHeartbeats 4000000 in
theorem isMem9_any (o : Opd) (w : World) : Calls Try.prog 180 #[o.arg] w fun e w' => e = .returned (.bool (isMemB o)) ∧ Upd [] w w' := by
  unfold Opd.arg
  go_enter Try.func180, Try.ntmps180
  go_wp2
  all_goals (go_ret; refine ⟨?_, (Upd.refl _ _).alloc _⟩; simp_all [isMemB] <;> first | omega | (rw [show decide (0 ≤ o.x) = false from decide_eq_false (by omega), Bool.false_and, Bool.or_false]))

set_option maxRecDepth 100000 in
set_option maxHeartbeats 1000000 in
theorem rm9_any (o : Opd) (w : World) : Calls Try.prog 177 #[o.arg] w fun e w' => e = .returned (.bool (rmB o)) ∧ Upd [] w w' := by
  have tok : True := trivial
  unfold rmB
  cases h1 : isRegB o
  · have H1 := Lib.hid h1
    clear h1
    unfold Opd.arg
    go_enter Try.func177, Try.ntmps177
    go_wp2_with (first | (go_at_call 178; refine (isReg9_any o _).mono ?_; rintro e w1 ⟨rfl, hu⟩; rw [H1.out]; have U1 := Lib.hid (((Upd.refl [] w).alloc _).also hu (by simp)); have c1 := cells_of (hu.get (heap_alloc_new w _) (by simp)); clear hu) | (have _t := U1; clear _t; go_at_call 180; refine (isMem9_any o _).mono ?_; rintro e w2 ⟨rfl, hu⟩; have U2 := Lib.hid (U1.out.also hu (by simp)); clear hu))
    go_ret
    exact ⟨by rw [Bool.false_or]; rfl, U2.out⟩
  · have H1 := Lib.hid h1
    clear h1
    unfold Opd.arg
    go_enter Try.func177, Try.ntmps177
    go_wp2_with (first | (go_at_call 178; refine (isReg9_any o _).mono ?_; rintro e w1 ⟨rfl, hu⟩; rw [H1.out]; have U1 := Lib.hid (((Upd.refl [] w).alloc _).also hu (by simp)); clear hu))
    go_ret
    exact ⟨by rw [Bool.true_or]; rfl, U1.out⟩

set_option maxRecDepth 100000 in
set_option maxHeartbeats 1000000 in
theorem byteImm9_any (o : Opd) (w : World) : Calls Try.prog 181 #[o.arg] w fun e w' => e = .returned (.bool (byteImmB o)) ∧ Upd [] w w' := by
  unfold byteImmB
  cases h1 : isImmB o
  · have H1 := Lib.hid h1
    clear h1
    unfold Opd.arg
    go_enter Try.func181, Try.ntmps181
    go_wp2_with (first | (go_at_call 179; refine (isImm9_any o _).mono ?_; rintro e w1 ⟨rfl, hu⟩; rw [H1.out]; have U1 := Lib.hid (((Upd.refl [] w).alloc _).also hu (by simp)); clear hu))
    go_ret
    exact ⟨by rw [Bool.false_and]; rfl, U1.out⟩
  · have H1 := Lib.hid h1
    clear h1
    unfold Opd.arg
    go_enter Try.func181, Try.ntmps181
    go_wp2_with (first | (go_at_call 179; refine (isImm9_any o _).mono ?_; rintro e w1 ⟨rfl, hu⟩; rw [H1.out]; have U1 := Lib.hid (((Upd.refl [] w).alloc _).also hu (by simp)); have c1 := cells_of (hu.get (heap_alloc_new w _) (by simp)); clear hu))
    all_goals (go_ret; refine ⟨?_, U1.out⟩; simp_all)
end Go.Proofs.Ytoplekfnghkkdaa
