/-
  Bytes as instructions, as plain data: what each function of the decoder makes of a list of bytes from a place on. No condition; no program in sight.
-/
import Derived.Test.YtpockhoacfkjaaaOpd
namespace Go.Proofs.Ytpockhoacfkjaaa
open Go Go.RowKit
set_option linter.unusedVariables false

/-- What a reading makes: a value and the place behind it, or an error's number. -/
inductive DR (α : Type) where
  | ok (v : α) (k : Nat)
  | err (c : Int)

def DR.bind {α β : Type} (r : DR α) (f : α → Nat → DR β) : DR β :=
  match r with
  | .ok v k => f v k
  | .err c => .err c

theorem DR.bind_ok {α β : Type} (v : α) (k : Nat) (f : α → Nat → DR β) : (DR.ok v k).bind f = f v k := rfl
theorem DR.bind_err {α β : Type} (c : Int) (f : α → Nat → DR β) : (DR.err c : DR α).bind f = .err c := rfl

def dcByte (L : List Int) (k : Nat) : DR Int := if k < L.length then .ok (L.getD k 0) (k + 1) else .err 10

def wordAt (L : List Int) (k : Nat) : Int := L.getD k 0 + L.getD (k + 1) 0 * 256 + L.getD (k + 2) 0 * 65536 + L.getD (k + 3) 0 * 16777216

def dcWord (L : List Int) (k : Nat) : DR Int := if k + 4 ≤ L.length then .ok (wordAt L k) (k + 4) else .err 10

/-- A byte with its sign, as a word. -/
def sx8 (b : Int) : Int := if b < 128 then b else b + 4294967040

def dcImm8 (L : List Int) (k : Nat) : DR Opd := (dcByte L k).bind fun b k => .ok (immO (sx8 b)) k
def dcSmall (L : List Int) (k : Nat) : DR Opd := (dcByte L k).bind fun b k => .ok (immO b) k
def dcImm32 (L : List Int) (k : Nat) : DR Opd := (dcWord L k).bind fun v k => .ok (immO v) k

structure Mrm where
  mod : Int
  reg : Int
  rm : Int

def Mrm.cells (m : Mrm) : Array Value := #[.int .i64 m.mod, .int .i64 m.reg, .int .i64 m.rm]
def mrmOf (b : Int) : Mrm := ⟨b / 64, b / 8 % 8, b % 8⟩

def dcMrm (L : List Int) (k : Nat) : DR Mrm := (dcByte L k).bind fun b k => .ok (mrmOf b) k

def dcTail (L : List Int) (mod base x sc : Int) (k : Nat) : DR Opd :=
  if mod = 1 then (dcByte L k).bind fun b k => .ok ⟨3, 0, sx8 b, base, x, sc⟩ k
  else if mod = 2 then (dcWord L k).bind fun v k => .ok ⟨3, 0, v, base, x, sc⟩ k
  else if base = 5 then (dcWord L k).bind fun v k => .ok ⟨3, 0, v, -1, x, sc⟩ k
  else .ok ⟨3, 0, 0, base, x, sc⟩ k

def dcPlace (L : List Int) (m : Mrm) (k : Nat) : DR Opd :=
  if m.mod = 3 then .ok (regO m.rm) k
  else if m.rm = 4 then (dcByte L k).bind fun s k => dcTail L m.mod (s % 8) (if s / 8 % 8 = 4 then -1 else s / 8 % 8) (if s / 8 % 8 = 4 then 1 else 2 ^ (s / 64).toNat) k
  else dcTail L m.mod m.rm (-1) 1 k

def eightI (n : Int) : Int := n + 3
def shiftsI (n : Int) : Int := if n = 0 then 21 else if n = 1 then 22 else if n = 4 then 23 else if n = 5 then 24 else if n = 7 then 25 else 0
def othersI (n : Int) : Int := if n = 2 then 14 else if n = 3 then 15 else if n = 4 then 16 else if n = 5 then 17 else if n = 6 then 19 else if n = 7 then 20 else 0
def numbersI (n : Int) : Int := if n = 0 then 47 else if n = 1 then 48 else if n = 2 then 53 else if n = 4 then 49 else if n = 6 then 50 else 0
def fldI (n : Int) : Int := if n = 0 then 45 else if n = 3 then 46 else 0
def lastI (n : Int) : Int := if n = 0 then 12 else if n = 1 then 13 else if n = 2 then 30 else if n = 4 then 32 else if n = 6 then 28 else 0

def dcTwo (L : List Int) (op : Int) (toReg : Bool) (k : Nat) : DR Ins :=
  (dcMrm L k).bind fun m k => (dcPlace L m k).bind fun o k => .ok (if toReg = true then ⟨op, 0, regO m.reg, o, false, 0⟩ else ⟨op, 0, o, regO m.reg, false, 0⟩) k

def dcOne (L : List Int) (op : Int) (m : Mrm) (k : Nat) : DR Ins := (dcPlace L m k).bind fun o k => .ok ⟨op, 0, o, Opd.none, false, 0⟩ k

def dcRow (L : List Int) (c : Int) (k : Nat) : DR Ins :=
  if c % 8 = 1 then dcTwo L (eightI (c / 8)) false k
  else if c % 8 = 3 then dcTwo L (eightI (c / 8)) true k
  else if c % 8 = 5 then (dcImm32 L k).bind fun o k => .ok ⟨eightI (c / 8), 0, regO 0, o, false, 0⟩ k
  else .err 12

def dcLea (L : List Int) (k : Nat) : DR Ins :=
  (dcMrm L k).bind fun m k => if m.mod = 3 then .err 90 else (dcPlace L m k).bind fun o k => .ok ⟨26, 0, regO m.reg, o, false, 0⟩ k

def dcLays (L : List Int) (c : Int) (k : Nat) : DR Ins :=
  (dcMrm L k).bind fun m k => if m.reg ≠ 0 then .err 90 else (dcPlace L m k).bind fun o k =>
    if c = 199 then (dcImm32 L k).bind fun i k => .ok ⟨1, 0, o, i, false, 0⟩ k
    else (dcSmall L k).bind fun i k => .ok ⟨2, 0, o, i, false, 0⟩ k

def dcShift (L : List Int) (c : Int) (k : Nat) : DR Ins :=
  (dcMrm L k).bind fun m k => if shiftsI m.reg = 0 then .err 12 else (dcPlace L m k).bind fun o k =>
    if c = 193 then (dcSmall L k).bind fun i k => .ok ⟨shiftsI m.reg, 0, o, i, false, 0⟩ k
    else if c = 209 then .ok ⟨shiftsI m.reg, 0, o, immO 1, false, 0⟩ k
    else .ok ⟨shiftsI m.reg, 0, o, regO 1, false, 0⟩ k

def numOp (c : Int) (m : Mrm) : Int := if c = 221 then fldI m.reg else numbersI m.reg

def dcNumber (L : List Int) (c : Int) (k : Nat) : DR Ins :=
  (dcMrm L k).bind fun m k => if numOp c m = 0 ∨ m.mod = 3 then .err 12 else dcOne L (numOp c m) m k

def dcUnary (L : List Int) (k : Nat) : DR Ins :=
  (dcMrm L k).bind fun m k =>
    if m.reg = 0 then (dcPlace L m k).bind fun o k => (dcImm32 L k).bind fun i k => .ok ⟨11, 0, o, i, false, 0⟩ k
    else if othersI m.reg ≠ 0 then dcOne L (othersI m.reg) m k
    else .err 12

def dcLast (L : List Int) (k : Nat) : DR Ins :=
  (dcMrm L k).bind fun m k => if lastI m.reg ≠ 0 then dcOne L (lastI m.reg) m k else if m.reg = 7 then .err 90 else .err 12

def bareI (op : Int) : Ins := ⟨op, 0, Opd.none, Opd.none, false, 0⟩

def dcGroups (L : List Int) (c : Int) (k : Nat) : DR Ins :=
  if c = 193 ∨ c = 209 ∨ c = 211 then dcShift L c k
  else if c = 205 then (dcSmall L k).bind fun o k => if o.imm = 128 then .ok ⟨43, 0, o, Opd.none, false, 0⟩ k else .err 12
  else if c = 217 then (dcByte L k).bind fun x k => if x = 224 then .ok (bareI 51) k else if x = 225 then .ok (bareI 52) k else .err 12
  else if c = 220 ∨ c = 221 then dcNumber L c k
  else if c = 243 then (dcByte L k).bind fun x k => if x = 165 then .ok ⟨41, 0, Opd.none, Opd.none, true, 0⟩ k else if x = 171 then .ok ⟨42, 0, Opd.none, Opd.none, true, 0⟩ k else .err 12
  else if c = 247 then dcUnary L k
  else if c = 255 then dcLast L k
  else .err 12

def dcPlain (L : List Int) (c : Int) (k : Nat) : DR Ins :=
  if c = 144 then .ok (bareI 44) k
  else if c = 153 then .ok (bareI 38) k
  else if c = 165 then .ok (bareI 41) k
  else if c = 171 then .ok (bareI 42) k
  else if c = 195 then .ok (bareI 31) k
  else if c = 252 then .ok (bareI 39) k
  else if c = 253 then .ok (bareI 40) k
  else if c = 232 then (dcImm32 L k).bind fun o k => .ok ⟨30, 0, o, Opd.none, false, 0⟩ k
  else if c = 233 then (dcImm32 L k).bind fun o k => .ok ⟨32, 0, o, Opd.none, false, 0⟩ k
  else if c = 235 then (dcImm8 L k).bind fun o k => .ok ⟨32, 0, o, Opd.none, false, 0⟩ k
  else dcGroups L c k

def dcMoves (L : List Int) (c : Int) (k : Nat) : DR Ins :=
  if c = 104 then (dcImm32 L k).bind fun o k => .ok ⟨28, 0, o, Opd.none, false, 0⟩ k
  else if c = 106 then (dcImm8 L k).bind fun o k => .ok ⟨28, 0, o, Opd.none, false, 0⟩ k
  else if c = 129 then (dcMrm L k).bind fun m k => (dcPlace L m k).bind fun o k => (dcImm32 L k).bind fun i k => .ok ⟨eightI m.reg, 0, o, i, false, 0⟩ k
  else if c = 131 then (dcMrm L k).bind fun m k => (dcPlace L m k).bind fun o k => (dcImm8 L k).bind fun i k => .ok ⟨eightI m.reg, 0, o, i, false, 0⟩ k
  else if c = 133 then dcTwo L 11 false k
  else if c = 135 then dcTwo L 27 false k
  else if c = 136 then dcTwo L 2 false k
  else if c = 138 then dcTwo L 2 true k
  else if c = 137 then dcTwo L 1 false k
  else if c = 139 then dcTwo L 1 true k
  else if c = 141 then dcLea L k
  else if c = 169 then (dcImm32 L k).bind fun o k => .ok ⟨11, 0, regO 0, o, false, 0⟩ k
  else if c = 198 ∨ c = 199 then dcLays L c k
  else dcPlain L c k

def dcSecond (L : List Int) (k : Nat) : DR Ins :=
  (dcByte L k).bind fun c k =>
    if c = 11 then .err 90
    else if 64 ≤ c ∧ c < 80 then (dcTwo L 35 true k).bind fun i k => .ok { i with cond := c % 16 } k
    else if 128 ≤ c ∧ c < 144 then (dcImm32 L k).bind fun o k => .ok ⟨33, c % 16, o, Opd.none, false, 0⟩ k
    else if 144 ≤ c ∧ c < 160 then (dcMrm L k).bind fun m k => if m.reg ≠ 0 then .err 12 else (dcPlace L m k).bind fun o k => .ok ⟨34, c % 16, o, Opd.none, false, 0⟩ k
    else if c = 175 then dcTwo L 18 true k
    else if c = 182 then dcTwo L 36 true k
    else if c = 190 then dcTwo L 37 true k
    else .err 12

def dcRest (L : List Int) (c : Int) (k : Nat) : DR Ins :=
  if c = 15 then dcSecond L k
  else if c < 64 then dcRow L c k
  else if c < 72 then .ok ⟨12, 0, regO (c % 8), Opd.none, false, 0⟩ k
  else if c < 80 then .ok ⟨13, 0, regO (c % 8), Opd.none, false, 0⟩ k
  else if c < 88 then .ok ⟨28, 0, regO (c % 8), Opd.none, false, 0⟩ k
  else if c < 96 then .ok ⟨29, 0, regO (c % 8), Opd.none, false, 0⟩ k
  else if 112 ≤ c ∧ c < 128 then (dcImm8 L k).bind fun o k => .ok ⟨33, c % 16, o, Opd.none, false, 0⟩ k
  else if 176 ≤ c ∧ c < 184 then (dcSmall L k).bind fun o k => .ok ⟨2, 0, regO (c % 8), o, false, 0⟩ k
  else if 184 ≤ c ∧ c < 192 then (dcImm32 L k).bind fun o k => .ok ⟨1, 0, regO (c % 8), o, false, 0⟩ k
  else dcMoves L c k

def dcInsn (L : List Int) (k : Nat) : DR Ins := (dcByte L k).bind fun c k => dcRest L c k

/-- The instruction, how many bytes, the error. -/
def decI (L : List Int) : Ins := match dcInsn L 0 with | .ok i k => { i with len := k } | .err _ => Ins.zero
def decN (L : List Int) : Int := match dcInsn L 0 with | .ok _ k => k | .err _ => 0
def decE (L : List Int) : Int := match dcInsn L 0 with | .ok _ _ => 0 | .err c => c
def kindM (L : List Int) : Int := if decE L = 90 then 3 else if decE L = 12 then 4 else 0

/-- Bytes. -/
def BOk (L : List Int) : Prop := ∀ i, 0 ≤ L.getD i 0 ∧ L.getD i 0 ≤ 255

end Go.Proofs.Ytpockhoacfkjaaa
