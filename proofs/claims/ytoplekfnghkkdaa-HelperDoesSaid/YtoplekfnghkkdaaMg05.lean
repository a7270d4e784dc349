/-
  Faults as plain data; the rights that bytes lack; results in memory: a bool, a fault. No condition.
-/
import Derived.Test.YtoplekfnghkkdaaMg04
import Derived.Test.YtoplekfnghkkdaaRows
import Derived.Test.YtoplekfnghkkdaaMg01
import Derived.Laws.BitsAllLaws
import Derived.WalkLawsBesides
import Derived.Lib.Hide
import Derived.Laws.IdiomCopy
import Derived.WalkKit
import Derived.Test.YtoplekfnghkkdaaMg03
namespace Go.Proofs.Ytoplekfnghkkdaa
open Go Go.RowKit
set_option linter.unusedVariables false
set_option linter.unusedSimpArgs false

theorem fault_info : (Try.prog.info? 49).map (·.size) = some 4 := by kernel_rfl

theorem store4 {w : World} {b : Nat} {t : TypeId} {a0 a1 a2 a3 : Value} (h : w.heap[b]? = some (.cells #[a0, a1, a2, a3] t (0, 0))) (u0 u1 u2 u3 : Value) :
    ((((w.setCell ⟨b, 0, none⟩ u0).setCell ⟨b, 0 + 1, none⟩ u1).setCell ⟨b, 0 + 2, none⟩ u2).setCell ⟨b, 0 + 3, none⟩ u3).heap[b]? = some (.cells #[u0, u1, u2, u3] t (0, 0)) :=
  heap_set_same (heap_set_same (heap_set_same (heap_set_same h 0 u0) 1 u1) 2 u2) 3 u3

theorem Upd_store4 {S : List Nat} {w0 w : World} {b : Nat} (h : Upd S w0 w) (hb : b ∈ S ∨ w0.heap.size ≤ b) (u0 u1 u2 u3 : Value) :
    Upd S w0 ((((w.setCell ⟨b, 0, none⟩ u0).setCell ⟨b, 0 + 1, none⟩ u1).setCell ⟨b, 0 + 2, none⟩ u2).setCell ⟨b, 0 + 3, none⟩ u3) :=
  (((h.setCell (p := ⟨b, 0, none⟩) hb _).setCell (p := ⟨b, 0 + 1, none⟩) hb _).setCell (p := ⟨b, 0 + 2, none⟩) hb _).setCell (p := ⟨b, 0 + 3, none⟩) hb _

/-- A fault's four numbers. -/
structure Flt where
  k : Int
  pc : Int
  a : Int
  wt : Int
  deriving DecidableEq

def Flt.cells (f : Flt) : Array Value := #[.int .i64 f.k, .int .u32 f.pc, .int .u32 f.a, .int .i64 f.wt]
def Flt.val (f : Flt) : Value := .agg #[.int .i64 f.k, .int .u32 f.pc, .int .u32 f.a, .int .i64 f.wt]
def Flt.zero : Flt := ⟨0, 0, 0, 0⟩

def Mem.rdF (M : Mem) (x bytes right : Int) : Flt := match M.bad x (rightI right) (widthI bytes).toNat with | none => Flt.zero | some i => ⟨1, 0, plus x i, rightI right⟩
def Mem.wrF (M : Mem) (x bytes : Int) : Flt := match M.bad x 2 (widthI bytes).toNat with | none => Flt.zero | some i => ⟨1, 0, plus x i, 2⟩

theorem Mem.readF_val (M : Mem) (x bytes right : Int) : M.readF x bytes right = (M.rdF x bytes right).val := by
  unfold Mem.readF Mem.rdF; cases M.bad x (rightI right) (widthI bytes).toNat <;> rfl
theorem Mem.writeF_val (M : Mem) (x bytes : Int) : M.writeF x bytes = (M.wrF x bytes).val := by
  unfold Mem.writeF Mem.wrF; cases M.bad x 2 (widthI bytes).toNat <;> rfl

/-- The least one of some rights. -/
def lowI (l : Int) : Int := bits .and .i64 l (wrap64 (-l))

/-- The rights of the page of a byte. -/
def Mem.rightAt (M : Mem) (x : Int) : Int := if x < 16384 then M.R (x / 256).toNat else 0

/-- The least right that a byte lacks. -/
def Mem.lack (M : Mem) (x r : Int) : Int := lowI (bits .andNot .i64 r (M.rightAt x))

theorem res_bool {tmps : Array Value} {w : World} (a : Tmp) (b : Nat) (k : Bool) (ha : tmps.getD a undef = .pointer (some ⟨b, 0, none⟩)) (hb : w.heap[b]? = some (.cells #[.bool k] 4 (0, 0))) : (resRun tmps (.cell a 4)).run Try.prog w = .ok (.bool k) w := by
  have hc : w.cell? ⟨b, 0, none⟩ = some (.bool k) := by rw [cells_of hb]; rfl
  simp only [resRun, Sem.run_bind, ha]
  simp [asAddr, go_sem, hc]

theorem res_flt {tmps : Array Value} {w : World} (a : Tmp) (b : Nat) (F : Flt) (ha : tmps.getD a undef = .pointer (some ⟨b, 0, none⟩)) (hb : w.heap[b]? = some (.cells #[.int .i64 F.k, .int .u32 F.pc, .int .u32 F.a, .int .i64 F.wt] 49 (0, 0))) :
    (resRun tmps (.cell a 49)).run Try.prog w = .ok F.val w :=
  res_row a 49 b _ _ ha hb Try.underlying49 rfl fault_info

/-- The first of n bytes that lacks a right. -/
def Mem.canBad (M : Mem) (x : Int) (n : Nat) (r : Int) : Option Nat := (List.range n).find? fun i => M.lack (plus x i) r != 0
def Mem.canF (M : Mem) (x : Int) (n : Nat) (r : Int) : Flt := match M.canBad x n r with | none => Flt.zero | some i => ⟨1, 0, plus x i, M.lack (plus x i) r⟩
def Mem.canK (M : Mem) (x : Int) (n : Nat) (r : Int) : Bool := (M.canBad x n r).isNone

theorem canBad_some (M : Mem) (x : Int) (n : Nat) (r : Int) (j : Nat) (hj : j < n) (hc : ∀ t, t < j → M.lack (plus x t) r = 0) (hb : M.lack (plus x j) r ≠ 0) : M.canBad x n r = some j := by
  rw [Mem.canBad, List.find?_range_eq_some]
  exact ⟨by simpa using hb, by simpa using hj, fun t ht => by simp [hc t ht]⟩

theorem canBad_none (M : Mem) (x : Int) (n : Nat) (r : Int) (hc : ∀ t, t < n → M.lack (plus x t) r = 0) : M.canBad x n r = none := by
  rw [Mem.canBad, List.find?_eq_none]
  intro t ht
  simp [hc t (List.mem_range.1 ht)]

/-- A byte lacks the right to be written just where it can't be written. -/
theorem lack_can {M : Mem} (hM : M.Ok) (y : Int) (h0 : 0 ≤ y) (r : Int) (hr : r = 1 ∨ r = 2 ∨ r = 4) : (M.lack y r = 0) ↔ (M.can y r = true) := by
  unfold Mem.lack Mem.can Mem.rightAt
  by_cases h : y < 16384
  · rw [if_pos h, decide_eq_true h, Bool.true_and]
    have hR := hM.R (y / 256).toNat
    generalize M.R (y / 256).toNat = q at *
    obtain ⟨q0, q7⟩ := hR
    have hq : q = 0 ∨ q = 1 ∨ q = 2 ∨ q = 3 ∨ q = 4 ∨ q = 5 ∨ q = 6 ∨ q = 7 := by omega
    rcases hr with rfl | rfl | rfl <;> rcases hq with rfl | rfl | rfl | rfl | rfl | rfl | rfl | rfl <;> decide +kernel
  · rw [if_neg h, decide_eq_false h, Bool.false_and]
    rcases hr with rfl | rfl | rfl <;> decide +kernel

theorem plus_plus (x : Int) (i j : Nat) : plus (plus x i) j = plus x (i + j) := by
  unfold plus; omega

theorem find?_isNone {p : Nat → Bool} {n : Nat} : ((List.range n).find? p).isNone = true ↔ ∀ t, t < n → p t = false := by
  rw [Option.isNone_iff_eq_none, List.find?_eq_none]
  constructor
  · intro h t ht
    have := h t (List.mem_range.2 ht)
    simpa using this
  · intro h t ht
    simp [h t (List.mem_range.1 ht)]

theorem canK_iff (M : Mem) (x : Int) (n : Nat) (r : Int) : M.canK x n r = true ↔ ∀ t, t < n → M.lack (plus x t) r = 0 := by
  rw [Mem.canK, Mem.canBad, find?_isNone]
  simp

theorem bad_isNone (M : Mem) (x : Int) (n : Nat) (r : Int) : M.bad x r n = none ↔ ∀ t, t < n → M.can (plus x t) r = true := by
  rw [← Option.isNone_iff_eq_none, Mem.bad, find?_isNone]
  simp

end Go.Proofs.Ytoplekfnghkkdaa

/-
  The reference's memory: Right, Lacks, Size, Get, Put: each by its contract. No condition.
-/
namespace Go.Proofs.Ytoplekfnghkkdaa
open Go Go.RowKit
set_option linter.unusedVariables false
set_option linter.unusedSimpArgs false

set_option maxRecDepth 100000 in
set_option maxHeartbeats 1000000 in
theorem Right_ref (M : Mem) (r : Nat) (x : Int) (w : World) (hM : IsRef w r M) (h0 : 0 ≤ x) :
    Calls Try.prog 136 #[.pointer (some ⟨r, 0, none⟩), .int .u32 x] w fun e w' => e = .returned (.int .i64 (M.rightAt x)) ∧ w = w' := by
  by_cases h : x < 16384
  · have hc := hM.cR (x / 256).toNat (by omega)
    have HV := Lib.hid (show M.rightAt x = M.R (x / 256).toNat by rw [Mem.rightAt, if_pos h])
    have HM := Lib.hid hM
    have q1 : 0 ≤ x / 256 := by omega
    have q2 : x / 256 < 64 := by omega
    clear hM
    go_enter Try.func136, Try.ntmps136
    go_wp2_with fail
    go_ret
    exact ⟨by rw [HV.out]; rfl, rfl⟩
  · have HV := Lib.hid (show M.rightAt x = 0 by rw [Mem.rightAt, if_neg h])
    have HM := Lib.hid hM
    clear hM
    go_enter Try.func136, Try.ntmps136
    go_wp2_with fail
    go_ret
    exact ⟨by rw [HV.out]; rfl, rfl⟩

theorem Mem.rightAt_range {M : Mem} (hM : M.Ok) (x : Int) : 0 ≤ M.rightAt x ∧ M.rightAt x ≤ 7 := by
  unfold Mem.rightAt
  split
  · exact hM.R _
  · omega

theorem lowI_zero (l : Int) (h0 : 0 ≤ l) (h7 : l ≤ 7) : (lowI l = 0) ↔ (l = 0) := by
  have : l = 0 ∨ l = 1 ∨ l = 2 ∨ l = 3 ∨ l = 4 ∨ l = 5 ∨ l = 6 ∨ l = 7 := by omega
  rcases this with rfl | rfl | rfl | rfl | rfl | rfl | rfl | rfl <;> decide +kernel

theorem andNot_range (a b : Int) (a0 : 0 ≤ a) (a7 : a ≤ 7) (b0 : 0 ≤ b) (b7 : b ≤ 7) : 0 ≤ bits .andNot .i64 a b ∧ bits .andNot .i64 a b ≤ 7 := by
  have ha : a = 0 ∨ a = 1 ∨ a = 2 ∨ a = 3 ∨ a = 4 ∨ a = 5 ∨ a = 6 ∨ a = 7 := by omega
  have hb : b = 0 ∨ b = 1 ∨ b = 2 ∨ b = 3 ∨ b = 4 ∨ b = 5 ∨ b = 6 ∨ b = 7 := by omega
  rcases ha with rfl | rfl | rfl | rfl | rfl | rfl | rfl | rfl <;> rcases hb with rfl | rfl | rfl | rfl | rfl | rfl | rfl | rfl <;> decide +kernel

/-- All rights that a byte lacks. -/
def Mem.miss (M : Mem) (x r : Int) : Int := bits .andNot .i64 r (M.rightAt x)

theorem miss_lack {M : Mem} (hM : M.Ok) (x r : Int) (r0 : 0 ≤ r) (r7 : r ≤ 7) : (M.miss x r = 0) ↔ (M.lack x r = 0) := by
  have h1 := Mem.rightAt_range hM x
  have h2 := andNot_range r _ r0 r7 h1.1 h1.2
  rw [Mem.lack, lowI_zero _ h2.1 h2.2]
  rfl

set_option maxRecDepth 100000 in
set_option maxHeartbeats 2000000 in
theorem Lacks_ref (M : Mem) (r n : Nat) (x rt : Int) (w : World) (hM : IsRef w r M) (h0 : 0 ≤ x) (h1 : x < 4294967296) (hn : n ≤ 16) (r0 : 0 ≤ rt) (r7 : rt ≤ 7) :
    Calls Try.prog 65 #[.pointer (some ⟨r, 0, none⟩), .int .u32 x, .int .i64 n, .int .i64 rt] w fun e w' => e = .returned (.tuple #[(M.canF x n rt).val, .bool (!M.canK x n rt)]) ∧ Upd [] w w' := by
  have HM := Lib.hid hM
  clear hM
  go_enter Try.func65, Try.ntmps65
  go_wp2_with fail
  go_loopw [10, 11, 12] (fun i _ _ wr => ∃ j : Nat, j ≤ n ∧ i = .int .i64 j ∧ (∀ t, t < j → M.lack (plus x t) rt = 0) ∧ wr.heap[w.heap.size]? = some (.cells #[.int .i64 0, .int .u32 0, .int .u32 0, .int .i64 0] 49 (0, 0)) ∧ Upd [] w wr) (fun i _ _ _ => n - (intOf i).toNat)
  case atStart => exact ⟨0, Nat.zero_le _, rfl, by simp, heap_alloc_new _ _, (Upd.refl _ _).alloc _⟩
  case round =>
    obtain ⟨j, hj, rfl, hcan, hf, hU⟩ := hrel
    have HC := Lib.hid hcan
    have HU := Lib.hid hU
    have HR := Lib.hid (HM.out.keep hU (by simp))
    have HF := Lib.hid hf
    have cf := cells_of hf
    have ff := free_of hf
    clear hcan hU hf
    by_cases hlt : j < n
    · have hd : decide ((j : Int) < n) = true := by simp; omega
      have q1 : (j : Int) % 4294967296 = j := by omega
      have q2 : (x + j) % 4294967296 = plus x j := rfl
      by_cases hb : M.miss (plus x j) rt = 0
      · have HG := Lib.hid ((miss_lack HM.out.ok (plus x j) rt r0 r7).1 hb)
        have hb' : bits .andNot .i64 rt (M.rightAt (plus x j)) = 0 := hb
        have HB := Lib.hid hb'
        clear hb hb'
        go_wp2_with (go_at_call 136; refine (Right_ref M r (plus x j) _ HR.out (plus_nn x j)).mono ?_; rintro e w2 ⟨rfl, rfl⟩; have hb' := HB.out)
        go_roundw
        case rel => exact ⟨j + 1, by omega, by go_num, fun t ht => by
            by_cases e : t = j
            · subst e; exact HG.out
            · exact HC.out t (by omega), HF.out, HU.out⟩
        case measure => simp [intOf]; omega
      · have HG := Lib.hid (fun h => hb ((miss_lack HM.out.ok (plus x j) rt r0 r7).2 h))
        have hb' : (bits .andNot .i64 rt (M.rightAt (plus x j)) == 0) = false := by simpa [Mem.miss] using hb
        have HB := Lib.hid hb'
        have HL := Lib.hid (show bits .and .i64 (bits .andNot .i64 rt (M.rightAt (plus x j))) (wrap64 (-bits .andNot .i64 rt (M.rightAt (plus x j)))) = M.lack (plus x j) rt from rfl)
        clear hb hb'
        go_wp2_with (go_at_call 136; refine (Right_ref M r (plus x j) _ HR.out (plus_nn x j)).mono ?_; rintro e w2 ⟨rfl, rfl⟩; have hb' := HB.out)
        have hbad := canBad_some M x n rt j hlt HC.out HG.out
        have hF := store4 HF.out (.int .i64 1) (.int .u32 0) (.int .u32 (plus x j)) (.int .i64 (M.lack (plus x j) rt))
        rw [HL.out]
        refine bodyPost_ret (v := .tuple #[(Flt.mk 1 0 (plus x j) (M.lack (plus x j) rt)).val, .bool true]) (results_two' rfl (res_flt 8 w.heap.size ⟨1, 0, plus x j, M.lack (plus x j) rt⟩ rfl hF) (res_tmp 9 rfl)) rfl ⟨?_, Upd_store4 (b := w.heap.size) HU.out (.inr (Nat.le_refl _)) _ _ _ _⟩
        rw [Mem.canF, Mem.canK, hbad]
        rfl
    · obtain rfl : n = j := by omega
      have hbad := Lib.hid (canBad_none M x n rt HC.out)
      go_wp2_with fail
      have hF := store4 HF.out (.int .i64 0) (.int .u32 0) (.int .u32 0) (.int .i64 0)
      refine bodyPost_ret (v := .tuple #[Flt.zero.val, .bool false]) (results_two' rfl (res_flt 8 w.heap.size Flt.zero rfl hF) (res_tmp 9 rfl)) rfl ⟨?_, Upd_store4 (b := w.heap.size) HU.out (.inr (Nat.le_refl _)) _ _ _ _⟩
      rw [Mem.canF, Mem.canK, hbad.out]
      rfl

end Go.Proofs.Ytoplekfnghkkdaa

/-
  The reference's memory: Get, Put, Size, Read, Write: each by its contract. No condition.
-/
namespace Go.Proofs.Ytoplekfnghkkdaa
open Go Go.RowKit
set_option linter.unusedVariables false
set_option linter.unusedSimpArgs false

theorem get_bound {M : Mem} (h : M.Ok) (x : Int) (j : Nat) : 0 ≤ M.get x j ∧ M.get x j < 2 ^ (8 * j) := by
  induction j with
  | zero => simp [Mem.get]
  | succ j ih =>
    have hb := h.B (plus x j).toNat
    simp only [Mem.get]
    have hp : (0 : Int) < 2 ^ (8 * j) := Int.pow_pos (by decide)
    have e : (2 : Int) ^ (8 * (j + 1)) = 256 * 2 ^ (8 * j) := by
      rw [Nat.mul_add, Int.pow_add]; simp [Int.mul_comm]
    rw [e]
    generalize (2 : Int) ^ (8 * j) = p at *
    generalize M.B (plus x j).toNat = b at *
    have h1 : 0 ≤ b * p := Int.mul_nonneg hb.1 (by omega)
    have h2 : b * p ≤ 255 * p := Int.mul_le_mul_of_nonneg_right hb.2 (by omega)
    omega

theorem or_add64 (g b : Int) (k : Nat) (hg0 : 0 ≤ g) (hg : g < 2 ^ k) (hb0 : 0 ≤ b) (hk : b * 2 ^ k + g < 18446744073709551616) : bits .or .u64 g (b * 2 ^ k % 18446744073709551616) = g + b * 2 ^ k := by
  obtain ⟨g, rfl⟩ := Int.eq_ofNat_of_zero_le hg0
  obtain ⟨b, rfl⟩ := Int.eq_ofNat_of_zero_le hb0
  have hg' : g < 2 ^ k := by exact_mod_cast hg
  have e0 : ((b : Int) * 2 ^ k) = ((b * 2 ^ k : Nat) : Int) := by
    rw [Int.natCast_mul, Int.natCast_pow]; rfl
  rw [e0] at hk
  have e2 : g ||| b * 2 ^ k = g + b * 2 ^ k := by
    rw [Nat.or_comm, nat_join k _ _ (Nat.mul_mod_left _ _) hg', Nat.add_comm]
  rw [e0]
  generalize hq : b * 2 ^ k = q at *
  have e1 : (q : Int) % 18446744073709551616 = (q : Int) := by omega
  rw [e1, u64_or_nat _ _ (by omega) (by omega), e2]
  rfl

theorem get_or64 {M : Mem} (h : M.Ok) (x : Int) (j : Nat) (hj : j < 8) :
    bits .or .u64 (M.get x j) (M.B (plus x j).toNat * 2 ^ (8 * j) % 18446744073709551616) = M.get x (j + 1) := by
  have hb := h.B (plus x j).toNat
  have hg := get_bound h x j
  simp only [Mem.get]
  refine or_add64 _ _ _ hg.1 hg.2 hb.1 ?_
  have h2 := (get_bound h x (j + 1)).2
  simp only [Mem.get] at h2
  have : (2 : Int) ^ (8 * (j + 1)) ≤ 2 ^ 64 := by
    have := Nat.pow_le_pow_right (show 0 < 2 by decide) (show 8 * (j + 1) ≤ 64 by omega)
    exact_mod_cast this
  have e : (2 : Int) ^ 64 = 18446744073709551616 := by decide
  omega

theorem wrap_u64 (z : Int) : IntKind.u64.wrap z = z % 18446744073709551616 := by simp [IntKind.wrap, IntKind.signed, IntKind.bits]

set_option maxRecDepth 100000 in
set_option maxHeartbeats 1000000 in
theorem Get_ref (M : Mem) (r n : Nat) (x : Int) (w : World) (hM : IsRef w r M) (h0 : 0 ≤ x) (h1 : x < 4294967296) (hn : n ≤ 8) (hx : ∀ t, t < n → plus x t < 16384) :
    Calls Try.prog 67 #[.pointer (some ⟨r, 0, none⟩), .int .u32 x, .int .i64 n] w fun e w' => e = .returned (.int .u64 (M.get x n)) ∧ w = w' := by
  have HX := Lib.hid hx
  have HM := Lib.hid hM
  clear hM hx
  go_enter Try.func67, Try.ntmps67
  go_wp2_with fail
  go_loop [7, 8] (fun v i => ∃ j : Nat, j ≤ n ∧ i = .int .i64 j ∧ v = .int .u64 (M.get x j)) (fun _ i => n - (intOf i).toNat)
  case atStart => exact ⟨0, Nat.zero_le _, rfl, rfl⟩
  case round =>
    obtain ⟨j, hj, rfl, rfl⟩ := hrel
    by_cases hlt : j < n
    · have hd : decide ((j : Int) < n) = true := by simp; omega
      have hlt' : (j : Int) < 8 := by omega
      have hpl := HX.out j hlt
      have hpn := plus_nn x j
      have cb := HM.out.cB (plus x j).toNat (by omega)
      have q2 : (x + (j : Int)) % 4294967296 = plus x j := rfl
      have hbd := HM.out.ok.B (plus x j).toNat
      go_wp2_with fail
      go_round
      case rel => exact ⟨j + 1, by omega, by go_num, by rw [wrap_u64, get_or64 HM.out.ok x j (by omega)]⟩
      case measure => simp [intOf]; omega
    · obtain rfl : n = j := by omega
      go_wp2_with fail
      go_ret
      exact ⟨rfl, rfl⟩

set_option maxRecDepth 100000 in
set_option maxHeartbeats 1000000 in
theorem Put_ref (M : Mem) (r n : Nat) (x v : Int) (w : World) (hM : IsRef w r M) (h0 : 0 ≤ x) (h1 : x < 4294967296) (hn : n ≤ 8) (hx : ∀ t, t < n → plus x t < 16384) (hv0 : 0 ≤ v) (hv1 : v < 18446744073709551616) :
    Calls Try.prog 66 #[.pointer (some ⟨r, 0, none⟩), .int .u32 x, .int .i64 n, .int .u64 v] w fun e w' => e = .returned (.tuple #[]) ∧ IsRef w' r (M.putN x v n) ∧ Upd [r] w w' := by
  have HX := Lib.hid hx
  have HM := Lib.hid hM
  clear hM hx
  go_enter Try.func66, Try.ntmps66
  go_wp2_with fail
  go_loopw [8] (fun i wr => ∃ j : Nat, j ≤ n ∧ i = .int .i64 j ∧ IsRef wr r (M.putN x v j) ∧ Upd [r] w wr) (fun i _ => n - (intOf i).toNat)
  case atStart => exact ⟨0, Nat.zero_le _, rfl, HM.out, Upd.refl _ _⟩
  case round =>
    obtain ⟨j, hj, rfl, hR, hU⟩ := hrel
    have HR := Lib.hid hR
    have HU := Lib.hid hU
    clear hR hU
    by_cases hlt : j < n
    · have hd : decide ((j : Int) < n) = true := by simp; omega
      have hlt' : (j : Int) < 8 := by omega
      have hpl := HX.out j hlt
      have hpn := plus_nn x j
      have cb := HR.out.cB (plus x j).toNat (by omega)
      have fb := HR.out.free (64 + (plus x j).toNat)
      have q2 : (x + (j : Int)) % 4294967296 = plus x j := rfl
      go_wp2_with fail
      go_roundw
      case rel => exact ⟨j + 1, by omega, by go_num, HR.out.setB (plus x j).toNat (v / 2 ^ (8 * j) % 256) (by omega) (by omega) (by omega), HU.out.setCell (by simp) _⟩
      case measure => simp [intOf]; omega
    · obtain rfl : n = j := by omega
      go_wp2_with fail
      go_end0
      exact ⟨rfl, HR.out, HU.out⟩

theorem Size_ref (n : Int) (w : World) :
    Calls Try.prog 135 #[.int .i64 n] w fun e w' => e = .returned (.int .i64 (widthI n)) ∧ w = w' := by
  by_cases h1 : n = 1
  · have HV := Lib.hid (show widthI n = n by rw [widthI, if_pos (.inl h1)])
    subst h1
    go_enter Try.func135, Try.ntmps135
    go_wp2
    go_ret
    exact ⟨by rw [HV.out]; rfl, rfl⟩
  · by_cases h2 : n = 2
    · have HV := Lib.hid (show widthI n = n by rw [widthI, if_pos (.inr h2)])
      subst h2
      go_enter Try.func135, Try.ntmps135
      go_wp2
      go_ret
      exact ⟨by rw [HV.out]; rfl, rfl⟩
    · have HV := Lib.hid (show widthI n = 4 by rw [widthI, if_neg (by omega)])
      have e1 : (n == 1) = false := by simpa using h1
      have e2 : (n == 2) = false := by simpa using h2
      clear h1 h2
      go_enter Try.func135, Try.ntmps135
      go_wp2
      go_ret
      exact ⟨by rw [HV.out]; rfl, rfl⟩

theorem rightI_mem (r : Int) : rightI r = 1 ∨ rightI r = 2 ∨ rightI r = 4 := by
  unfold rightI; split <;> omega

/-- That a byte lacks a right, and that it can't be used so, is one thing. -/
theorem canBad_bad {M : Mem} (hM : M.Ok) (x r : Int) (n : Nat) (hr : r = 1 ∨ r = 2 ∨ r = 4) : M.canBad x n r = M.bad x r n := by
  rw [Mem.canBad, Mem.bad]
  congr 1
  funext i
  have h := lack_can hM (plus x i) (plus_nn x i) r hr
  by_cases hc : M.can (plus x i) r = true
  · rw [h.2 hc, hc]; rfl
  · have hl : M.lack (plus x i) r ≠ 0 := fun e => hc (h.1 e)
    rw [Bool.not_eq_true] at hc
    rw [hc]
    simpa using hl

theorem lack_one {M : Mem} (hM : M.Ok) (y : Int) (r : Int) (hr : r = 1 ∨ r = 2 ∨ r = 4) (h : M.lack y r ≠ 0) : M.lack y r = r := by
  revert h
  unfold Mem.lack
  obtain ⟨q0, q7⟩ := Mem.rightAt_range hM y
  generalize M.rightAt y = q at *
  have hq : q = 0 ∨ q = 1 ∨ q = 2 ∨ q = 3 ∨ q = 4 ∨ q = 5 ∨ q = 6 ∨ q = 7 := by omega
  rcases hr with rfl | rfl | rfl <;> rcases hq with rfl | rfl | rfl | rfl | rfl | rfl | rfl | rfl <;> decide +kernel

theorem canF_rdF {M : Mem} (hM : M.Ok) (x b r : Int) : M.canF x (widthI b).toNat (rightI r) = M.rdF x b r := by
  rw [Mem.canF, Mem.rdF, canBad_bad hM x _ _ (rightI_mem r)]
  cases h : M.bad x (rightI r) (widthI b).toNat with
  | none => rfl
  | some i =>
    have h2 := h
    rw [← canBad_bad hM x _ _ (rightI_mem r)] at h2
    have h3 := List.find?_some h2
    simp only [bne_iff_ne, ne_eq] at h3
    simp only [lack_one hM _ _ (rightI_mem r) h3]

theorem canK_readK {M : Mem} (hM : M.Ok) (x b r : Int) : M.canK x (widthI b).toNat (rightI r) = M.readK x b r := by
  rw [Mem.canK, Mem.readK, canBad_bad hM x _ _ (rightI_mem r)]

theorem canF_wrF {M : Mem} (hM : M.Ok) (x b : Int) : M.canF x (widthI b).toNat 2 = M.wrF x b := by
  have h := canF_rdF hM x b 2
  have e : rightI 2 = 2 := rfl
  rw [e] at h
  rw [h]
  simp only [Mem.rdF, Mem.wrF, e]

theorem canK_writeK {M : Mem} (hM : M.Ok) (x b : Int) : M.canK x (widthI b).toNat 2 = M.writeK x b := by
  have h := canK_readK hM x b 2
  have e : rightI 2 = 2 := rfl
  rw [e] at h
  rw [h]
  simp only [Mem.readK, Mem.writeK, e]

theorem can_all_lt {M : Mem} (x r : Int) (n : Nat) (h : M.bad x r n = none) : ∀ t, t < n → plus x t < 16384 :=
  fun t ht => can_lt (plus_nn x t) ((bad_isNone M x n r).1 h t ht)

end Go.Proofs.Ytoplekfnghkkdaa

/-
  The reference's memory: Read, Write: each by its contract. No condition.
-/
namespace Go.Proofs.Ytoplekfnghkkdaa
open Go Go.RowKit
set_option linter.unusedVariables false
set_option linter.unusedSimpArgs false

theorem Upd.over_alloc {w w2 : World} {o : Obj} (hU : Upd [] (w.alloc o) w2) : w2.heap[w.heap.size]? = some o ∧ Upd [] w w2 ∧ w.heap.size < w2.heap.size := by
  have h := hU.size
  have h2 : (w.alloc o).heap.size = w.heap.size + 1 := by simp
  exact ⟨hU.get (heap_alloc_new _ _) (by simp), ((Upd.refl [] w).alloc o).also hU (by simp), by omega⟩

theorem Flt_mk_val (F : Flt) : Value.agg #[.int .i64 F.k, .int .u32 F.pc, .int .u32 F.a, .int .i64 F.wt] = F.val := rfl

set_option maxRecDepth 100000 in
set_option maxHeartbeats 2000000 in
theorem Write_ref (M : Mem) (r : Nat) (x b v : Int) (w : World) (hM : IsRef w r M) (h0 : 0 ≤ x) (h1 : x < 4294967296) (hv0 : 0 ≤ v) (hv1 : v < 4294967296) :
    Calls Try.prog 63 #[.pointer (some ⟨r, 0, none⟩), .int .u32 x, .int .i64 b, .int .u32 v] w fun e w' => e = .returned (.tuple #[(M.wrF x b).val, .bool (M.writeK x b)]) ∧ IsRef w' r (M.writeM x b v) ∧ Upd [r] w w' := by
  obtain ⟨n, hn⟩ : ∃ n : Nat, widthI b = n := ⟨(widthI b).toNat, by have := width_cases b; omega⟩
  have hn4 : n ≤ 4 := by have := width_cases b; omega
  have hnt : (widthI b).toNat = n := by omega
  have HF := Lib.hid (hnt ▸ canF_wrF hM.ok x b)
  have HK := Lib.hid (hnt ▸ canK_writeK hM.ok x b)
  have HN := Lib.hid hn
  have HNT := Lib.hid hnt
  have HM := Lib.hid hM
  have hr := hM.lt
  clear hM hn hnt
  cases hk : M.writeK x b
  · have HW := Lib.hid hk
    have HMW := Lib.hid (show M.writeM x b v = M by
      rw [Mem.writeM]; rw [Mem.writeK] at hk
      cases h : M.bad x 2 (widthI b).toNat with
      | none => rw [h] at hk; cases hk
      | some i => rfl)
    clear hk
    go_enter Try.func63, Try.ntmps63
    go_wp2_with (first | (go_at_call 135; refine (Size_ref b _).mono ?_; rintro e w2 ⟨rfl, rfl⟩; rw [HN.out]) | (go_at_call 65; (refine (Lacks_ref M r n x 2 _ (HM.out.keep ((Upd.refl [] _).alloc _) (by simp)) h0 h1 (by omega) (by decide) (by decide)).mono ?_; rintro e w2 ⟨rfl, hU⟩; rw [HF.out, HK.out, HW.out]; unfold Flt.val; obtain ⟨h8, hu, hs2⟩ := hU.over_alloc; have HU := Lib.hid hu; have H8 := Lib.hid h8; have cf := cells_of h8; have ff := free_of h8; clear hU hu h8)))
    have hF := heap_alloc_keep (.cells #[.int .i64 (M.wrF x b).k, .int .u32 (M.wrF x b).pc, .int .u32 (M.wrF x b).a, .int .i64 (M.wrF x b).wt] 49) (store4 H8.out (.int .i64 (M.wrF x b).k) (.int .u32 (M.wrF x b).pc) (.int .u32 (M.wrF x b).a) (.int .i64 (M.wrF x b).wt))
    have hE := (Upd_store4 (b := w.heap.size) HU.out (.inr (Nat.le_refl _)) (.int .i64 (M.wrF x b).k) (.int .u32 (M.wrF x b).pc) (.int .u32 (M.wrF x b).a) (.int .i64 (M.wrF x b).wt)).alloc (.cells #[.int .i64 (M.wrF x b).k, .int .u32 (M.wrF x b).pc, .int .u32 (M.wrF x b).a, .int .i64 (M.wrF x b).wt] 49)
    refine bodyPost_ret (v := .tuple #[(M.wrF x b).val, .bool false]) (results_two' rfl (res_flt 8 w.heap.size (M.wrF x b) rfl hF) (res_tmp 9 rfl)) rfl ⟨rfl, ?_, hE.mono (by simp)⟩
    rw [HMW.out]
    exact HM.out.keep hE (by simp)
  · have HW := Lib.hid hk
    have hbad : M.bad x 2 n = none := by
      rw [Mem.writeK, HNT.out] at hk
      cases h : M.bad x 2 n with
      | none => rfl
      | some i => rw [h] at hk; cases hk
    have HX := Lib.hid (can_all_lt x 2 n hbad)
    have HMW := Lib.hid (show M.writeM x b v = M.putN x v n by rw [Mem.writeM, HNT.out, hbad])
    have hne : r ≠ w.heap.size := by omega
    clear hk hbad
    go_enter Try.func63, Try.ntmps63
    go_wp2_with (first | (go_at_call 135; refine (Size_ref b _).mono ?_; rintro e w2 ⟨rfl, rfl⟩; rw [HN.out]) | (go_at_call 65; (refine (Lacks_ref M r n x 2 _ (HM.out.keep ((Upd.refl [] _).alloc _) (by simp)) h0 h1 (by omega) (by decide) (by decide)).mono ?_; rintro e w2 ⟨rfl, hU⟩; rw [HF.out, HK.out, HW.out]; unfold Flt.val; obtain ⟨h8, hu, hs2⟩ := hU.over_alloc; have HU := Lib.hid hu; have H8 := Lib.hid h8; have cf := cells_of h8; have ff := free_of h8; clear hU hu h8)) | (go_at_call 66; refine (Put_ref M r n x v _ (HM.out.keep (HU.out.alloc _) (by simp)) h0 h1 (by omega) HX.out hv0 (by omega)).mono ?_; rintro e w3 ⟨rfl, hM3, hU3⟩; have h8 := hU3.get (heap_alloc_keep _ H8.out) (by simpa using hne.symm); have h11 := hU3.get (heap_alloc_new _ _) (by simp; omega); have HU3 := Lib.hid (((HU.out.alloc (Obj.cells #[.int .i64 (M.wrF x b).k, .int .u32 (M.wrF x b).pc, .int .u32 (M.wrF x b).a, .int .i64 (M.wrF x b).wt] 49)).mono (T := [r]) (by simp)).also hU3 (by simp)); have HM3 := Lib.hid hM3; have H83 := Lib.hid h8; clear cf ff hM3 hU3; have cf := cells_of h8; have ff := free_of h8; have cg := cells_of h11; have fg := free_of h11; clear h8 h11))
    have hF := store4 H83.out (.int .i64 (M.wrF x b).k) (.int .u32 (M.wrF x b).pc) (.int .u32 (M.wrF x b).a) (.int .i64 (M.wrF x b).wt)
    have hE := Upd_store4 (b := w.heap.size) HU3.out (.inr (Nat.le_refl _)) (.int .i64 (M.wrF x b).k) (.int .u32 (M.wrF x b).pc) (.int .u32 (M.wrF x b).a) (.int .i64 (M.wrF x b).wt)
    have hE3 := Upd_store4 (S := [w.heap.size]) (b := w.heap.size) (Upd.refl _ w3) (.inl (by simp)) (.int .i64 (M.wrF x b).k) (.int .u32 (M.wrF x b).pc) (.int .u32 (M.wrF x b).a) (.int .i64 (M.wrF x b).wt)
    refine bodyPost_ret (v := .tuple #[(M.wrF x b).val, .bool true]) (results_two' rfl (res_flt 8 w.heap.size (M.wrF x b) rfl hF) (res_tmp 9 rfl)) rfl ⟨rfl, ?_, hE⟩
    rw [HMW.out]
    exact HM3.out.keep hE3 (by simpa using hne)

set_option maxRecDepth 100000 in
set_option maxHeartbeats 2000000 in
theorem Read_ref (M : Mem) (r : Nat) (x b rt : Int) (w : World) (hM : IsRef w r M) (h0 : 0 ≤ x) (h1 : x < 4294967296) :
    Calls Try.prog 62 #[.pointer (some ⟨r, 0, none⟩), .int .u32 x, .int .i64 b, .int .i64 rt] w fun e w' => e = .returned (.tuple #[.int .u32 (M.readV x b rt), (M.rdF x b rt).val, .bool (M.readK x b rt)]) ∧ Upd [] w w' := by
  have hmo : Try.prog.follows .mixedOrders = true := by kernel_rfl
  obtain ⟨n, hn⟩ : ∃ n : Nat, widthI b = n := ⟨(widthI b).toNat, by have := width_cases b; omega⟩
  have hn4 : n ≤ 4 := by have := width_cases b; omega
  have hnt : (widthI b).toNat = n := by omega
  obtain ⟨q, hq⟩ : ∃ q, rightI rt = q := ⟨_, rfl⟩
  have hqm := hq ▸ rightI_mem rt
  have HQ0 := Lib.hid (show 0 ≤ q by omega)
  have HQ7 := Lib.hid (show q ≤ 7 by omega)
  have HF := Lib.hid (hq ▸ hnt ▸ canF_rdF hM.ok x b rt)
  have HK := Lib.hid (hq ▸ hnt ▸ canK_readK hM.ok x b rt)
  have HN := Lib.hid hn
  have HNT := Lib.hid hnt
  have HM := Lib.hid hM
  have hr := hM.lt
  have h3 : (rt = 2 ∧ q = 2) ∨ (rt = 4 ∧ q = 4) ∨ (rt ≠ 2 ∧ rt ≠ 4 ∧ q = 1) := by
    by_cases hr : rt = 2
    · exact .inl ⟨hr, by rw [← hq, hr]; rfl⟩
    · by_cases hr4 : rt = 4
      · exact .inr (.inl ⟨hr4, by rw [← hq, hr4]; rfl⟩)
      · exact .inr (.inr ⟨hr, hr4, by rw [← hq]; simp [rightI, hr, hr4]⟩)
  have HQ := Lib.hid hq
  clear hM hn hnt hq hqm
  cases hk : M.readK x b rt
  · have HW := Lib.hid hk
    have HV := Lib.hid (show M.readV x b rt = 0 by
      rw [Mem.readV]; rw [Mem.readK] at hk
      cases h : M.bad x (rightI rt) (widthI b).toNat with
      | none => rw [h] at hk; cases hk
      | some i => rfl)
    clear hk
    obtain ⟨F, hF⟩ : ∃ F, M.rdF x b rt = F := ⟨_, rfl⟩
    have HF2 := Lib.hid (HF.out.trans hF)
    rw [hF]
    clear HF hF
    rcases h3 with ⟨rfl, rfl⟩ | ⟨rfl, rfl⟩ | ⟨g2, g4, rfl⟩
    · have HF := HF2
      clear HF2
      go_enter Try.func62, Try.ntmps62
      go_wp2_with (first | (go_at_call 135; refine (Size_ref b _).mono ?_; rintro e w2 ⟨rfl, rfl⟩; rw [HN.out]) | (go_at_call 65; (refine (Lacks_ref M r n x 2 _ (HM.out.keep ((Upd.refl [] _).alloc _) (by simp)) h0 h1 (by omega) HQ0.out HQ7.out).mono ?_; rintro e w2 ⟨rfl, hU⟩; rw [HF.out, HK.out, HW.out]; unfold Flt.val; obtain ⟨h8, hu, hs2⟩ := hU.over_alloc; have HU := Lib.hid hu; have H8 := Lib.hid h8; have cf := cells_of h8; have ff := free_of h8; clear hU hu h8)))
      refine wp_draw 2 (fun w1 => Upd [] w w1 ∧ w1.heap[w.heap.size]? = some (.cells #[.int .i64 0, .int .u32 0, .int .u32 0, .int .i64 0] 49 (0, 0)) ∧ w1.heap[w2.heap.size]? = some (.cells #[.int .i64 F.k, .int .u32 F.pc, .int .u32 F.a, .int .i64 F.wt] 49 (0, 0))) (fun _ _ => False) (by kernel_rfl) (by kernel_rfl) ⟨(HU.out.alloc _).drew, heap_alloc_keep _ H8.out, heap_alloc_new _ _⟩ (fun _ _ _ h => h.elim) ?_
      simp only [List.take_succ_cons, List.take_zero, List.drop_succ_cons, List.drop_zero]
      repeat
        apply headW_val rfl rfl
        · intro K hK w1 hB1
          have cg := cells_of hB1.2.2
          have HB1 := Lib.hid hB1
          clear hB1
          go_wp2_with fail
          exact HB1.out
        · exact ⟨_, rfl⟩
      refine headW_nil (fun _ w1 hB1 => ?_)
      have cf := cells_of hB1.2.1
      have ff := free_of hB1.2.1
      have HB1 := Lib.hid hB1
      clear hB1
      go_wp2_with fail
      have hE := Upd_store4 (b := w.heap.size) HB1.out.1 (.inr (Nat.le_refl _)) (.int .i64 F.k) (.int .u32 F.pc) (.int .u32 F.a) (.int .i64 F.wt)
      have hF := store4 HB1.out.2.1 (.int .i64 F.k) (.int .u32 F.pc) (.int .u32 F.a) (.int .i64 F.wt)
      refine bodyPost_ret (v := .tuple #[.int .u32 0, F.val, .bool false]) (results_three' rfl (res_tmp 8 rfl) (res_flt 9 w.heap.size F rfl hF) (res_tmp 10 rfl)) rfl ⟨by rw [HV.out], hE⟩
    · have HF := HF2
      clear HF2
      go_enter Try.func62, Try.ntmps62
      go_wp2_with (first | (go_at_call 135; refine (Size_ref b _).mono ?_; rintro e w2 ⟨rfl, rfl⟩; rw [HN.out]) | (go_at_call 65; (refine (Lacks_ref M r n x 4 _ (HM.out.keep ((Upd.refl [] _).alloc _) (by simp)) h0 h1 (by omega) HQ0.out HQ7.out).mono ?_; rintro e w2 ⟨rfl, hU⟩; rw [HF.out, HK.out, HW.out]; unfold Flt.val; obtain ⟨h8, hu, hs2⟩ := hU.over_alloc; have HU := Lib.hid hu; have H8 := Lib.hid h8; have cf := cells_of h8; have ff := free_of h8; clear hU hu h8)))
      refine wp_draw 2 (fun w1 => Upd [] w w1 ∧ w1.heap[w.heap.size]? = some (.cells #[.int .i64 0, .int .u32 0, .int .u32 0, .int .i64 0] 49 (0, 0)) ∧ w1.heap[w2.heap.size]? = some (.cells #[.int .i64 F.k, .int .u32 F.pc, .int .u32 F.a, .int .i64 F.wt] 49 (0, 0))) (fun _ _ => False) (by kernel_rfl) (by kernel_rfl) ⟨(HU.out.alloc _).drew, heap_alloc_keep _ H8.out, heap_alloc_new _ _⟩ (fun _ _ _ h => h.elim) ?_
      simp only [List.take_succ_cons, List.take_zero, List.drop_succ_cons, List.drop_zero]
      repeat
        apply headW_val rfl rfl
        · intro K hK w1 hB1
          have cg := cells_of hB1.2.2
          have HB1 := Lib.hid hB1
          clear hB1
          go_wp2_with fail
          exact HB1.out
        · exact ⟨_, rfl⟩
      refine headW_nil (fun _ w1 hB1 => ?_)
      have cf := cells_of hB1.2.1
      have ff := free_of hB1.2.1
      have HB1 := Lib.hid hB1
      clear hB1
      go_wp2_with fail
      have hE := Upd_store4 (b := w.heap.size) HB1.out.1 (.inr (Nat.le_refl _)) (.int .i64 F.k) (.int .u32 F.pc) (.int .u32 F.a) (.int .i64 F.wt)
      have hF := store4 HB1.out.2.1 (.int .i64 F.k) (.int .u32 F.pc) (.int .u32 F.a) (.int .i64 F.wt)
      refine bodyPost_ret (v := .tuple #[.int .u32 0, F.val, .bool false]) (results_three' rfl (res_tmp 8 rfl) (res_flt 9 w.heap.size F rfl hF) (res_tmp 10 rfl)) rfl ⟨by rw [HV.out], hE⟩
    · have g2' : (rt == 2) = false := by simpa using g2
      have g4' : (rt == 4) = false := by simpa using g4
      have g2n : (rt != 2) = true := by simpa using g2
      have g4n : (rt != 4) = true := by simpa using g4
      clear g2 g4
      have HF := HF2
      clear HF2
      go_enter Try.func62, Try.ntmps62
      go_wp2_with (first | (go_at_call 135; refine (Size_ref b _).mono ?_; rintro e w2 ⟨rfl, rfl⟩; rw [HN.out]) | (go_at_call 65; (refine (Lacks_ref M r n x 1 _ (HM.out.keep ((Upd.refl [] _).alloc _) (by simp)) h0 h1 (by omega) HQ0.out HQ7.out).mono ?_; rintro e w2 ⟨rfl, hU⟩; rw [HF.out, HK.out, HW.out]; unfold Flt.val; obtain ⟨h8, hu, hs2⟩ := hU.over_alloc; have HU := Lib.hid hu; have H8 := Lib.hid h8; have cf := cells_of h8; have ff := free_of h8; clear hU hu h8)))
      refine wp_draw 2 (fun w1 => Upd [] w w1 ∧ w1.heap[w.heap.size]? = some (.cells #[.int .i64 0, .int .u32 0, .int .u32 0, .int .i64 0] 49 (0, 0)) ∧ w1.heap[w2.heap.size]? = some (.cells #[.int .i64 F.k, .int .u32 F.pc, .int .u32 F.a, .int .i64 F.wt] 49 (0, 0))) (fun _ _ => False) (by kernel_rfl) (by kernel_rfl) ⟨(HU.out.alloc _).drew, heap_alloc_keep _ H8.out, heap_alloc_new _ _⟩ (fun _ _ _ h => h.elim) ?_
      simp only [List.take_succ_cons, List.take_zero, List.drop_succ_cons, List.drop_zero]
      repeat
        apply headW_val rfl rfl
        · intro K hK w1 hB1
          have cg := cells_of hB1.2.2
          have HB1 := Lib.hid hB1
          clear hB1
          go_wp2_with fail
          exact HB1.out
        · exact ⟨_, rfl⟩
      refine headW_nil (fun _ w1 hB1 => ?_)
      have cf := cells_of hB1.2.1
      have ff := free_of hB1.2.1
      have HB1 := Lib.hid hB1
      clear hB1
      go_wp2_with fail
      have hE := Upd_store4 (b := w.heap.size) HB1.out.1 (.inr (Nat.le_refl _)) (.int .i64 F.k) (.int .u32 F.pc) (.int .u32 F.a) (.int .i64 F.wt)
      have hF := store4 HB1.out.2.1 (.int .i64 F.k) (.int .u32 F.pc) (.int .u32 F.a) (.int .i64 F.wt)
      refine bodyPost_ret (v := .tuple #[.int .u32 0, F.val, .bool false]) (results_three' rfl (res_tmp 8 rfl) (res_flt 9 w.heap.size F rfl hF) (res_tmp 10 rfl)) rfl ⟨by rw [HV.out], hE⟩
  · have HW := Lib.hid hk
    have hbad : M.bad x q n = none := by
      rw [Mem.readK, HNT.out, HQ.out] at hk
      cases h : M.bad x q n with
      | none => rfl
      | some i => rw [h] at hk; cases hk
    have HX := Lib.hid (can_all_lt x q n hbad)
    have HV := Lib.hid (show M.readV x b rt = M.get x n by rw [Mem.readV, HNT.out, HQ.out, hbad])
    have HZ := Lib.hid (show M.rdF x b rt = Flt.zero by rw [Mem.rdF, HNT.out, HQ.out, hbad])
    have HF2 := Lib.hid (HF.out.trans HZ.out)
    have hg := get_bound HM.out.ok x n
    have hp : (2 : Int) ^ (8 * n) ≤ 2 ^ 32 := by
      have := Nat.pow_le_pow_right (show 0 < 2 by decide) (show 8 * n ≤ 32 by omega)
      exact_mod_cast this
    have e32 : (2 : Int) ^ 32 = 4294967296 := by decide
    obtain ⟨g, hgd⟩ : ∃ g, M.get x n = g := ⟨_, rfl⟩
    rw [hgd] at hg
    have hg0 := hg.1
    have hg1 : g < 4294967296 := by omega
    have HG := Lib.hid hgd
    clear hk hbad HF hgd hg hp e32
    rcases h3 with ⟨rfl, rfl⟩ | ⟨rfl, rfl⟩ | ⟨g2, g4, rfl⟩
    · go_enter Try.func62, Try.ntmps62
      go_wp2_with (first | (go_at_call 135; refine (Size_ref b _).mono ?_; rintro e w2 ⟨rfl, rfl⟩; rw [HN.out]) | (go_at_call 65; (refine (Lacks_ref M r n x 2 _ (HM.out.keep ((Upd.refl [] _).alloc _) (by simp)) h0 h1 (by omega) HQ0.out HQ7.out).mono ?_; rintro e w2 ⟨rfl, hU⟩; rw [HF2.out, HK.out, HW.out]; unfold Flt.val Flt.zero; obtain ⟨h8, hu, hs2⟩ := hU.over_alloc; have HU := Lib.hid hu; have H8 := Lib.hid h8; have cf := cells_of h8; have ff := free_of h8; clear hU hu h8)) | (go_at_call 67; refine (Get_ref M r n x _ (HM.out.keep (HU.out.alloc _) (by simp)) h0 h1 (by omega) HX.out).mono ?_; rintro e w3 ⟨rfl, rfl⟩; rw [HG.out]))
      have hF := heap_alloc_keep (.cells #[.int .i64 0, .int .u32 0, .int .u32 0, .int .i64 0] 49) (store4 H8.out (.int .i64 0) (.int .u32 0) (.int .u32 0) (.int .i64 0))
      have hE := (Upd_store4 (b := w.heap.size) HU.out (.inr (Nat.le_refl _)) (.int .i64 0) (.int .u32 0) (.int .u32 0) (.int .i64 0)).alloc (.cells #[.int .i64 0, .int .u32 0, .int .u32 0, .int .i64 0] 49)
      refine bodyPost_ret (v := .tuple #[.int .u32 g, Flt.zero.val, .bool true]) (results_three' rfl (res_tmp 8 rfl) (res_flt 9 w.heap.size Flt.zero rfl hF) (res_tmp 10 rfl)) rfl ⟨by rw [HV.out, HG.out, HZ.out], hE⟩
    · go_enter Try.func62, Try.ntmps62
      go_wp2_with (first | (go_at_call 135; refine (Size_ref b _).mono ?_; rintro e w2 ⟨rfl, rfl⟩; rw [HN.out]) | (go_at_call 65; (refine (Lacks_ref M r n x 4 _ (HM.out.keep ((Upd.refl [] _).alloc _) (by simp)) h0 h1 (by omega) HQ0.out HQ7.out).mono ?_; rintro e w2 ⟨rfl, hU⟩; rw [HF2.out, HK.out, HW.out]; unfold Flt.val Flt.zero; obtain ⟨h8, hu, hs2⟩ := hU.over_alloc; have HU := Lib.hid hu; have H8 := Lib.hid h8; have cf := cells_of h8; have ff := free_of h8; clear hU hu h8)) | (go_at_call 67; refine (Get_ref M r n x _ (HM.out.keep (HU.out.alloc _) (by simp)) h0 h1 (by omega) HX.out).mono ?_; rintro e w3 ⟨rfl, rfl⟩; rw [HG.out]))
      have hF := heap_alloc_keep (.cells #[.int .i64 0, .int .u32 0, .int .u32 0, .int .i64 0] 49) (store4 H8.out (.int .i64 0) (.int .u32 0) (.int .u32 0) (.int .i64 0))
      have hE := (Upd_store4 (b := w.heap.size) HU.out (.inr (Nat.le_refl _)) (.int .i64 0) (.int .u32 0) (.int .u32 0) (.int .i64 0)).alloc (.cells #[.int .i64 0, .int .u32 0, .int .u32 0, .int .i64 0] 49)
      refine bodyPost_ret (v := .tuple #[.int .u32 g, Flt.zero.val, .bool true]) (results_three' rfl (res_tmp 8 rfl) (res_flt 9 w.heap.size Flt.zero rfl hF) (res_tmp 10 rfl)) rfl ⟨by rw [HV.out, HG.out, HZ.out], hE⟩
    · have g2' : (rt == 2) = false := by simpa using g2
      have g4' : (rt == 4) = false := by simpa using g4
      have g2n : (rt != 2) = true := by simpa using g2
      have g4n : (rt != 4) = true := by simpa using g4
      clear g2 g4
      go_enter Try.func62, Try.ntmps62
      go_wp2_with (first | (go_at_call 135; refine (Size_ref b _).mono ?_; rintro e w2 ⟨rfl, rfl⟩; rw [HN.out]) | (go_at_call 65; (refine (Lacks_ref M r n x 1 _ (HM.out.keep ((Upd.refl [] _).alloc _) (by simp)) h0 h1 (by omega) HQ0.out HQ7.out).mono ?_; rintro e w2 ⟨rfl, hU⟩; rw [HF2.out, HK.out, HW.out]; unfold Flt.val Flt.zero; obtain ⟨h8, hu, hs2⟩ := hU.over_alloc; have HU := Lib.hid hu; have H8 := Lib.hid h8; have cf := cells_of h8; have ff := free_of h8; clear hU hu h8)) | (go_at_call 67; refine (Get_ref M r n x _ (HM.out.keep (HU.out.alloc _) (by simp)) h0 h1 (by omega) HX.out).mono ?_; rintro e w3 ⟨rfl, rfl⟩; rw [HG.out]))
      have hF := heap_alloc_keep (.cells #[.int .i64 0, .int .u32 0, .int .u32 0, .int .i64 0] 49) (store4 H8.out (.int .i64 0) (.int .u32 0) (.int .u32 0) (.int .i64 0))
      have hE := (Upd_store4 (b := w.heap.size) HU.out (.inr (Nat.le_refl _)) (.int .i64 0) (.int .u32 0) (.int .u32 0) (.int .i64 0)).alloc (.cells #[.int .i64 0, .int .u32 0, .int .u32 0, .int .i64 0] 49)
      refine bodyPost_ret (v := .tuple #[.int .u32 g, Flt.zero.val, .bool true]) (results_three' rfl (res_tmp 8 rfl) (res_flt 9 w.heap.size Flt.zero rfl hF) (res_tmp 10 rfl)) rfl ⟨by rw [HV.out, HG.out, HZ.out], hE⟩

end Go.Proofs.Ytoplekfnghkkdaa

/-
  Package bits: Field, by its contract.
-/
namespace Go.Proofs.Ytoplekfnghkkdaa
open Go Go.RowKit
set_option linter.unusedVariables false
set_option linter.unusedSimpArgs false

theorem and_mask (x n : Nat) (hx : x < 18446744073709551616) (hn : n ≤ 32) : bits .and .u64 (x : Int) (IntKind.u64.wrap (IntKind.u64.wrap (2 ^ n) - 1)) = ((x % 2 ^ n : Nat) : Int) := by
  have h1 : (2 : Nat) ^ n ≤ 2 ^ 32 := Nat.pow_le_pow_right (by decide) hn
  have h2 : 0 < (2 : Nat) ^ n := Nat.pow_pos (by decide)
  have e : IntKind.u64.wrap (IntKind.u64.wrap (2 ^ n) - 1) = ((2 ^ n - 1 : Nat) : Int) := by
    have : ((2 : Int) ^ n) = ((2 ^ n : Nat) : Int) := by push_cast; rfl
    rw [this]
    generalize (2 : Nat) ^ n = m at *
    simp [IntKind.wrap, IntKind.signed, IntKind.bits]
    omega
  rw [e, u64_and_nat _ _ hx (by omega), Nat.and_two_pow_sub_one_eq_mod]

set_option maxRecDepth 100000 in
set_option maxHeartbeats 400000 in
theorem Field_any (x : Int) (a n : Nat) (w : World) (h0 : 0 ≤ x) (h1 : x < 4294967296) (ha : a < 32) (hn : n ≤ 32) :
    Calls Try.prog 163 #[.int .u32 x, .int .i64 a, .int .i64 n] w fun e w' => e = .returned (.int .u32 (x / 2 ^ a % 2 ^ n)) ∧ w = w' := by
  go_enter Try.func163, Try.ntmps163
  go_wp2
  go_ret
  refine ⟨ret_of (congrArg (Value.int .u32) ?_), rfl⟩
  obtain ⟨x, rfl⟩ := Int.eq_ofNat_of_zero_le h0
  have e : (x : Int) / 2 ^ a = ((x / 2 ^ a : Nat) : Int) := by push_cast; rfl
  have h3 : x / 2 ^ a ≤ x := Nat.div_le_self _ _
  rw [e, and_mask _ _ (by omega) hn]
  have h4 : x / 2 ^ a % 2 ^ n ≤ x / 2 ^ a := Nat.mod_le _ _
  have h5 : (((x / 2 ^ a % 2 ^ n : Nat) : Int)) % 4294967296 = ((x / 2 ^ a % 2 ^ n : Nat) : Int) := by omega
  rw [h5]
  push_cast
  rfl

end Go.Proofs.Ytoplekfnghkkdaa

/-
  Operands and instructions as plain data. No condition.
-/
namespace Go.Proofs.Ytoplekfnghkkdaa
open Go Go.RowKit
set_option linter.unusedVariables false

structure Opd where
  k : Int
  r : Int
  imm : Int
  b : Int
  x : Int
  sc : Int

structure Opd.Ok (o : Opd) : Prop where
  imm : 0 ≤ o.imm ∧ o.imm < 4294967296
  sc : 0 ≤ o.sc ∧ o.sc < 4294967296

def Opd.val (o : Opd) : Value := .agg #[.int .i64 o.k, .int .i64 o.r, .int .u32 o.imm, .int .i64 o.b, .int .i64 o.x, .int .u32 o.sc]

theorem Opd.ext' {a b : Opd} (h1 : a.k = b.k) (h2 : a.r = b.r) (h3 : a.imm = b.imm) (h4 : a.b = b.b) (h5 : a.x = b.x) (h6 : a.sc = b.sc) : a = b := by
  cases a; cases b; simp_all

def Opd.none : Opd := ⟨0, 0, 0, 0, 0, 0⟩
def regO (r : Int) : Opd := ⟨1, r, 0, 0, 0, 0⟩
def immO (v : Int) : Opd := ⟨2, 0, v, 0, 0, 0⟩

/-- An instruction: its operation, its condition, both operands, whether it is repeated, its bytes. -/
structure Ins where
  op : Int
  cond : Int
  a : Opd
  b : Opd
  rep : Bool
  len : Int

def Ins.zero : Ins := ⟨0, 0, Opd.none, Opd.none, false, 0⟩

def Ins.cells (i : Ins) : Array Value := #[.int .i64 i.op, .int .i64 i.cond,
  .int .i64 i.a.k, .int .i64 i.a.r, .int .u32 i.a.imm, .int .i64 i.a.b, .int .i64 i.a.x, .int .u32 i.a.sc,
  .int .i64 i.b.k, .int .i64 i.b.r, .int .u32 i.b.imm, .int .i64 i.b.b, .int .i64 i.b.x, .int .u32 i.b.sc,
  .bool i.rep, .int .i64 i.len]

theorem Ins.size (i : Ins) : i.cells.size = 16 := rfl
theorem Ins.one (i : Ins) : i.cells.all (·.oneCell') = true := by simp [Ins.cells, Value.oneCell']

end Go.Proofs.Ytoplekfnghkkdaa

/-
  The guest's state and operands as plain data, how they lie in cells; the small functions of packages bits, state and operand, each by its contract.
-/
namespace Go.Proofs.Ytoplekfnghkkdaa
open Go Go.RowKit
set_option linter.unusedVariables false
set_option linter.unusedSimpArgs false

theorem mod_val (r n : Int) (h : 0 < n) (hn : n ≤ 16) : (wrap64 (r.tmod n + n)).tmod n = r % n := by
  have h1 : -n < r.tmod n := by
    have := Int.lt_tmod_of_pos r h
    omega
  have h2 : r.tmod n < n := Int.tmod_lt_of_pos r h
  have e : wrap64 (r.tmod n + n) = r.tmod n + n := by
    unfold wrap64; omega
  rw [e, Int.tmod_eq_emod_of_nonneg (by omega), Int.add_emod_right, Int.tmod_def, Int.sub_mul_emod_self_left]

theorem omod_any (r : Int) (w : World) :
    Calls Try.prog 224 #[.int .i64 r] w fun e w' => e = .returned (.int .i64 (r % 8)) ∧ w = w' := by
  go_enter Try.func224, Try.ntmps224
  go_wp2
  go_ret
  exact ⟨ret_of (congrArg (Value.int .i64) (mod_val r 8 (by decide) (by decide))), rfl⟩

/-! ### The state -/
structure St where
  R : Nat → Int
  pc : Int
  cf : Bool
  pf : Bool
  af : Bool
  zf : Bool
  sf : Bool
  of_ : Bool
  df : Bool
  f : Int

structure St.Ok (s : St) : Prop where
  R : ∀ i, 0 ≤ s.R i ∧ s.R i < 4294967296
  pc : 0 ≤ s.pc ∧ s.pc < 4294967296
  f : 0 ≤ s.f ∧ s.f < 18446744073709551616

def St.cells (s : St) : Array Value := #[.int .u32 (s.R 0), .int .u32 (s.R 1), .int .u32 (s.R 2), .int .u32 (s.R 3), .int .u32 (s.R 4), .int .u32 (s.R 5), .int .u32 (s.R 6), .int .u32 (s.R 7), .int .u32 s.pc,
  .bool s.cf, .bool s.pf, .bool s.af, .bool s.zf, .bool s.sf, .bool s.of_, .bool s.df, .int .u64 s.f]

def St.setR (s : St) (i : Nat) (v : Int) : St := { s with R := fun j => if j = i then v else s.R j }

def St.zero : St := ⟨fun _ => 0, 0, false, false, false, false, false, false, false, 0⟩

theorem St.zero_ok : St.zero.Ok := ⟨fun _ => by simp [St.zero], by simp [St.zero], by simp [St.zero]⟩

theorem St.setR_ok {s : St} (h : s.Ok) (i : Nat) {v : Int} (h0 : 0 ≤ v) (h1 : v < 4294967296) : (s.setR i v).Ok :=
  ⟨fun j => by simp only [St.setR]; split; exact ⟨h0, h1⟩; exact h.R j, h.pc, h.f⟩

theorem St.size (s : St) : s.cells.size = 17 := rfl

theorem St.cR (s : St) (i : Nat) (h : i < 8) : s.cells[i]? = some (.int .u32 (s.R i)) := by
  match i, h with
  | 0, _ => rfl
  | 1, _ => rfl
  | 2, _ => rfl
  | 3, _ => rfl
  | 4, _ => rfl
  | 5, _ => rfl
  | 6, _ => rfl
  | 7, _ => rfl

theorem St.cells_setR (s : St) (i : Nat) (v : Int) (h : i < 8) : s.cells.setIfInBounds i (.int .u32 v) = (s.setR i v).cells := by
  match i, h with
  | 0, _ => rfl
  | 1, _ => rfl
  | 2, _ => rfl
  | 3, _ => rfl
  | 4, _ => rfl
  | 5, _ => rfl
  | 6, _ => rfl
  | 7, _ => rfl

theorem St.one (s : St) : s.cells.all (·.oneCell') = true := by simp [St.cells, Value.oneCell']

theorem state_info : (Try.prog.info? 79).map (·.size) = some 17 := by kernel_rfl

/-- A register; of none 0. -/
def St.reg (s : St) (r : Int) : Int := if r = -1 then 0 else s.R (r % 8).toNat

def St.place (s : St) (o : Opd) : Int := if o.k = 3 then (s.reg o.b + s.reg o.x * o.sc + o.imm) % 4294967296 else 0

set_option maxRecDepth 100000 in
set_option maxHeartbeats 400000 in
theorem register_any (s : St) (r : Int) (w : World) :
    Calls Try.prog 208 #[.agg s.cells, .int .i64 r] w fun e w' => e = .returned (.int .u32 (s.reg r)) ∧ Upd [] w w' := by
  by_cases h : r = -1
  · subst h
    go_enter Try.func208, Try.ntmps208
    go_wp2
    go_ret
    exact ⟨rfl, (Upd.refl _ _).alloc _⟩
  · have h1 : (r == -1) = false := by simpa using h
    have hc := s.cR (r % 8).toNat (by omega)
    have h2 : 0 ≤ r % 8 := by omega
    have h3 : r % 8 < 8 := by omega
    go_enter Try.func208, Try.ntmps208
    go_wp2_with (go_at_call 224; refine (omod_any _ _).mono ?_; rintro e w' ⟨rfl, rfl⟩)
    go_ret
    exact ⟨by rw [St.reg, if_neg h]; rfl, (Upd.refl _ _).alloc _⟩


/-- A state read whole out of its variable. -/
theorem wp_load_state {op : Oper} {a : Act} {w : World} {K : Act → World → Prop} {Q : Exit → Act → World → Prop} (s : St) (b : Nat) (x : Operand) (ho : op.op = .load 79 x) (hx : a.eval x = .pointer (some ⟨b, 0, none⟩))
    (hb : w.heap[b]? = some (.cells s.cells 79 (0, 0))) (hK : K (a.put op.dst (.agg s.cells)) w) : op.wp Try.prog a w K Q :=
  wp_load_mid 79 x ho b 0 hx s.cells.toList _ (range_whole hb) Try.underlying79 rfl (by rw [Array.length_toList, St.size]; exact state_info) (by rw [Array.toArray_toList]; exact hK)

theorem wpList_load_state {ops : Array Oper} {rest : List Oper} {op : Oper} {a : Act} {w : World} {Q : Exit → Act → World → Prop} (s : St) (b : Nat) (hgd : op.guard = none) (x : Operand) (ho : op.op = .load 79 x) (hx : a.eval x = .pointer (some ⟨b, 0, none⟩))
    (hb : w.heap[b]? = some (.cells s.cells 79 (0, 0))) (h : wpList Try.prog ops Q rest (a.put op.dst (.agg s.cells)) w) : wpList Try.prog ops Q (op :: rest) a w :=
  wpList_plain hgd fun _ hK => wp_load_state s b x ho hx hb (hK _ _ h)

theorem wpList_load_state_g {ops : Array Oper} {rest : List Oper} {op : Oper} {a : Act} {w : World} {Q : Exit → Act → World → Prop} (s : St) (b : Nat) (hgd : Region.wanted op (yielded ops a.tmps) = true) (x : Operand) (ho : op.op = .load 79 x) (hx : a.eval x = .pointer (some ⟨b, 0, none⟩))
    (hb : w.heap[b]? = some (.cells s.cells 79 (0, 0))) (h : wpList Try.prog ops Q rest (a.put op.dst (.agg s.cells)) w) : wpList Try.prog ops Q (op :: rest) a w :=
  wpList_want hgd fun _ hK => wp_load_state s b x ho hx hb (hK _ _ h)

/-- A state stored whole into its variable. -/
theorem wpList_store_state {ops : Array Oper} {rest : List Oper} {op : Oper} {a : Act} {w : World} {Q : Exit → Act → World → Prop} (s : St) (b : Nat) (hgd : op.guard = none) (x y : Operand) (ho : op.op = .store 79 x y) (hx : a.eval x = .pointer (some ⟨b, 0, none⟩)) (hy : a.eval y = .agg s.cells)
    {c : Array Value} (hb : w.heap[b]? = some (.cells c 79 (0, 0))) (hc : c.size = 17) (h : wpList Try.prog ops Q rest (a.put op.dst undef) (w.setCells b 0 s.cells.toList)) : wpList Try.prog ops Q (op :: rest) a w :=
  wpList_store_arr hgd 79 x y ho b 0 s.cells hx hy hb (by rw [hc, St.size]; exact Nat.le_refl _) (by rw [St.size]; exact state_info) s.one h

theorem wpList_store_state' {ops : Array Oper} {rest : List Oper} {op : Oper} {a : Act} {w : World} {Q : Exit → Act → World → Prop} (s : St) (b : Nat) (hgd : op.guard = none) (x y : Operand) (ho : op.op = .store 79 x y) (hx : a.eval x = .pointer (some ⟨b, 0, none⟩)) (hy : a.eval y = .agg s.cells)
    {c : Array Value} (hb : w.heap[b]? = some (.cells c 79 (0, 0))) (hc : c.size = 17) (h : ∀ w', w.setCells b 0 s.cells.toList = w' → wpList Try.prog ops Q rest (a.put op.dst undef) w') : wpList Try.prog ops Q (op :: rest) a w :=
  wpList_store_state s b hgd x y ho hx hy hb hc (h _ rfl)

theorem wr_state (c : Array Value) (s : St) (hc : c.size = 17) : wr c 0 s.cells.toList = s.cells := by
  apply Array.ext_getElem?
  intro k
  have hl : s.cells.toList.length = 17 := rfl
  rw [wr_get _ _ _ _ (by rw [hl, hc]; exact Nat.le_refl _), hl]
  by_cases h : k < 17
  · rw [if_pos (by omega), Nat.sub_zero, Array.getElem?_toList]
  · rw [if_neg (by omega), Array.getElem?_eq_none (by omega), Array.getElem?_eq_none (by rw [St.size]; omega)]

/-- What a store of a whole state leaves. -/
theorem heap_store_state {w : World} {b : Nat} {c : Array Value} (s : St) (hb : w.heap[b]? = some (.cells c 79 (0, 0))) (hc : c.size = 17) : (w.setCells b 0 s.cells.toList).heap[b]? = some (.cells s.cells 79 (0, 0)) := by
  rw [heap_setCells_same _ _ _ _ hb, wr_state c s hc]

structure PlaceB (s : St) (o : Opd) (w w1 : World) : Prop where
  s : w1.heap[w.heap.size]? = some (.cells s.cells 79 (0, 0))
  o : w1.heap[w.heap.size + 1]? = some (.cells #[.int .i64 o.k, .int .i64 o.r, .int .u32 o.imm, .int .i64 o.b, .int .i64 o.x, .int .u32 o.sc] 26 (0, 0))
  u : Upd [] w w1

theorem PlaceB.step {s : St} {o : Opd} {w w1 w2 : World} (h : PlaceB s o w w1) (u : Upd [] w1 w2) : PlaceB s o w w2 := ⟨u.get h.s (by simp), u.get h.o (by simp), h.u.also u (by simp)⟩

theorem place_val (s : St) (o : Opd) (h : o.k = 3) : (s.reg o.b + s.reg o.x * o.sc + o.imm) % 4294967296 = s.place o := by
  rw [St.place, if_pos h]

set_option maxRecDepth 100000 in
set_option maxHeartbeats 2000000 in
theorem Place_any (s : St) (o : Opd) (w : World) :
    Calls Try.prog 193 #[.agg s.cells, o.val] w fun e w' => e = .returned (.int .u32 (s.place o)) ∧ Upd [] w w' := by
  have hmo : Try.prog.follows .mixedOrders = true := by kernel_rfl
  unfold Opd.val
  by_cases h : o.k = 3
  · have h1 : (o.k == 3) = true := by simpa using h
    have h2 : (o.k != 3) = false := by simpa using h
    have HV := Lib.hid (place_val s o h)
    clear h
    go_enter Try.func193, Try.ntmps193
    go_wp2
    refine wp_draw 16 (PlaceB s o w) (fun _ _ => False) (by kernel_rfl) (by kernel_rfl) ⟨heap_alloc_keep _ (heap_alloc_new _ _), heap_alloc2_new _ _ _, (((Upd.refl _ _).alloc _).alloc _).drew⟩ (fun _ _ _ h => h.elim) ?_
    simp only [List.take_succ_cons, List.take_zero, List.drop_succ_cons, List.drop_zero]
    repeat
      apply headW_val rfl rfl
      · intro K hK w1 hB1
        have co := cells_of hB1.o
        have HB := Lib.hid hB1
        clear hB1
        first
        | (refine wp_load_state s w.heap.size _ rfl rfl HB.out.s ?_; go_simp; exact hK _ HB.out)
        | (go_wp2_with (go_at_call 208; refine (register_any s _ _).mono ?_; rintro e w2 ⟨rfl, hu⟩)
           first
           | exact hK _ HB.out
           | exact hK _ (HB.out.step hu)
           | exact HB.out
           | exact HB.out.step hu)
      · exact ⟨_, rfl⟩
    refine headW_nil (fun _ w1 hB1 => ?_)
    have HB := Lib.hid hB1
    clear hB1
    go_wp2_with fail
    go_ret
    exact ⟨by first | exact ret_of (congrArg (Value.int .u32) HV.out), HB.out.u⟩
  · have h1 : (o.k == 3) = false := by simpa using h
    have h2 : (o.k != 3) = true := by simpa using h
    have HV := Lib.hid (show s.place o = 0 by rw [St.place, if_neg h])
    clear h
    go_enter Try.func193, Try.ntmps193
    go_wp2
    go_ret
    exact ⟨by rw [HV.out]; rfl, ((Upd.refl _ _).alloc _).alloc _⟩


/-- A register of a byte: its number, where it lies. -/
def St.reg8 (s : St) (i : Int) : Int := if (i % 8).toNat < 4 then s.R (i % 8).toNat % 256 else s.R ((i % 8).toNat - 4) / 256 % 256

def St.setReg8 (s : St) (i v : Int) : St :=
  if (i % 8).toNat < 4 then s.setR (i % 8).toNat (s.R (i % 8).toNat / 256 * 256 + v % 256)
  else s.setR ((i % 8).toNat - 4) (s.R ((i % 8).toNat - 4) / 65536 * 65536 + v % 256 * 256 + s.R ((i % 8).toNat - 4) % 256)

theorem St.setReg8_ok {s : St} (h : s.Ok) (i v : Int) : (s.setReg8 i v).Ok := by
  unfold St.setReg8
  split
  · have := h.R (i % 8).toNat
    exact St.setR_ok h _ (by omega) (by omega)
  · have := h.R ((i % 8).toNat - 4)
    exact St.setR_ok h _ (by omega) (by omega)

theorem and_255 (v : Int) (h0 : 0 ≤ v) (h1 : v < 4294967296) : bits .and .u32 v 255 = v % 256 := by
  obtain ⟨v, rfl⟩ := Int.eq_ofNat_of_zero_le h0
  have := u32_and_nat v 255 (by omega) (by decide)
  rw [nat_mask8] at this
  exact this

theorem nat_and_high (x k n : Nat) (hx : x < 2 ^ (k + n)) : x &&& ((2 ^ n - 1) <<< k) = x / 2 ^ k * 2 ^ k := by
  have e4 : x / 2 ^ k * 2 ^ k = (x >>> k) <<< k := by rw [Nat.shiftLeft_eq, Nat.shiftRight_eq_div_pow]
  rw [e4]
  apply Nat.eq_of_testBit_eq
  intro i
  simp only [Nat.testBit_and, Nat.testBit_shiftLeft, Nat.testBit_shiftRight, Nat.testBit_two_pow_sub_one]
  by_cases hi : k ≤ i
  · have : k + (i - k) = i := by omega
    simp only [ge_iff_le, hi, decide_true, Bool.true_and, this]
    by_cases h32 : i - k < n
    · simp [h32]
    · have : x.testBit i = false := Nat.testBit_lt_two_pow (Nat.lt_of_lt_of_le hx (Nat.pow_le_pow_right (by decide) (by omega)))
      simp [this]
  · simp [hi]

theorem andNot_low (x : Int) (h0 : 0 ≤ x) (h1 : x < 4294967296) : bits .andNot .u32 x 255 = x / 256 * 256 := by
  obtain ⟨x, rfl⟩ := Int.eq_ofNat_of_zero_le h0
  have h := u32_andNot_nat x 255 (by omega) (by decide)
  have e := nat_and_high x 8 24 (by omega)
  rw [show (2 ^ 24 - 1) <<< 8 = 4294967295 - 255 from by decide] at e
  rw [e] at h
  rw [show ((255 : Nat) : Int) = 255 from rfl] at h
  rw [h]
  omega

theorem andNot_mid (x : Int) (h0 : 0 ≤ x) (h1 : x < 4294967296) : bits .andNot .u32 x 65280 = x / 65536 * 65536 + x % 256 := by
  obtain ⟨x, rfl⟩ := Int.eq_ofNat_of_zero_le h0
  have h := u32_andNot_nat x 65280 (by omega) (by decide)
  have e := nat_and_high x 16 16 (by omega)
  rw [show 4294967295 - 65280 = ((2 ^ 16 - 1) <<< 16) ||| 255 from by decide, Nat.and_or_distrib_left, e, nat_mask8, nat_join 16 _ _ (by omega) (by omega)] at h
  rw [show ((65280 : Nat) : Int) = 65280 from rfl] at h
  rw [h]
  omega

theorem or_low (x v : Int) (h0 : 0 ≤ x) (h1 : x < 4294967296) (g0 : 0 ≤ v) (g1 : v < 4294967296) : bits .or .u32 (x / 256 * 256) (v % 256) = x / 256 * 256 + v % 256 := by
  obtain ⟨x, rfl⟩ := Int.eq_ofNat_of_zero_le h0
  obtain ⟨v, rfl⟩ := Int.eq_ofNat_of_zero_le g0
  have h := u32_or_nat (x / 256 * 256) (v % 256) (by omega) (by omega)
  rw [nat_join 8 _ _ (by omega) (by omega)] at h
  have e1 : (x : Int) / 256 * 256 = ((x / 256 * 256 : Nat) : Int) := by omega
  have e2 : (v : Int) % 256 = ((v % 256 : Nat) : Int) := by omega
  rw [e1, e2, h]
  omega

theorem or_mid (x v : Int) (h0 : 0 ≤ x) (h1 : x < 4294967296) (g0 : 0 ≤ v) (g1 : v < 4294967296) : bits .or .u32 (x / 65536 * 65536 + x % 256) (v % 256 * 256) = x / 65536 * 65536 + v % 256 * 256 + x % 256 := by
  obtain ⟨x, rfl⟩ := Int.eq_ofNat_of_zero_le h0
  obtain ⟨v, rfl⟩ := Int.eq_ofNat_of_zero_le g0
  have h := u32_or_nat (x / 65536 * 65536 + x % 256) (v % 256 * 256) (by omega) (by omega)
  have q : x / 65536 * 65536 + x % 256 = x / 65536 * 65536 ||| x % 256 := (nat_join 16 _ _ (by omega) (by omega)).symm
  have q2 : x % 256 ||| v % 256 * 256 = v % 256 * 256 + x % 256 := by rw [Nat.or_comm]; exact nat_join 8 _ _ (by omega) (by omega)
  have q3 : (x / 65536 * 65536 + x % 256) ||| (v % 256 * 256) = x / 65536 * 65536 + (v % 256 * 256 + x % 256) := by
    rw [q, Nat.or_assoc, q2]
    exact nat_join 16 _ _ (by omega) (by omega)
  rw [q3] at h
  have e1 : (x : Int) / 65536 * 65536 + x % 256 = ((x / 65536 * 65536 + x % 256 : Nat) : Int) := by omega
  have e2 : (v : Int) % 256 * 256 = ((v % 256 * 256 : Nat) : Int) := by omega
  rw [e1, e2, h]
  omega

structure SetB (s : St) (w w1 : World) : Prop where
  s : w1.heap[w.heap.size]? = some (.cells s.cells 79 (0, 0))
  r : w1.heap[w.heap.size + 1]? = some (.cells St.zero.cells 79 (0, 0))
  u : Upd [] w w1

end Go.Proofs.Ytoplekfnghkkdaa
