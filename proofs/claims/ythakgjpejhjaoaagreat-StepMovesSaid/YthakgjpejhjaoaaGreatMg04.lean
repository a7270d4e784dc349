/-
  Parts of the proof (their names shortened by a program). No condition.
-/
import Derived.Test.YthakgjpejhjaoaaGreatMg01
import Derived.Test.YthakgjpejhjaoaaGreatMg03
import Derived.Laws.BitsAllLaws
namespace Go.Proofs.YthakgjpejhjaoaaGreat
open Go Go.RowKit
set_option linter.unusedVariables false
set_option linter.unusedSimpArgs false
set_option maxRecDepth 100000
set_option maxHeartbeats 16000000
theorem Yn8 (r n : Int) (h : 0 < n) (hn : n ≤ 16) : (wrap64 (r.tmod n + n)).tmod n = r % n := by
 have h1 : -n < r.tmod n := by
  have := Int.lt_tmod_of_pos r h
  omega
 have h2 : r.tmod n < n := Int.tmod_lt_of_pos r h
 have e : wrap64 (r.tmod n + n) = r.tmod n + n := by
  unfold wrap64; omega
 rw [e, Int.tmod_eq_emod_of_nonneg (by omega), Int.add_emod_right, Int.tmod_def, Int.sub_mul_emod_self_left]
theorem Yic (r : Int) (w : World) :
  Calls Tryz.prog 103 #[.int .i64 r] w fun e w' => e = .returned (.int .i64 (r % 8)) ∧ w = w' := by
 go_enter Tryz.func103, Tryz.ntmps103
 go_wp2
 go_ret
 exact ⟨Yem (congrArg (Value.int .i64) (Yn8 r 8 (by decide) (by decide))), rfl⟩
theorem Ygs (r : Int) (w : World) (n : Nat) (h : 0 < n) (hn : n ≤ 16) :
  Calls Tryz.prog 116 #[.int .i64 r, .int .i64 n] w fun e w' => e = .returned (.int .i64 (r % n)) ∧ w = w' := by
 go_enter Tryz.func116, Tryz.ntmps116
 go_wp2
 go_ret
 exact ⟨Yem (congrArg (Value.int .i64) (Yn8 r n (by omega) (by omega))), rfl⟩
structure St where
 R : Nat → Int
 pc : Int
 cf : Bool
 pf : Bool
 af : Bool
 zf : Bool
 sf : Bool
 of_ : Bool
 df : Bool
 f : Int
structure St.Ok (s : St) : Prop where
 R : ∀ i, 0 ≤ s.R i ∧ s.R i < 4294967296
 pc : 0 ≤ s.pc ∧ s.pc < 4294967296
 f : 0 ≤ s.f ∧ s.f < 18446744073709551616
def St.cells (s : St) : Array Value := #[.int .u32 (s.R 0), .int .u32 (s.R 1), .int .u32 (s.R 2), .int .u32 (s.R 3), .int .u32 (s.R 4), .int .u32 (s.R 5), .int .u32 (s.R 6), .int .u32 (s.R 7), .int .u32 s.pc,
 .bool s.cf, .bool s.pf, .bool s.af, .bool s.zf, .bool s.sf, .bool s.of_, .bool s.df, .int .u64 s.f]
def St.setR (s : St) (i : Nat) (v : Int) : St := { s with R := fun j => if j = i then v else s.R j }
def St.zero : St := ⟨fun _ => 0, 0, false, false, false, false, false, false, false, 0⟩
theorem St.zero_ok : St.zero.Ok := ⟨fun _ => by simp [St.zero], by simp [St.zero], by simp [St.zero]⟩
theorem St.setR_ok {s : St} (h : s.Ok) (i : Nat) {v : Int} (h0 : 0 ≤ v) (h1 : v < 4294967296) : (s.setR i v).Ok :=
 ⟨fun j => by simp only [St.setR]; split; exact ⟨h0, h1⟩; exact h.R j, h.pc, h.f⟩
theorem St.size (s : St) : s.cells.size = 17 := rfl
theorem St.cR (s : St) (i : Nat) (h : i < 8) : s.cells[i]? = some (.int .u32 (s.R i)) := by
 match i, h with
 |0, _ => rfl
 |1, _ => rfl
 |2, _ => rfl
 |3, _ => rfl
 |4, _ => rfl
 |5, _ => rfl
 |6, _ => rfl
 |7, _ => rfl
theorem St.cells_setR (s : St) (i : Nat) (v : Int) (h : i < 8) : s.cells.setIfInBounds i (.int .u32 v) = (s.setR i v).cells := by
 match i, h with
 |0, _ => rfl
 |1, _ => rfl
 |2, _ => rfl
 |3, _ => rfl
 |4, _ => rfl
 |5, _ => rfl
 |6, _ => rfl
 |7, _ => rfl
theorem St.one (s : St) : s.cells.all (·.oneCell') = true := by simp [St.cells, Value.oneCell']
theorem Ya8 : (Tryz.prog.info? 28).map (·.size) = some 17 := by kernel_rfl
def St.reg (s : St) (r : Int) : Int := if r = -1 then 0 else s.R (r % 8).toNat
def St.place (s : St) (o : Opd) : Int := if o.k = 3 then (s.reg o.b + s.reg o.x * o.sc + o.imm) % 4294967296 else 0
theorem Yg9 (s : St) (r : Int) (w : World) :
  Calls Tryz.prog 102 #[.agg s.cells, .int .i64 r] w fun e w' => e = .returned (.int .u32 (s.reg r)) ∧ Upd [] w w' := by
 by_cases h : r = -1
 ·subst h
  go_enter Tryz.func102, Tryz.ntmps102
  go_wp2
  go_ret
  exact ⟨rfl, (Upd.refl _ _).alloc _⟩
 ·have h1 : (r == -1) = false := by simpa using h
  have hc := s.cR (r % 8).toNat (by omega)
  have h2 : 0 ≤ r % 8 := by omega
  have h3 : r % 8 < 8 := by omega
  go_enter Tryz.func102, Tryz.ntmps102
  go_wp2_with (go_at_call 103; refine (Yic _ _).mono ?_; rintro e w' ⟨rfl, rfl⟩)
  go_ret
  exact ⟨by rw [St.reg, if_neg h]; rfl, (Upd.refl _ _).alloc _⟩
theorem Yax {op : Oper} {a : Act} {w : World} {K : Act → World → Prop} {Q : Exit → Act → World → Prop} (s : St) (b : Nat) (x : Operand) (ho : op.op = .load 28 x) (hx : a.eval x = .pointer (some ⟨b, 0, none⟩))
  (hb : w.heap[b]? = some (.cells s.cells 28 (0, 0))) (hK : K (a.put op.dst (.agg s.cells)) w) : op.wp Tryz.prog a w K Q :=
 wp_load_mid 28 x ho b 0 hx s.cells.toList _ (Ye3 hb) Tryz.underlying28 rfl (by rw [Array.length_toList, St.size]; exact Ya8) (by rw [Array.toArray_toList]; exact hK)
theorem Yae {ops : Array Oper} {rest : List Oper} {op : Oper} {a : Act} {w : World} {Q : Exit → Act → World → Prop} (s : St) (b : Nat) (hgd : op.guard = none) (x : Operand) (ho : op.op = .load 28 x) (hx : a.eval x = .pointer (some ⟨b, 0, none⟩))
  (hb : w.heap[b]? = some (.cells s.cells 28 (0, 0))) (h : wpList Tryz.prog ops Q rest (a.put op.dst (.agg s.cells)) w) : wpList Tryz.prog ops Q (op :: rest) a w :=
 wpList_plain hgd fun _ hK => Yax s b x ho hx hb (hK _ _ h)
theorem Yc5 {ops : Array Oper} {rest : List Oper} {op : Oper} {a : Act} {w : World} {Q : Exit → Act → World → Prop} (s : St) (b : Nat) (hgd : op.guard = none) (x y : Operand) (ho : op.op = .store 28 x y) (hx : a.eval x = .pointer (some ⟨b, 0, none⟩)) (hy : a.eval y = .agg s.cells)
  {c : Array Value} (hb : w.heap[b]? = some (.cells c 28 (0, 0))) (hc : c.size = 17) (h : wpList Tryz.prog ops Q rest (a.put op.dst undef) (w.setCells b 0 s.cells.toList)) : wpList Tryz.prog ops Q (op :: rest) a w :=
 Ycq hgd 28 x y ho b 0 s.cells hx hy hb (by rw [hc, St.size]; exact Nat.le_refl _) (by rw [St.size]; exact Ya8) s.one h
theorem Ya5 {ops : Array Oper} {rest : List Oper} {op : Oper} {a : Act} {w : World} {Q : Exit → Act → World → Prop} (s : St) (b : Nat) (hgd : op.guard = none) (x y : Operand) (ho : op.op = .store 28 x y) (hx : a.eval x = .pointer (some ⟨b, 0, none⟩)) (hy : a.eval y = .agg s.cells)
  {c : Array Value} (hb : w.heap[b]? = some (.cells c 28 (0, 0))) (hc : c.size = 17) (h : ∀ w', w.setCells b 0 s.cells.toList = w' → wpList Tryz.prog ops Q rest (a.put op.dst undef) w') : wpList Tryz.prog ops Q (op :: rest) a w :=
 Yc5 s b hgd x y ho hx hy hb hc (h _ rfl)
theorem Ykv (c : Array Value) (s : St) (hc : c.size = 17) : wr c 0 s.cells.toList = s.cells := by
 apply Array.ext_getElem?
 intro k
 have hl : s.cells.toList.length = 17 := rfl
 rw [Yfv _ _ _ _ (by rw [hl, hc]; exact Nat.le_refl _), hl]
 by_cases h : k < 17
 ·rw [if_pos (by omega), Nat.sub_zero, Array.getElem?_toList]
 ·rw [if_neg (by omega), Array.getElem?_eq_none (by omega), Array.getElem?_eq_none (by rw [St.size]; omega)]
theorem Ybk {w : World} {b : Nat} {c : Array Value} (s : St) (hb : w.heap[b]? = some (.cells c 28 (0, 0))) (hc : c.size = 17) : (w.setCells b 0 s.cells.toList).heap[b]? = some (.cells s.cells 28 (0, 0)) := by
 rw [Yag _ _ _ _ hb, Ykv c s hc]
structure Yil (s : St) (o : Opd) (w w1 : World) : Prop where
 s : w1.heap[w.heap.size]? = some (.cells s.cells 28 (0, 0))
 o : w1.heap[w.heap.size + 1]? = some (.cells #[.int .i64 o.k, .int .i64 o.r, .int .u32 o.imm, .int .i64 o.b, .int .i64 o.x, .int .u32 o.sc] 39 (0, 0))
 u : Upd [] w w1
theorem Yil.step {s : St} {o : Opd} {w w1 w2 : World} (h : Yil s o w w1) (u : Upd [] w1 w2) : Yil s o w w2 := ⟨u.get h.s (by simp), u.get h.o (by simp), h.u.also u (by simp)⟩
theorem Ype (s : St) (o : Opd) (h : o.k = 3) : (s.reg o.b + s.reg o.x * o.sc + o.imm) % 4294967296 = s.place o := by
 rw [St.place, if_pos h]
theorem Ydh (s : St) (o : Opd) (w : World) :
  Calls Tryz.prog 71 #[.agg s.cells, o.val] w fun e w' => e = .returned (.int .u32 (s.place o)) ∧ Upd [] w w' := by
 have hmo : Tryz.prog.follows .mixedOrders = true := by kernel_rfl
 unfold Opd.val
 by_cases h : o.k = 3
 ·have h1 : (o.k == 3) = true := by simpa using h
  have h2 : (o.k != 3) = false := by simpa using h
  have HV := Yh_ (Ype s o h)
  clear h
  go_enter Tryz.func71, Tryz.ntmps71
  go_wp2
  refine Yan 16 (Yil s o w) (fun _ _ => False) (by kernel_rfl) (by kernel_rfl) ⟨Ym _ (heap_alloc_new _ _), heap_alloc2_new _ _ _, (((Upd.refl _ _).alloc _).alloc _).drew⟩ (fun _ _ _ h => h.elim) ?_
  simp only [List.take_succ_cons, List.take_zero, List.drop_succ_cons, List.drop_zero]
  repeat
   apply Yu rfl rfl
   ·intro K hK w1 hB1
    have co := Ya hB1.o
    have HB := Yh_ hB1
    clear hB1
    first
    |(refine Yax s w.heap.size _ rfl rfl HB.out.s ?_; go_simp; exact hK _ HB.out)
    |(go_wp2_with (go_at_call 102; refine (Yg9 s _ _).mono ?_; rintro e w2 ⟨rfl, hu⟩)
      first
      |exact hK _ HB.out
      |exact hK _ (HB.out.step hu)
      |exact HB.out
      |exact HB.out.step hu)
   ·exact ⟨_, rfl⟩
  refine Yaf (fun _ w1 hB1 => ?_)
  have HB := Yh_ hB1
  clear hB1
  go_wp2_with fail
  go_ret
  exact ⟨by first | exact Yem (congrArg (Value.int .u32) HV.out), HB.out.u⟩
 ·have h1 : (o.k == 3) = false := by simpa using h
  have h2 : (o.k != 3) = true := by simpa using h
  have HV := Yh_ (show s.place o = 0 by rw [St.place, if_neg h])
  clear h
  go_enter Tryz.func71, Tryz.ntmps71
  go_wp2
  go_ret
  exact ⟨by rw [HV.out]; rfl, ((Upd.refl _ _).alloc _).alloc _⟩
def St.reg8 (s : St) (i : Int) : Int := if (i % 8).toNat < 4 then s.R (i % 8).toNat % 256 else s.R ((i % 8).toNat - 4) / 256 % 256
def St.setReg8 (s : St) (i v : Int) : St :=
 if (i % 8).toNat < 4 then s.setR (i % 8).toNat (s.R (i % 8).toNat / 256 * 256 + v % 256)
 else s.setR ((i % 8).toNat - 4) (s.R ((i % 8).toNat - 4) / 65536 * 65536 + v % 256 * 256 + s.R ((i % 8).toNat - 4) % 256)
theorem St.setReg8_ok {s : St} (h : s.Ok) (i v : Int) : (s.setReg8 i v).Ok := by
 unfold St.setReg8
 split
 ·have := h.R (i % 8).toNat
  exact St.setR_ok h _ (by omega) (by omega)
 ·have := h.R ((i % 8).toNat - 4)
  exact St.setR_ok h _ (by omega) (by omega)
theorem Reg8_any (s : St) (i : Int) (w : World) (hs : s.Ok) :
  Calls Tryz.prog 101 #[.agg s.cells, .int .i64 i] w fun e w' => e = .returned (.int .u32 (s.reg8 i)) ∧ Upd [] w w' := by
 obtain ⟨k, hk, hk8⟩ : ∃ k : Nat, i % 8 = k ∧ k < 8 := ⟨(i % 8).toNat, by omega, by omega⟩
 by_cases h4 : k < 4
 ·have HV := Yh_ (show s.reg8 i = s.R k % 256 by rw [St.reg8, hk, Int.toNat_natCast, if_pos h4])
  have hc := s.cR k (by omega)
  have hd : (k : Int) / 4 = 0 := by omega
  have hm : (k : Int) % 4 = k := by omega
  have hR := hs.R k
  go_enter Tryz.func101, Tryz.ntmps101
  go_wp2_with (first | (go_at_call 116; refine (Ygs _ _ 8 (by decide) (by decide)).mono ?_; rintro e w' ⟨rfl, rfl⟩; rw [show i % ((8 : Nat) : Int) = k from hk]) | (go_at_call 104; refine (Yef (s.R k) 0 8 _ hR.1 hR.2 (by decide) (by decide)).mono ?_; rintro e w' ⟨rfl, rfl⟩))
  go_ret
  refine ⟨?_, (Upd.refl _ _).alloc _⟩
  rw [HV.out]
  exact Yem (congrArg (Value.int .u32) (by simp))
 ·obtain ⟨j, hj⟩ : ∃ j, k = j + 4 := ⟨k - 4, by omega⟩
  have HV := Yh_ (show s.reg8 i = s.R j / 256 % 256 by rw [St.reg8, hk, Int.toNat_natCast, if_neg h4, hj, Nat.add_sub_cancel])
  have hc := s.cR j (by omega)
  have hd : (k : Int) / 4 = 1 := by omega
  have hm : (k : Int) % 4 = j := by omega
  have hR := hs.R j
  have hj4 : j < 4 := by omega
  clear hj
  go_enter Tryz.func101, Tryz.ntmps101
  go_wp2_with (first | (go_at_call 116; refine (Ygs _ _ 8 (by decide) (by decide)).mono ?_; rintro e w' ⟨rfl, rfl⟩; rw [show i % ((8 : Nat) : Int) = k from hk]) | (go_at_call 104; refine (Yef (s.R j) 8 8 _ hR.1 hR.2 (by decide) (by decide)).mono ?_; rintro e w' ⟨rfl, rfl⟩))
  go_ret
  refine ⟨?_, (Upd.refl _ _).alloc _⟩
  rw [HV.out]
  exact Yem (congrArg (Value.int .u32) (by simp))
theorem Yho (v : Int) (h0 : 0 ≤ v) (h1 : v < 4294967296) : bits .and .u32 v 255 = v % 256 := by
 obtain ⟨v, rfl⟩ := Int.eq_ofNat_of_zero_le h0
 have := u32_and_nat v 255 (by omega) (by decide)
 rw [nat_mask8] at this
 exact this
theorem Yhi (x k n : Nat) (hx : x < 2 ^ (k + n)) : x &&& ((2 ^ n - 1) <<< k) = x / 2 ^ k * 2 ^ k := by
 have e4 : x / 2 ^ k * 2 ^ k = (x >>> k) <<< k := by rw [Nat.shiftLeft_eq, Nat.shiftRight_eq_div_pow]
 rw [e4]
 apply Nat.eq_of_testBit_eq
 intro i
 simp only [Nat.testBit_and, Nat.testBit_shiftLeft, Nat.testBit_shiftRight, Nat.testBit_two_pow_sub_one]
 by_cases hi : k ≤ i
 ·have : k + (i - k) = i := by omega
  simp only [ge_iff_le, hi, decide_true, Bool.true_and, this]
  by_cases h32 : i - k < n
  ·simp [h32]
  ·have : x.testBit i = false := Nat.testBit_lt_two_pow (Nat.lt_of_lt_of_le hx (Nat.pow_le_pow_right (by decide) (by omega)))
   simp [this]
 ·simp [hi]
theorem Yox (x : Int) (h0 : 0 ≤ x) (h1 : x < 4294967296) : bits .andNot .u32 x 255 = x / 256 * 256 := by
 obtain ⟨x, rfl⟩ := Int.eq_ofNat_of_zero_le h0
 have h := u32_andNot_nat x 255 (by omega) (by decide)
 have e := Yhi x 8 24 (by omega)
 rw [show (2 ^ 24 - 1) <<< 8 = 4294967295 - 255 from by decide] at e
 rw [e] at h
 rw [show ((255 : Nat) : Int) = 255 from rfl] at h
 rw [h]
 omega
theorem Yot (x : Int) (h0 : 0 ≤ x) (h1 : x < 4294967296) : bits .andNot .u32 x 65280 = x / 65536 * 65536 + x % 256 := by
 obtain ⟨x, rfl⟩ := Int.eq_ofNat_of_zero_le h0
 have h := u32_andNot_nat x 65280 (by omega) (by decide)
 have e := Yhi x 16 16 (by omega)
 rw [show 4294967295 - 65280 = ((2 ^ 16 - 1) <<< 16) ||| 255 from by decide, Nat.and_or_distrib_left, e, nat_mask8, nat_join 16 _ _ (by omega) (by omega)] at h
 rw [show ((65280 : Nat) : Int) = 65280 from rfl] at h
 rw [h]
 omega
theorem or_low (x v : Int) (h0 : 0 ≤ x) (h1 : x < 4294967296) (g0 : 0 ≤ v) (g1 : v < 4294967296) : bits .or .u32 (x / 256 * 256) (v % 256) = x / 256 * 256 + v % 256 := by
 obtain ⟨x, rfl⟩ := Int.eq_ofNat_of_zero_le h0
 obtain ⟨v, rfl⟩ := Int.eq_ofNat_of_zero_le g0
 have h := u32_or_nat (x / 256 * 256) (v % 256) (by omega) (by omega)
 rw [nat_join 8 _ _ (by omega) (by omega)] at h
 have e1 : (x : Int) / 256 * 256 = ((x / 256 * 256 : Nat) : Int) := by omega
 have e2 : (v : Int) % 256 = ((v % 256 : Nat) : Int) := by omega
 rw [e1, e2, h]
 omega
theorem or_mid (x v : Int) (h0 : 0 ≤ x) (h1 : x < 4294967296) (g0 : 0 ≤ v) (g1 : v < 4294967296) : bits .or .u32 (x / 65536 * 65536 + x % 256) (v % 256 * 256) = x / 65536 * 65536 + v % 256 * 256 + x % 256 := by
 obtain ⟨x, rfl⟩ := Int.eq_ofNat_of_zero_le h0
 obtain ⟨v, rfl⟩ := Int.eq_ofNat_of_zero_le g0
 have h := u32_or_nat (x / 65536 * 65536 + x % 256) (v % 256 * 256) (by omega) (by omega)
 have q : x / 65536 * 65536 + x % 256 = x / 65536 * 65536 ||| x % 256 := (nat_join 16 _ _ (by omega) (by omega)).symm
 have q2 : x % 256 ||| v % 256 * 256 = v % 256 * 256 + x % 256 := by rw [Nat.or_comm]; exact nat_join 8 _ _ (by omega) (by omega)
 have q3 : (x / 65536 * 65536 + x % 256) ||| (v % 256 * 256) = x / 65536 * 65536 + (v % 256 * 256 + x % 256) := by
  rw [q, Nat.or_assoc, q2]
  exact nat_join 16 _ _ (by omega) (by omega)
 rw [q3] at h
 have e1 : (x : Int) / 65536 * 65536 + x % 256 = ((x / 65536 * 65536 + x % 256 : Nat) : Int) := by omega
 have e2 : (v : Int) % 256 * 256 = ((v % 256 * 256 : Nat) : Int) := by omega
 rw [e1, e2, h]
 omega
structure SetB (s : St) (w w1 : World) : Prop where
 s : w1.heap[w.heap.size]? = some (.cells s.cells 28 (0, 0))
 r : w1.heap[w.heap.size + 1]? = some (.cells St.zero.cells 28 (0, 0))
 u : Upd [] w w1
theorem Yml (s : St) (i v : Int) (w : World) (hs : s.Ok) (hv0 : 0 ≤ v) (hv1 : v < 4294967296) :
  Calls Tryz.prog 105 #[.agg s.cells, .int .i64 i, .int .u32 v] w fun e w' => e = .returned (.agg (s.setReg8 i v).cells) ∧ Upd [] w w' := by
 have hmo : Tryz.prog.follows .mixedOrders = true := by kernel_rfl
 obtain ⟨k, hk, hk8⟩ : ∃ k : Nat, i % 8 = k ∧ k < 8 := ⟨(i % 8).toNat, by omega, by omega⟩
 by_cases h4 : k < 4
 ·have hd : (k : Int) / 4 = 0 := by omega
  have hm : (k : Int) % 4 = k := by omega
  have hR := hs.R k
  have HV := Yh_ (show s.setReg8 i v = s.setR k (s.R k / 256 * 256 + v % 256) by rw [St.setReg8, hk, Int.toNat_natCast, if_pos h4])
  have e1 : bits .andNot .u32 (s.R k) 255 = s.R k / 256 * 256 := Yox _ hR.1 hR.2
  have e2 : bits .and .u32 v 255 = v % 256 := Yho _ hv0 hv1
  have e3 : bits .or .u32 (s.R k / 256 * 256) (v % 256) = s.R k / 256 * 256 + v % 256 := or_low _ _ hR.1 hR.2 hv0 hv1
  go_enter Tryz.func105, Tryz.ntmps105
  go_wp2_with (first | (go_at_call 116; refine (Ygs _ _ 8 (by decide) (by decide)).mono ?_; rintro e w' ⟨rfl, rfl⟩; rw [show i % ((8 : Nat) : Int) = k from hk]))
  refine Yan 17 (SetB s w) (fun _ _ => False) (by kernel_rfl) (by kernel_rfl) ⟨Ym _ (heap_alloc_new _ _), heap_alloc2_new _ _ _, (((Upd.refl _ _).alloc _).alloc _).drew⟩ (fun _ _ _ h => h.elim) ?_
  simp only [List.take_succ_cons, List.take_zero, List.drop_succ_cons, List.drop_zero]
  repeat
   apply Yu rfl rfl
   ·intro K hK w1 hB1
    have cs := Ya hB1.s
    have c0 := s.cR k (by omega)
    have HB := Yh_ hB1
    clear hB1
    go_wp2_with fail
    exact HB.out
   ·exact ⟨_, rfl⟩
  refine Yaf (fun _ w1 hB1 => ?_)
  have cs := Ya hB1.s
  have c0 := s.cR k (by omega)
  have fs := Yn hB1.s
  have HB := Yh_ hB1
  have h1 := Yh hB1.s k (.int .u32 (s.R k / 256 * 256 + v % 256))
  rw [St.cells_setR s k _ (by omega)] at h1
  have H1 := Yh_ h1
  have H2 := Yh_ (Yg (a := ⟨w.heap.size, k, none⟩) (.int .u32 (s.R k / 256 * 256 + v % 256)) (by simp) hB1.r)
  clear hB1 h1
  go_wp2_with (first | (refine Yae (s.setR k (s.R k / 256 * 256 + v % 256)) w.heap.size rfl _ rfl rfl H1.out ?_) | (refine Yc5 (s.setR k (s.R k / 256 * 256 + v % 256)) (w.heap.size + 1) rfl _ _ rfl rfl rfl H2.out rfl ?_))
  refine bodyPost_ret (Yf rfl (Ybe 6 28 (w.heap.size + 1) _ _ rfl (Ybk _ H2.out rfl) Tryz.underlying28 rfl (by rw [St.size]; exact Ya8))) rfl ⟨by rw [HV.out], ?_⟩
  exact (HB.out.u.setCell (by simp) _).setCells (by simp) _ _
 ·obtain ⟨j, hj⟩ : ∃ j, k = j + 4 := ⟨k - 4, by omega⟩
  have hd : (k : Int) / 4 = 1 := by omega
  have hm : (k : Int) % 4 = j := by omega
  have hR := hs.R j
  have HV := Yh_ (show s.setReg8 i v = s.setR j (s.R j / 65536 * 65536 + v % 256 * 256 + s.R j % 256) by rw [St.setReg8, hk, Int.toNat_natCast, if_neg h4, hj, Nat.add_sub_cancel])
  have hj4 : j < 4 := by omega
  have e1 : bits .andNot .u32 (s.R j) 65280 = s.R j / 65536 * 65536 + s.R j % 256 := Yot _ hR.1 hR.2
  have e2 : bits .and .u32 v 255 = v % 256 := Yho _ hv0 hv1
  have e3 : bits .or .u32 (s.R j / 65536 * 65536 + s.R j % 256) (v % 256 * 256) = s.R j / 65536 * 65536 + v % 256 * 256 + s.R j % 256 := or_mid _ _ hR.1 hR.2 hv0 hv1
  clear hj
  go_enter Tryz.func105, Tryz.ntmps105
  go_wp2_with (first | (go_at_call 116; refine (Ygs _ _ 8 (by decide) (by decide)).mono ?_; rintro e w' ⟨rfl, rfl⟩; rw [show i % ((8 : Nat) : Int) = k from hk]))
  refine Yan 17 (SetB s w) (fun _ _ => False) (by kernel_rfl) (by kernel_rfl) ⟨Ym _ (heap_alloc_new _ _), heap_alloc2_new _ _ _, (((Upd.refl _ _).alloc _).alloc _).drew⟩ (fun _ _ _ h => h.elim) ?_
  simp only [List.take_succ_cons, List.take_zero, List.drop_succ_cons, List.drop_zero]
  repeat
   apply Yu rfl rfl
   ·intro K hK w1 hB1
    have cs := Ya hB1.s
    have c0 := s.cR j (by omega)
    have HB := Yh_ hB1
    clear hB1
    go_wp2_with fail
    exact HB.out
   ·exact ⟨_, rfl⟩
  refine Yaf (fun _ w1 hB1 => ?_)
  have cs := Ya hB1.s
  have c0 := s.cR j (by omega)
  have fs := Yn hB1.s
  have HB := Yh_ hB1
  have h1 := Yh hB1.s j (.int .u32 (s.R j / 65536 * 65536 + v % 256 * 256 + s.R j % 256))
  rw [St.cells_setR s j _ (by omega)] at h1
  have H1 := Yh_ h1
  have H2 := Yh_ (Yg (a := ⟨w.heap.size, j, none⟩) (.int .u32 (s.R j / 65536 * 65536 + v % 256 * 256 + s.R j % 256)) (by simp) hB1.r)
  clear hB1 h1
  go_wp2_with (first | (refine Yae (s.setR j (s.R j / 65536 * 65536 + v % 256 * 256 + s.R j % 256)) w.heap.size rfl _ rfl rfl H1.out ?_) | (refine Yc5 (s.setR j (s.R j / 65536 * 65536 + v % 256 * 256 + s.R j % 256)) (w.heap.size + 1) rfl _ _ rfl rfl rfl H2.out rfl ?_))
  refine bodyPost_ret (Yf rfl (Ybe 6 28 (w.heap.size + 1) _ _ rfl (Ybk _ H2.out rfl) Tryz.underlying28 rfl (by rw [St.size]; exact Ya8))) rfl ⟨by rw [HV.out], ?_⟩
  exact (HB.out.u.setCell (by simp) _).setCells (by simp) _ _
structure Yin (M : Mem) (a pb : Nat) (w : World) (w1 : World) : Prop where
 f : w1.heap[w.heap.size]? = some (.cells #[.int .i64 0, .int .u32 0, .int .u32 0, .int .i64 0] 35 (0, 0))
 k : w1.heap[w.heap.size + 1]? = some (.cells #[.bool false] 4 (0, 0))
 m : Yk w1 a pb M
 u : Upd [pb] w w1
 al : a < w.heap.size
 pl : pb < w.heap.size
structure Yhb (M : Mem) (a pb : Nat) (w : World) (g : Nat) (cur : Array Value) (w1 : World) : Prop where
 f : w1.heap[w.heap.size]? = some (.cells #[.int .i64 0, .int .u32 0, .int .u32 0, .int .i64 0] 35 (0, 0))
 k : w1.heap[w.heap.size + 1]? = some (.cells #[.bool false] 4 (0, 0))
 m : Yk w1 a pb M
 u : Upd [pb] w w1
 g : w1.heap[g]? = some (.cells cur 90 (0, 0))
theorem Yhb.store {M : Mem} {a pb : Nat} {w w1 : World} {g : Nat} {cur : Array Value} (h : Yhb M a pb w g cur w1) (ha : a < w.heap.size) (hp : pb < w.heap.size) (hg : w.heap.size ≤ g) {y : Int} (h0 : 0 ≤ y) (h1 : y < 16384) {b : Int} (hb0 : 0 ≤ b) (hb1 : b ≤ 255) :
  Yhb (M.setB y.toNat b) a pb w g cur (w1.setCell ⟨pb, Ycx y, none⟩ (.int .u8 b)) :=
 ⟨Yg _ (by simp <;> omega) h.f, Yg _ (by simp <;> omega) h.k, h.m.store h0 h1 hb0 hb1, h.u.setCell (by simp) _, Yg _ (by simp <;> omega) h.g⟩
def Mem.putN (M : Mem) (x v : Int) : Nat → Mem
 |0 => M
 |j + 1 => (M.putN x v j).setB (Yac x j).toNat (v / 2 ^ (8 * j) % 256)
theorem Mem.putN_R (M : Mem) (x v : Int) : ∀ j, (M.putN x v j).R = M.R
 |0 => rfl
 |j + 1 => Mem.putN_R M x v j
def ptrs (pb : Nat) (x : Int) (j : Nat) : List Value := (List.range j).map fun t => .pointer (some ⟨pb, Ycx (Yac x t), none⟩)
theorem Ypk (pb : Nat) (x : Int) (j : Nat) : ptrs pb x (j + 1) = ptrs pb x j ++ [.pointer (some ⟨pb, Ycx (Yac x j), none⟩)] := by
 simp [ptrs, List.range_succ]
theorem ptrs_get (pb : Nat) (x : Int) (n j : Nat) (hj : j < n) : (ptrs pb x n)[j]? = some (.pointer (some ⟨pb, Ycx (Yac x j), none⟩)) := by
 simp [ptrs, hj]
theorem info_pu8 : (Tryz.prog.info? 90).map (fun i => (i.zero, i.size, i.bytes)) = some (some (.pointer none), 1, 8) := by kernel_rfl
theorem Yg5 (tmps : Array Value) (fb kb : Nat) (y0 y1 y2 y3 : Int) (k : Bool) (w : World) (h8 : tmps.getD 8 undef = .pointer (some ⟨fb, 0, none⟩)) (h9 : tmps.getD 9 undef = .pointer (some ⟨kb, 0, none⟩))
  (hf : w.heap[fb]? = some (.cells #[.int .i64 y0, .int .u32 y1, .int .u32 y2, .int .i64 y3] 35 (0, 0))) (hk : w.heap[kb]? = some (.cells #[.bool k] 4 (0, 0))) :
  (results Tryz.f16 tmps).run Tryz.prog w = .ok (.tuple #[.agg #[.int .i64 y0, .int .u32 y1, .int .u32 y2, .int .i64 y3], .bool k]) w := by
 have cf : ∀ o, w.cell? ⟨fb, o, none⟩ = #[.int .i64 y0, .int .u32 y1, .int .u32 y2, .int .i64 y3][o]? := Ya hf
 have ck : ∀ o, w.cell? ⟨kb, o, none⟩ = #[.bool k][o]? := Ya hk
 rw [Array.getD_eq_getD_getElem?] at h8 h9
 simp [results, Tryz.results16, go_sem, h8, h9, cf, ck]
def Yh2 (w : World) : List Deferred :=
 [{ target := .fn (.func 33) #[], args := #[.pointer (some ⟨w.heap.size, 0, none⟩), .pointer (some ⟨w.heap.size + 1, 0, none⟩)] }]
theorem Yib (M : Mem) (a pb : Nat) (w w1 : World) (y r : Int) (tmps : Array Value) (R : Ending → World → Prop) (h8 : tmps.getD 8 undef = .pointer (some ⟨w.heap.size, 0, none⟩)) (h9 : tmps.getD 9 undef = .pointer (some ⟨w.heap.size + 1, 0, none⟩)) (hB : Yin M a pb w w1)
  (hR : ∀ w', Upd [pb] w w' → Yk w' a pb M → R (.returned (.tuple #[Ycd y r, .bool false])) w') :
  Leaves Tryz.prog Tryz.f16 tmps R (Yh2 w) (.panicking [{ v := .iface 35 (Ycd y r), recovered := false }]) w1 := by
 have hal := hB.al
 have hpl := hB.pl
 refine leaves_cons (f := 33) (args := #[.pointer (some ⟨w.heap.size, 0, none⟩), .pointer (some ⟨w.heap.size + 1, 0, none⟩)]) (by simp) (by simp [go_sem]) ?_
 refine (Yfp _ _ _ _ _ _ _ _ _ _ _ [] w1 hB.f hB.k (by omega)).mono ?_
 rintro e u' w2 ⟨rfl, rfl, hf, hk, hU⟩
 simp only [settle, List.dropWhile_nil]
 exact ⟨_, Yg5 _ _ _ _ _ _ _ _ w2 h8 h9 hf hk, hR _ (hB.u.also hU (by simp <;> omega)) (hB.m.keep hU (by simp <;> omega) (by simp <;> omega))⟩
theorem Yi8 (w w1 : World) (tmps : Array Value) (R : Ending → World → Prop) (h8 : tmps.getD 8 undef = .pointer (some ⟨w.heap.size, 0, none⟩)) (h9 : tmps.getD 9 undef = .pointer (some ⟨w.heap.size + 1, 0, none⟩))
  (hf : w1.heap[w.heap.size]? = some (.cells #[.int .i64 0, .int .u32 0, .int .u32 0, .int .i64 0] 35 (0, 0)))
  (hk : w1.heap[w.heap.size + 1]? = some (.cells #[.bool true] 4 (0, 0)))
  (hR : R (.returned (.tuple #[.agg #[.int .i64 0, .int .u32 0, .int .u32 0, .int .i64 0], .bool true])) w1) :
  Leaves Tryz.prog Tryz.f16 tmps R (Yh2 w) .returning w1 := by
 refine leaves_cons (f := 33) (args := #[.pointer (some ⟨w.heap.size, 0, none⟩), .pointer (some ⟨w.heap.size + 1, 0, none⟩)]) (by simp) (by simp [go_sem]) ?_
 refine (Yhy _ _ w1).mono ?_
 rintro e u' w2 ⟨rfl, rfl, rfl⟩
 simp only [settle]
 exact ⟨_, Yg5 _ _ _ _ _ _ _ _ w1 h8 h9 hf hk, hR⟩
def Mem.writeF (M : Mem) (x bytes : Int) : Value :=
 match M.bad x 2 (Yau bytes).toNat with | none => .agg #[.int .i64 0, .int .u32 0, .int .u32 0, .int .i64 0] | some i => Ycd (Yac x i) 2
def Mem.writeK (M : Mem) (x bytes : Int) : Bool := (M.bad x 2 (Yau bytes).toNat).isNone
def Mem.writeM (M : Mem) (x bytes v : Int) : Mem :=
 match M.bad x 2 (Yau bytes).toNat with | none => M.putN x v (Yau bytes).toNat | some _ => M
theorem Yf1 (M : Mem) (a pb : Nat) (x bytes v : Int) (w : World) (hM : Yk w a pb M) (h0 : 0 ≤ x) (h1 : x < 4294967296) (hv0 : 0 ≤ v) (hv1 : v < 4294967296) :
  Calls Tryz.prog 16 #[.pointer (some ⟨a, 0, none⟩), .int .u32 x, .int .i64 bytes, .int .u32 v] w fun e w' =>
   e = .returned (.tuple #[M.writeF x bytes, .bool (M.writeK x bytes)]) ∧ Yk w' a pb (M.writeM x bytes v) ∧ Upd [pb] w w' := by
 have hal := hM.al
 have hpl := hM.pl
 have hw3 := Ygb bytes
 obtain ⟨n, hn⟩ : ∃ n : Nat, Yau bytes = n := ⟨(Yau bytes).toNat, by omega⟩
 have HN := Yh_ hn
 have hn4 : n ≤ 4 := by omega
 have hn0 : 0 < n := by omega
 clear hw3 hn
 obtain ⟨i0, hi, hz0, hz1, hz2⟩ := info_parts info_pu8
 have HI := Yh_ (And.intro hi (And.intro hz0 (And.intro hz1 hz2)))
 clear hi hz0 hz1 hz2
 have hfinP : ∀ (j : Nat) (w' : World), j < n → (∀ t, t < j → M.can (Yac x t) 2 = true) → M.can (Yac x j) 2 = false → Upd [pb] w w' → Yk w' a pb M →
   (fun e w' => e = Ending.returned (.tuple #[M.writeF x bytes, .bool (M.writeK x bytes)]) ∧ Yk w' a pb (M.writeM x bytes v) ∧ Upd [pb] w w') (.returned (.tuple #[Ycd (Yac x j) 2, .bool false])) w' := by
  intro j w' hj hc hb hU hm
  have hbad := Yjz M x 2 n j hj hc hb
  simp only [Mem.writeF, Mem.writeK, Mem.writeM, HN.out, Int.toNat_natCast, hbad]
  exact ⟨rfl, hm, hU⟩
 have HFP := Yh_ hfinP
 clear hfinP
 have hfinK : ∀ (w' : World), (∀ t, t < n → M.can (Yac x t) 2 = true) → Upd [pb] w w' → Yk w' a pb (M.putN x v n) →
   (fun e w' => e = Ending.returned (.tuple #[M.writeF x bytes, .bool (M.writeK x bytes)]) ∧ Yk w' a pb (M.writeM x bytes v) ∧ Upd [pb] w w') (.returned (.tuple #[.agg #[.int .i64 0, .int .u32 0, .int .u32 0, .int .i64 0], .bool true])) w' := by
  intro w' hc hU hm
  have hbad := Yh9 M x 2 n hc
  simp only [Mem.writeF, Mem.writeK, Mem.writeM, HN.out, Int.toNat_natCast, hbad]
  exact ⟨rfl, hm, hU⟩
 have HFK := Yh_ hfinK
 clear hfinK
 have hstart : Yin M a pb w ((w.alloc (Obj.cells #[Value.int IntKind.i64 0, Value.int IntKind.u32 0, Value.int IntKind.u32 0, Value.int IntKind.i64 0] 35)).alloc (Obj.cells #[Value.bool false] 4)) := by
  refine ⟨heap_alloc2_old _ _ _, heap_alloc2_new _ _ _, ?_, ?_, hal, hpl⟩
  ·exact hM.keep (S := []) (((Upd.refl _ _).alloc _).alloc _) (by simp) (by simp)
  ·exact ((Upd.refl _ _).alloc _).alloc _
 have HS := Yh_ hstart
 clear hstart hM
 go_enter_defers Tryz.func16, Tryz.ntmps16
 go_wp2_with (go_at_call 34; refine (Yf2 bytes _).mono ?_; rintro e w' ⟨rfl, rfl⟩; rw [HN.out])
 go_loopw [10, 11, 16] (fun s _ i wr => ∃ j : Nat, j ≤ n ∧ i = .int .i64 j ∧ (∀ t, t < j → M.can (Yac x t) 2 = true) ∧ Yin M a pb w wr ∧ wr.ownsRow (w.heap.size + 2) 90 1 s j (ptrs pb x j) ∧ w.heap.size + 2 ≤ wr.heap.size) (fun _ _ i _ => n - (intOf i).toNat)
 case atStart => exact ⟨0, Nat.zero_le _, rfl, by simp, HS.out, World.ownsRow_nil _ _ _ _, by simp⟩
 case round =>
  obtain ⟨j, hj, rfl, hcan, hB, hown, hsz⟩ := hrel
  have HC := Yh_ hcan
  have HB := Yh_ hB
  have HO := Yh_ hown
  clear hcan hB hown
  by_cases hlt : j < n
  ·cases hb : M.can (Yac x j) 2
   ·have HBad := Yh_ hb
    clear hb
    go_wp2_with (go_at_call 35; refine (Yis a pb (Yac x j) _ _ M HB.out.m (Ybd x j) HBad.out).mono ?_; rintro e w2 ⟨rfl, rfl⟩)
    exact Yib M a pb w wr _ _ _ _ rfl rfl HB.out (fun w' hU hm => HFP.out j w' hlt HC.out HBad.out hU hm)
   ·have HGood := Yh_ hb
    clear hb
    go_wp2_with (first | (go_at_call 35; refine (at_ok a pb (Yac x j) _ _ M HB.out.m (Ybd x j) HGood.out).mono ?_; rintro e w2 ⟨rfl, rfl⟩) | (at_builtin; refine wpList_append_own _ rfl _ _ 88 rfl (w.heap.size + 2) 90 i0 (.pointer none) 1 8 Tryz.underlying88 HI.out.1 HI.out.2.1 HI.out.2.2.1 HI.out.2.2.2 rfl (by decide) _ _ _ rfl (HO.out.alloc _) ⟨wr.heap.size, 0, none⟩ 1 1 [.pointer (some ⟨pb, Ycx (Yac x j), none⟩)] rfl rfl ?_ ?_ ?_ ?_ ?_ ?_))
    ·intro t u hu
     rcases t with _ | t
     ·simp only [List.getElem?_cons_zero, Option.some.injEq] at hu
      subst hu
      rw [Addr.add_mid, Ya (heap_alloc_new _ _)]
      rfl
     ·simp at hu
    ·intro u hu
     simp only [List.mem_singleton] at hu
     subst hu; rfl
    ·unfold maxLen; omega
    ·omega
    ·simp; omega
    ·intro v' w1 hown' hgrow _
     have hU1 := Upd.of_grown hgrow
     have hB' : Yin M a pb w w1 := by
      have hlt' := HO.out.lt
      have hU2 : Upd u10.ownBlock.toList wr w1 := ((Upd.refl [] wr).alloc _).trans hU1 (by simp) (fun z hz => .inl hz)
      have hne : ∀ z, z ∈ u10.ownBlock.toList → w.heap.size + 2 ≤ z := fun z hz => (hlt' z (by simpa using hz)).1
      have hal := HB.out.al
      have hpl := HB.out.pl
      exact ⟨hU2.get HB.out.f (fun h => by have := hne _ h; omega), hU2.get HB.out.k (fun h => by have := hne _ h; omega), HB.out.m.keep hU2 (fun h => by have := hne _ h; omega) (fun h => by have := hne _ h; omega), HB.out.u.also hU2 (fun z hz => .inr (by have := hne z hz; omega)), hal, hpl⟩
     have hsz' := hgrow.size
     have HB' := Yh_ hB'
     have HO' := Yh_ hown'
     have HS' := Yh_ hsz'
     clear hB' hown' hgrow hU1 hsz'
     go_wp2_with fail
     go_roundw
     case rel => exact ⟨j + 1, by omega, by go_num, fun t ht => by
       by_cases e : t = j
       ·subst e; exact HGood.out
       ·exact HC.out t (by omega), HB'.out, by rw [Ypk]; exact HO'.out, by have := HS'.out; simp at this; omega⟩
     case measure => simp [intOf]; omega
  ·have e : j = n := by omega
   obtain ⟨hl, ⟨_, h⟩ | ⟨g, cap, cur, rfl, hg, hh, hc1, hc2, hc3, hc4⟩⟩ := HO.out
   ·omega
   ·subst e
    have hcell : ∀ t, t < j → cur[t]? = some (.pointer (some ⟨pb, Ycx (Yac x t), none⟩)) := fun t ht => by
     have := ptrs_get pb x j t ht
     rw [← hc4, List.getElem?_take, if_pos (by omega), Array.getElem?_toList] at this
     exact this
    have HCell := Yh_ hcell
    have hstart2 : Yhb (M.putN x v 0) a pb w g cur wr := ⟨HB.out.f, HB.out.k, HB.out.m, HB.out.u, hh⟩
    have HS2 := Yh_ hstart2
    clear hh hcell hl hstart2 hc3 hc4 HO hsz
    go_wp2_with fail
    go_loopw [12, 13, 31] (fun _ _ i wr => ∃ t : Nat, t ≤ j ∧ i = .int .i64 t ∧ Yhb (M.putN x v t) a pb w g cur wr) (fun _ _ i _ => j - (intOf i).toNat)
    case atStart => exact ⟨0, Nat.zero_le _, rfl, HS2.out⟩
    case round =>
     obtain ⟨t, ht, rfl, hB2⟩ := hrel
     have HB2 := Yh_ hB2
     clear hB2
     by_cases hlt2 : t < j
     ·have cg : wr.cell? ⟨g, t, none⟩ = some (.pointer (some ⟨pb, Ycx (Yac x t), none⟩)) := by rw [Ya HB2.out.g]; exact HCell.out t hlt2
      have hx := Yih (Ybd x t) (HC.out t hlt2)
      have cb := HB2.out.m.cbyte _ (Ybd x t) hx
      have fb : ∀ o, wr.frozen? ⟨pb, o, none⟩ = false := HB2.out.m.free
      go_wp2_with fail
      go_roundw
      case rel => exact ⟨t + 1, by omega, by go_num, HB2.out.store hal hpl (by omega) (Ybd x t) hx (by omega) (by omega)⟩
      case measure => simp [intOf]; omega
     ·have e2 : t = j := by omega
      subst e2
      have cf : ∀ o, wr.cell? ⟨w.heap.size, o, none⟩ = #[.int .i64 0, .int .u32 0, .int .u32 0, .int .i64 0][o]? := Ya HB2.out.f
      have ff : ∀ o, wr.frozen? ⟨w.heap.size, o, none⟩ = false := Yn HB2.out.f
      have ck : ∀ o, wr.cell? ⟨w.heap.size + 1, o, none⟩ = #[.bool false][o]? := Ya HB2.out.k
      have fk : ∀ o, wr.frozen? ⟨w.heap.size + 1, o, none⟩ = false := Yn HB2.out.k
      go_wp2_with fail
      refine Yi8 w _ _ _ rfl rfl ?_ ?_ (HFK.out _ HC.out ?_ ?_)
      ·refine Yg _ (by simp) ?_
       have h := Yh (Yh (Yh (Yh HB2.out.f 0 (.int .i64 0)) 1 (.int .u32 0)) 2 (.int .u32 0)) 3 (.int .i64 0)
       exact h
      ·exact Yh (Yg _ (by simp) (Yg _ (by simp) (Yg _ (by simp) (Yg _ (by simp) HB2.out.k)))) 0 _
      ·exact ((((HB2.out.u.setCell (by simp) _).setCell (by simp) _).setCell (by simp) _).setCell (by simp) _).setCell (by simp) _
      ·exact HB2.out.m.keep (S := [w.heap.size, w.heap.size + 1]) (((((Upd.refl _ _).setCell (by simp) _).setCell (by simp) _).setCell (by simp) _).setCell (by simp) _ |>.setCell (by simp) _) (by simp <;> omega) (by simp <;> omega)
theorem Ybx : (Tryz.prog.info? 35).map (·.size) = some 4 := by kernel_rfl
theorem Ycu {w : World} {b : Nat} {t : TypeId} {a0 a1 a2 a3 : Value} (h : w.heap[b]? = some (.cells #[a0, a1, a2, a3] t (0, 0))) (u0 u1 u2 u3 : Value) :
  ((((w.setCell ⟨b, 0, none⟩ u0).setCell ⟨b, 0 + 1, none⟩ u1).setCell ⟨b, 0 + 2, none⟩ u2).setCell ⟨b, 0 + 3, none⟩ u3).heap[b]? = some (.cells #[u0, u1, u2, u3] t (0, 0)) :=
 Yh (Yh (Yh (Yh h 0 u0) 1 u1) 2 u2) 3 u3
theorem Ya0 {S : List Nat} {w0 w : World} {b : Nat} (h : Upd S w0 w) (hb : b ∈ S ∨ w0.heap.size ≤ b) (u0 u1 u2 u3 : Value) :
  Upd S w0 ((((w.setCell ⟨b, 0, none⟩ u0).setCell ⟨b, 0 + 1, none⟩ u1).setCell ⟨b, 0 + 2, none⟩ u2).setCell ⟨b, 0 + 3, none⟩ u3) :=
 (((h.setCell (p := ⟨b, 0, none⟩) hb _).setCell (p := ⟨b, 0 + 1, none⟩) hb _).setCell (p := ⟨b, 0 + 2, none⟩) hb _).setCell (p := ⟨b, 0 + 3, none⟩) hb _
structure Flt where
 k : Int
 pc : Int
 a : Int
 wt : Int
 deriving DecidableEq
def Flt.cells (f : Flt) : Array Value := #[.int .i64 f.k, .int .u32 f.pc, .int .u32 f.a, .int .i64 f.wt]
def Flt.val (f : Flt) : Value := .agg #[.int .i64 f.k, .int .u32 f.pc, .int .u32 f.a, .int .i64 f.wt]
def Flt.zero : Flt := ⟨0, 0, 0, 0⟩
def Mem.rdF (M : Mem) (x bytes right : Int) : Flt := match M.bad x (Ybn right) (Yau bytes).toNat with | none => Flt.zero | some i => ⟨1, 0, Yac x i, Ybn right⟩
def Mem.wrF (M : Mem) (x bytes : Int) : Flt := match M.bad x 2 (Yau bytes).toNat with | none => Flt.zero | some i => ⟨1, 0, Yac x i, 2⟩
theorem Mem.readF_val (M : Mem) (x bytes right : Int) : M.readF x bytes right = (M.rdF x bytes right).val := by
 unfold Mem.readF Mem.rdF; cases M.bad x (Ybn right) (Yau bytes).toNat <;> rfl
theorem Mem.writeF_val (M : Mem) (x bytes : Int) : M.writeF x bytes = (M.wrF x bytes).val := by
 unfold Mem.writeF Mem.wrF; cases M.bad x 2 (Yau bytes).toNat <;> rfl
def lowI (l : Int) : Int := bits .and .i64 l (wrap64 (-l))
def Mem.rightAt (M : Mem) (x : Int) : Int := if x < 16384 then M.R (x / 256).toNat else 0
def Mem.lack (M : Mem) (x r : Int) : Int := lowI (bits .andNot .i64 r (M.rightAt x))
theorem Yeq {tmps : Array Value} {w : World} (a : Tmp) (b : Nat) (k : Bool) (ha : tmps.getD a undef = .pointer (some ⟨b, 0, none⟩)) (hb : w.heap[b]? = some (.cells #[.bool k] 4 (0, 0))) : (Ybt tmps (.cell a 4)).run Tryz.prog w = .ok (.bool k) w := by
 have hc : w.cell? ⟨b, 0, none⟩ = some (.bool k) := by rw [Ya hb]; rfl
 simp only [Ybt, Sem.run_bind, ha]
 simp [asAddr, go_sem, hc]
theorem Ydf {tmps : Array Value} {w : World} (a : Tmp) (b : Nat) (F : Flt) (ha : tmps.getD a undef = .pointer (some ⟨b, 0, none⟩)) (hb : w.heap[b]? = some (.cells #[.int .i64 F.k, .int .u32 F.pc, .int .u32 F.a, .int .i64 F.wt] 35 (0, 0))) :
  (Ybt tmps (.cell a 35)).run Tryz.prog w = .ok F.val w :=
 Ybe a 35 b _ _ ha hb Tryz.underlying35 rfl Ybx
def Mem.canBad (M : Mem) (x : Int) (n : Nat) (r : Int) : Option Nat := (List.range n).find? fun i => M.lack (Yac x i) r != 0
def Mem.canF (M : Mem) (x : Int) (n : Nat) (r : Int) : Flt := match M.canBad x n r with | none => Flt.zero | some i => ⟨1, 0, Yac x i, M.lack (Yac x i) r⟩
def Mem.canK (M : Mem) (x : Int) (n : Nat) (r : Int) : Bool := (M.canBad x n r).isNone
theorem Ynm (M : Mem) (x : Int) (n : Nat) (r : Int) (j : Nat) (hj : j < n) (hc : ∀ t, t < j → M.lack (Yac x t) r = 0) (hb : M.lack (Yac x j) r ≠ 0) : M.canBad x n r = some j := by
 rw [Mem.canBad, List.find?_range_eq_some]
 exact ⟨by simpa using hb, by simpa using hj, fun t ht => by simp [hc t ht]⟩
theorem Ym6 (M : Mem) (x : Int) (n : Nat) (r : Int) (hc : ∀ t, t < n → M.lack (Yac x t) r = 0) : M.canBad x n r = none := by
 rw [Mem.canBad, List.find?_eq_none]
 intro t ht
 simp [hc t (List.mem_range.1 ht)]
theorem find?_isNone {p : Nat → Bool} {n : Nat} : ((List.range n).find? p).isNone = true ↔ ∀ t, t < n → p t = false := by
 rw [Option.isNone_iff_eq_none, List.find?_eq_none]
 constructor
 ·intro h t ht
  have := h t (List.mem_range.2 ht)
  simpa using this
 ·intro h t ht
  simp [h t (List.mem_range.1 ht)]
theorem canK_iff (M : Mem) (x : Int) (n : Nat) (r : Int) : M.canK x n r = true ↔ ∀ t, t < n → M.lack (Yac x t) r = 0 := by
 rw [Mem.canK, Mem.canBad, find?_isNone]
 simp
theorem Yiv (M : Mem) (x : Int) (n : Nat) (r : Int) : M.bad x r n = none ↔ ∀ t, t < n → M.can (Yac x t) r = true := by
 rw [← Option.isNone_iff_eq_none, Mem.bad, find?_isNone]
 simp
def wd (b : Int) : Int := if b = 1 then 1 else 4
def opV (M : Mem) (s : St) (o : Opd) (b : Int) : Int :=
 if o.k = 1 then (if b = 1 then s.reg8 o.r else s.R (o.r % 8).toNat) else if o.k = 2 then o.imm % 2 ^ (8 * wd b).toNat else if o.k = 3 then M.readV (s.place o) (wd b) 1 else 0
def opF (M : Mem) (s : St) (o : Opd) (b : Int) : Flt := if o.k = 3 then M.rdF (s.place o) (wd b) 1 else Flt.zero
def opK (M : Mem) (s : St) (o : Opd) (b : Int) : Bool := if o.k = 3 then M.readK (s.place o) (wd b) 1 else true
theorem Ydd (s : St) (o : Opd) : 0 ≤ s.place o ∧ s.place o < 4294967296 := by
 unfold St.place; split <;> omega
structure RdB (s : St) (o : Opd) (w w1 : World) : Prop where
 s : w1.heap[w.heap.size]? = some (.cells s.cells 28 (0, 0))
 o : w1.heap[w.heap.size + 1]? = some (.cells #[.int .i64 o.k, .int .i64 o.r, .int .u32 o.imm, .int .i64 o.b, .int .i64 o.x, .int .u32 o.sc] 39 (0, 0))
 f : w1.heap[w.heap.size + 1 + 1]? = some (.cells #[.int .i64 0, .int .u32 0, .int .u32 0, .int .i64 0] 35 (0, 0))
 u : Upd [] w w1
theorem RdB.step {s : St} {o : Opd} {w w1 w2 : World} (h : RdB s o w w1) (u : Upd [] w1 w2) : RdB s o w w2 := ⟨u.get h.s (by simp), u.get h.o (by simp), u.get h.f (by simp), h.u.also u (by simp)⟩
theorem RdB.start (s : St) (o : Opd) (w : World) : RdB s o w (((w.alloc (.cells s.cells 28)).alloc (.cells #[.int .i64 o.k, .int .i64 o.r, .int .u32 o.imm, .int .i64 o.b, .int .i64 o.x, .int .u32 o.sc] 39)).alloc (.cells #[.int .i64 0, .int .u32 0, .int .u32 0, .int .i64 0] 35)) := by
 refine ⟨Ym _ (Ym _ (heap_alloc_new _ _)), Ym _ (heap_alloc2_new _ _ _), ?_, (((Upd.refl _ _).alloc _).alloc _).alloc _⟩
 have := heap_alloc2_new (w.alloc (.cells s.cells 28)) (.cells #[.int .i64 o.k, .int .i64 o.r, .int .u32 o.imm, .int .i64 o.b, .int .i64 o.x, .int .u32 o.sc] 39) (.cells #[.int .i64 0, .int .u32 0, .int .u32 0, .int .i64 0] 35)
 rw [World.size_alloc] at this
 exact this
theorem RdB.zero {s : St} {o : Opd} {w w1 : World} (h : RdB s o w w1) : RdB s o w ((((w1.setCell ⟨w.heap.size + 1 + 1, 0, none⟩ (.int .i64 0)).setCell ⟨w.heap.size + 1 + 1, 0 + 1, none⟩ (.int .u32 0)).setCell ⟨w.heap.size + 1 + 1, 0 + 2, none⟩ (.int .u32 0)).setCell ⟨w.heap.size + 1 + 1, 0 + 3, none⟩ (.int .i64 0)) :=
 have U := Ya0 (S := [w.heap.size + 1 + 1]) (Upd.refl _ w1) (.inl (by simp)) (.int .i64 0) (.int .u32 0) (.int .u32 0) (.int .i64 0)
 ⟨U.get h.s (by simp <;> omega), U.get h.o (by simp), Ycu h.f _ _ _ _, Ya0 h.u (.inr (by omega)) _ _ _ _⟩
theorem Ymp (M : Mem) (a pb : Nat) (s : St) (o : Opd) (b : Int) (w : World) (hM : Yk w a pb M) (hs : s.Ok) (ho : o.Ok) (h1 : o.k = 1) (hb : b = 1) :
  Calls Tryz.prog 64 #[.pointer (some ⟨a, 0, none⟩), .agg s.cells, o.val, .int .i64 b] w fun e w' => e = .returned (.tuple #[.int .u32 (opV M s o b), (opF M s o b).val, .bool (opK M s o b)]) ∧ Upd [] w w' := by
 have hmo : Tryz.prog.follows .mixedOrders = true := by kernel_rfl
 have HB := Yh_ (RdB.start s o w)
 have HM := Yh_ hM
 have HS := Yh_ hs
 have HO := Yh_ ho
 clear hM hs ho
 unfold Opd.val
 have e1 : (o.k == 1) = true := by simpa using h1
 subst hb
 have HV := Yh_ (show opV M s o 1 = s.reg8 o.r by rw [opV, if_pos h1, if_pos rfl])
 have HF := Yh_ (show opF M s o 1 = Flt.zero by rw [opF, if_neg (by omega)])
 have HK := Yh_ (show opK M s o 1 = true by rw [opK, if_neg (by omega)])
 clear h1
 go_enter Tryz.func64, Tryz.ntmps64
 go_wp2_with (first | (refine Yae s w.heap.size rfl _ rfl rfl HB.out.s ?_) | (go_at_call 101; refine (Reg8_any s _ _ HS.out).mono ?_; rintro e w2 ⟨rfl, hu⟩; have H2 := Yh_ (HB.out.step hu); have ff := Yn H2.out.f; have cf := Ya H2.out.f; clear hu))
 refine bodyPost_ret (Yao rfl (Yal _ rfl) (Ybe 9 35 (w.heap.size + 1 + 1) _ _ rfl H2.out.zero.f Tryz.underlying35 rfl Ybx) (Yal _ rfl)) rfl ⟨?_, H2.out.zero.u⟩
 rw [HV.out, HF.out, HK.out]
 rfl
theorem Ym9 (M : Mem) (a pb : Nat) (s : St) (o : Opd) (b : Int) (w : World) (hM : Yk w a pb M) (hs : s.Ok) (ho : o.Ok) (h1 : o.k = 1) (hb : b ≠ 1) :
  Calls Tryz.prog 64 #[.pointer (some ⟨a, 0, none⟩), .agg s.cells, o.val, .int .i64 b] w fun e w' => e = .returned (.tuple #[.int .u32 (opV M s o b), (opF M s o b).val, .bool (opK M s o b)]) ∧ Upd [] w w' := by
 have hmo : Tryz.prog.follows .mixedOrders = true := by kernel_rfl
 have HB := Yh_ (RdB.start s o w)
 have HM := Yh_ hM
 have HS := Yh_ hs
 have HO := Yh_ ho
 clear hM hs ho
 unfold Opd.val
 have e1 : (o.k == 1) = true := by simpa using h1
 have hb1 : (b == 1) = false := by simpa using hb
 have hb2 : (b != 1) = true := by simpa using hb
 have HV := Yh_ (show opV M s o b = s.R (o.r % 8).toNat by rw [opV, if_pos h1, if_neg hb])
 have HF := Yh_ (show opF M s o b = Flt.zero by rw [opF, if_neg (by omega)])
 have HK := Yh_ (show opK M s o b = true by rw [opK, if_neg (by omega)])
 have HR := Yh_ (show s.reg (o.r % 8) = s.R (o.r % 8).toNat by rw [St.reg, if_neg (by omega)]; congr 2; omega)
 clear h1 hb
 go_enter Tryz.func64, Tryz.ntmps64
 go_wp2_with fail
 refine Yan 9 (RdB s o w) (fun _ _ => False) (by kernel_rfl) (by kernel_rfl) ⟨HB.out.s, HB.out.o, HB.out.f, HB.out.u.drew⟩ (fun _ _ _ h => h.elim) ?_
 simp only [List.take_succ_cons, List.take_zero, List.drop_succ_cons, List.drop_zero]
 iterate 9
  apply Yu rfl rfl
  ·intro K hK w1 hB1
   have co := Ya hB1.o
   have ff := Yn hB1.f
   have cf := Ya hB1.f
   have H1 := Yh_ hB1
   clear hB1
   first
   |(refine Yax s w.heap.size _ rfl rfl H1.out.s ?_; go_simp; exact hK _ H1.out)
   |(go_wp2_with (first | (go_at_call 103; refine (Yic _ _).mono ?_; rintro e w2 ⟨rfl, rfl⟩) | (go_at_call 102; refine (Yg9 s _ _).mono ?_; rintro e w2 ⟨rfl, hu⟩; rw [HR.out]))
     first
     |exact hK _ H1.out
     |exact hK _ (H1.out.step hu)
     |exact H1.out
     |exact H1.out.step hu
     |exact H1.out.zero
     |exact hK _ H1.out.zero)
  ·first | exact ⟨_, rfl⟩ | exact ⟨undef, rfl⟩
 refine Yaf (fun _ w1 hB1 => ?_)
 have H2 := Yh_ hB1
 clear hB1
 go_wp2_with fail
 refine bodyPost_ret (Yao rfl (Yal _ rfl) (Ybe 9 35 (w.heap.size + 1 + 1) _ _ rfl H2.out.f Tryz.underlying35 rfl Ybx) (Yal _ rfl)) rfl ⟨?_, H2.out.u⟩
 rw [HV.out, HF.out, HK.out]
 rfl
theorem Ynt (M : Mem) (a pb : Nat) (s : St) (o : Opd) (b : Int) (w : World) (hM : Yk w a pb M) (hs : s.Ok) (ho : o.Ok) (h1 : o.k ≠ 1) (h2 : o.k = 2) (hb : b = 1) :
  Calls Tryz.prog 64 #[.pointer (some ⟨a, 0, none⟩), .agg s.cells, o.val, .int .i64 b] w fun e w' => e = .returned (.tuple #[.int .u32 (opV M s o b), (opF M s o b).val, .bool (opK M s o b)]) ∧ Upd [] w w' := by
 have hmo : Tryz.prog.follows .mixedOrders = true := by kernel_rfl
 have HB := Yh_ (RdB.start s o w)
 have HM := Yh_ hM
 have HS := Yh_ hs
 have HO := Yh_ ho
 clear hM hs ho
 unfold Opd.val
 have e1 : (o.k == 1) = false := by simpa using h1
 have e2 : (o.k == 2) = true := by simpa using h2
 have HF := Yh_ (show opF M s o b = Flt.zero by rw [opF, if_neg (by omega)])
 have HK := Yh_ (show opK M s o b = true by rw [opK, if_neg (by omega)])
 subst hb
 have HV := Yh_ (show opV M s o 1 = o.imm % 256 by rw [opV, if_neg h1, if_pos h2]; simp [wd])
 clear h1 h2
 go_enter Tryz.func64, Tryz.ntmps64
 go_wp2_with (go_at_call 104; refine (Yef o.imm 0 8 _ HO.out.imm.1 HO.out.imm.2 (by decide) (by decide)).mono ?_; rintro e w2 ⟨rfl, rfl⟩)
 refine bodyPost_ret (Yao rfl (Yal _ rfl) (Ybe 9 35 (w.heap.size + 1 + 1) _ _ rfl HB.out.f Tryz.underlying35 rfl Ybx) (Yal _ rfl)) rfl ⟨?_, HB.out.u⟩
 rw [HV.out, HF.out, HK.out]
 rfl
theorem Yl2 (M : Mem) (a pb : Nat) (s : St) (o : Opd) (b : Int) (w : World) (hM : Yk w a pb M) (hs : s.Ok) (ho : o.Ok) (h1 : o.k ≠ 1) (h2 : o.k = 2) (hb : b ≠ 1) :
  Calls Tryz.prog 64 #[.pointer (some ⟨a, 0, none⟩), .agg s.cells, o.val, .int .i64 b] w fun e w' => e = .returned (.tuple #[.int .u32 (opV M s o b), (opF M s o b).val, .bool (opK M s o b)]) ∧ Upd [] w w' := by
 have hmo : Tryz.prog.follows .mixedOrders = true := by kernel_rfl
 have HB := Yh_ (RdB.start s o w)
 have HM := Yh_ hM
 have HS := Yh_ hs
 have HO := Yh_ ho
 clear hM hs ho
 unfold Opd.val
 have e1 : (o.k == 1) = false := by simpa using h1
 have e2 : (o.k == 2) = true := by simpa using h2
 have HF := Yh_ (show opF M s o b = Flt.zero by rw [opF, if_neg (by omega)])
 have HK := Yh_ (show opK M s o b = true by rw [opK, if_neg (by omega)])
 have hb1 : (b == 1) = false := by simpa using hb
 have hb2 : (b != 1) = true := by simpa using hb
 have HV := Yh_ (show opV M s o b = o.imm % 4294967296 by rw [opV, if_neg h1, if_pos h2, wd, if_neg hb]; simp)
 clear h1 h2 hb
 go_enter Tryz.func64, Tryz.ntmps64
 go_wp2_with (go_at_call 104; refine (Yef o.imm 0 32 _ HO.out.imm.1 HO.out.imm.2 (by decide) (by decide)).mono ?_; rintro e w2 ⟨rfl, rfl⟩)
 refine bodyPost_ret (Yao rfl (Yal _ rfl) (Ybe 9 35 (w.heap.size + 1 + 1) _ _ rfl HB.out.f Tryz.underlying35 rfl Ybx) (Yal _ rfl)) rfl ⟨?_, HB.out.u⟩
 rw [HV.out, HF.out, HK.out]
 rfl
theorem Yng (M : Mem) (a pb : Nat) (s : St) (o : Opd) (b : Int) (w : World) (hM : Yk w a pb M) (hs : s.Ok) (ho : o.Ok) (h3 : o.k = 3) (hb : b = 1) :
  Calls Tryz.prog 64 #[.pointer (some ⟨a, 0, none⟩), .agg s.cells, o.val, .int .i64 b] w fun e w' => e = .returned (.tuple #[.int .u32 (opV M s o b), (opF M s o b).val, .bool (opK M s o b)]) ∧ Upd [] w w' := by
 have hmo : Tryz.prog.follows .mixedOrders = true := by kernel_rfl
 have HB := Yh_ (RdB.start s o w)
 have HM := Yh_ hM
 have HS := Yh_ hs
 have HO := Yh_ ho
 clear hM hs ho
 unfold Opd.val
 subst hb
 have e1 : (o.k == 1) = false := by rw [h3]; rfl
 have e2 : (o.k == 2) = false := by rw [h3]; rfl
 have e3 : (o.k == 3) = true := by rw [h3]; rfl
 have HF := Yh_ (show opF M s o 1 = M.rdF (s.place o) 1 1 by rw [opF, if_pos h3]; rfl)
 have HK := Yh_ (show opK M s o 1 = M.readK (s.place o) 1 1 by rw [opK, if_pos h3]; rfl)
 have HV := Yh_ (show opV M s o 1 = M.readV (s.place o) 1 1 by rw [opV, if_neg (by omega), if_neg (by omega), if_pos h3]; rfl)
 have hp := Ydd s o
 clear h3
 go_enter Tryz.func64, Tryz.ntmps64
 go_wp2_with (first | (refine Yae s w.heap.size rfl _ rfl rfl HB.out.s ?_) | (go_at_call 71; refine (Ydh s o _).mono ?_; rintro e w2 ⟨rfl, hu⟩; have H2 := Yh_ (HB.out.step hu); clear hu) | (go_at_call 38; refine (Ygv M a pb (s.place o) 1 1 _ (HM.out.keep H2.out.u (by simp) (by simp)) hp.1 hp.2).mono ?_; rintro e w3 ⟨rfl, hu⟩; rw [Mem.readF_val]; unfold Flt.val; have H3 := Yh_ (H2.out.step hu); clear hu H2; have ff := Yn H3.out.f; have cf := Ya H3.out.f))
 refine bodyPost_ret (Yao rfl (Yal _ rfl) (Ybe 9 35 (w.heap.size + 1 + 1) _ _ rfl (Ycu H3.out.f _ _ _ _) Tryz.underlying35 rfl Ybx) (Yal _ rfl)) rfl ⟨?_, Ya0 H3.out.u (.inr (by omega)) _ _ _ _⟩
 rw [HV.out, HF.out, HK.out]
 rfl
theorem Yl0 (M : Mem) (a pb : Nat) (s : St) (o : Opd) (b : Int) (w : World) (hM : Yk w a pb M) (hs : s.Ok) (ho : o.Ok) (h3 : o.k = 3) (hb : b ≠ 1) :
  Calls Tryz.prog 64 #[.pointer (some ⟨a, 0, none⟩), .agg s.cells, o.val, .int .i64 b] w fun e w' => e = .returned (.tuple #[.int .u32 (opV M s o b), (opF M s o b).val, .bool (opK M s o b)]) ∧ Upd [] w w' := by
 have hmo : Tryz.prog.follows .mixedOrders = true := by kernel_rfl
 have HB := Yh_ (RdB.start s o w)
 have HM := Yh_ hM
 have HS := Yh_ hs
 have HO := Yh_ ho
 clear hM hs ho
 unfold Opd.val
 have hb1 : (b == 1) = false := by simpa using hb
 have hb2 : (b != 1) = true := by simpa using hb
 have e1 : (o.k == 1) = false := by rw [h3]; rfl
 have e2 : (o.k == 2) = false := by rw [h3]; rfl
 have e3 : (o.k == 3) = true := by rw [h3]; rfl
 have HF := Yh_ (show opF M s o b = M.rdF (s.place o) 4 1 by rw [opF, if_pos h3]; rw [wd, if_neg hb])
 have HK := Yh_ (show opK M s o b = M.readK (s.place o) 4 1 by rw [opK, if_pos h3]; rw [wd, if_neg hb])
 have HV := Yh_ (show opV M s o b = M.readV (s.place o) 4 1 by rw [opV, if_neg (by omega), if_neg (by omega), if_pos h3]; rw [wd, if_neg hb])
 have hp := Ydd s o
 clear h3 hb
 go_enter Tryz.func64, Tryz.ntmps64
 go_wp2_with (first | (refine Yae s w.heap.size rfl _ rfl rfl HB.out.s ?_) | (go_at_call 71; refine (Ydh s o _).mono ?_; rintro e w2 ⟨rfl, hu⟩; have H2 := Yh_ (HB.out.step hu); clear hu) | (go_at_call 38; refine (Ygv M a pb (s.place o) 4 1 _ (HM.out.keep H2.out.u (by simp) (by simp)) hp.1 hp.2).mono ?_; rintro e w3 ⟨rfl, hu⟩; rw [Mem.readF_val]; unfold Flt.val; have H3 := Yh_ (H2.out.step hu); clear hu H2; have ff := Yn H3.out.f; have cf := Ya H3.out.f))
 refine bodyPost_ret (Yao rfl (Yal _ rfl) (Ybe 9 35 (w.heap.size + 1 + 1) _ _ rfl (Ycu H3.out.f _ _ _ _) Tryz.underlying35 rfl Ybx) (Yal _ rfl)) rfl ⟨?_, Ya0 H3.out.u (.inr (by omega)) _ _ _ _⟩
 rw [HV.out, HF.out, HK.out]
 rfl
theorem Ynq (M : Mem) (a pb : Nat) (s : St) (o : Opd) (b : Int) (w : World) (hM : Yk w a pb M) (hs : s.Ok) (ho : o.Ok) (h1 : o.k ≠ 1) (h2 : o.k ≠ 2) (h3 : o.k ≠ 3) :
  Calls Tryz.prog 64 #[.pointer (some ⟨a, 0, none⟩), .agg s.cells, o.val, .int .i64 b] w fun e w' => e = .returned (.tuple #[.int .u32 (opV M s o b), (opF M s o b).val, .bool (opK M s o b)]) ∧ Upd [] w w' := by
 have hmo : Tryz.prog.follows .mixedOrders = true := by kernel_rfl
 have HB := Yh_ (RdB.start s o w)
 have HM := Yh_ hM
 have HS := Yh_ hs
 have HO := Yh_ ho
 clear hM hs ho
 unfold Opd.val
 have e1 : (o.k == 1) = false := by simpa using h1
 have e2 : (o.k == 2) = false := by simpa using h2
 have e3 : (o.k == 3) = false := by simpa using h3
 have HV := Yh_ (show opV M s o b = 0 by rw [opV, if_neg h1, if_neg h2, if_neg h3])
 have HF := Yh_ (show opF M s o b = Flt.zero by rw [opF, if_neg h3])
 have HK := Yh_ (show opK M s o b = true by rw [opK, if_neg h3])
 clear h1 h2 h3
 go_enter Tryz.func64, Tryz.ntmps64
 go_wp2_with fail
 all_goals
  refine bodyPost_ret (Yao rfl (Yal _ rfl) (Ybe 9 35 (w.heap.size + 1 + 1) _ _ rfl HB.out.f Tryz.underlying35 rfl Ybx) (Yal _ rfl)) rfl ⟨?_, HB.out.u⟩
  rw [HV.out, HF.out, HK.out]
  rfl
theorem Yip (M : Mem) (a pb : Nat) (s : St) (o : Opd) (b : Int) (w : World) (hM : Yk w a pb M) (hs : s.Ok) (ho : o.Ok) :
  Calls Tryz.prog 64 #[.pointer (some ⟨a, 0, none⟩), .agg s.cells, o.val, .int .i64 b] w fun e w' => e = .returned (.tuple #[.int .u32 (opV M s o b), (opF M s o b).val, .bool (opK M s o b)]) ∧ Upd [] w w' := by
 by_cases h1 : o.k = 1
 ·by_cases hb : b = 1
  ·exact Ymp M a pb s o b w hM hs ho h1 hb
  ·exact Ym9 M a pb s o b w hM hs ho h1 hb
 ·by_cases h2 : o.k = 2
  ·by_cases hb : b = 1
   ·exact Ynt M a pb s o b w hM hs ho h1 h2 hb
   ·exact Yl2 M a pb s o b w hM hs ho h1 h2 hb
  ·by_cases h3 : o.k = 3
   ·by_cases hb : b = 1
    ·exact Yng M a pb s o b w hM hs ho h3 hb
    ·exact Yl0 M a pb s o b w hM hs ho h3 hb
   ·exact Ynq M a pb s o b w hM hs ho h1 h2 h3
end Go.Proofs.YthakgjpejhjaoaaGreat
