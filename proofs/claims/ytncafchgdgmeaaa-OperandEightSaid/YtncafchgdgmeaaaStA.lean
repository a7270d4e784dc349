/-
  The guest's state and operands as plain data, how they lie in cells; the small functions of packages bits, state and operand, each by its contract.
-/
import Derived.Test.YtncafchgdgmeaaaPgG
import Derived.Laws.BitsAllLaws
import Derived.Test.YtncafchgdgmeaaaRes
import Derived.Test.YtncafchgdgmeaaaBits
import Derived.Test.YtncafchgdgmeaaaOpd
namespace Go.Proofs.Ytncafchgdgmeaaa
open Go Go.RowKit
set_option linter.unusedVariables false
set_option linter.unusedSimpArgs false

theorem mod_val (r n : Int) (h : 0 < n) (hn : n ≤ 16) : (wrap64 (r.tmod n + n)).tmod n = r % n := by
  have h1 : -n < r.tmod n := by
    have := Int.lt_tmod_of_pos r h
    omega
  have h2 : r.tmod n < n := Int.tmod_lt_of_pos r h
  have e : wrap64 (r.tmod n + n) = r.tmod n + n := by
    unfold wrap64; omega
  rw [e, Int.tmod_eq_emod_of_nonneg (by omega), Int.add_emod_right, Int.tmod_def, Int.sub_mul_emod_self_left]

theorem omod_any (r : Int) (w : World) :
    Calls Try.prog 74 #[.int .i64 r] w fun e w' => e = .returned (.int .i64 (r % 8)) ∧ w = w' := by
  go_enter Try.func74, Try.ntmps74
  go_wp2
  go_ret
  exact ⟨ret_of (congrArg (Value.int .i64) (mod_val r 8 (by decide) (by decide))), rfl⟩

theorem smod_any (r : Int) (w : World) (n : Nat) (h : 0 < n) (hn : n ≤ 16) :
    Calls Try.prog 98 #[.int .i64 r, .int .i64 n] w fun e w' => e = .returned (.int .i64 (r % n)) ∧ w = w' := by
  go_enter Try.func98, Try.ntmps98
  go_wp2
  go_ret
  exact ⟨ret_of (congrArg (Value.int .i64) (mod_val r n (by omega) (by omega))), rfl⟩

/-! ### The state -/
structure St where
  R : Nat → Int
  pc : Int
  cf : Bool
  pf : Bool
  af : Bool
  zf : Bool
  sf : Bool
  of_ : Bool
  df : Bool
  f : Int

structure St.Ok (s : St) : Prop where
  R : ∀ i, 0 ≤ s.R i ∧ s.R i < 4294967296
  pc : 0 ≤ s.pc ∧ s.pc < 4294967296
  f : 0 ≤ s.f ∧ s.f < 18446744073709551616

def St.cells (s : St) : Array Value := #[.int .u32 (s.R 0), .int .u32 (s.R 1), .int .u32 (s.R 2), .int .u32 (s.R 3), .int .u32 (s.R 4), .int .u32 (s.R 5), .int .u32 (s.R 6), .int .u32 (s.R 7), .int .u32 s.pc,
  .bool s.cf, .bool s.pf, .bool s.af, .bool s.zf, .bool s.sf, .bool s.of_, .bool s.df, .int .u64 s.f]

def St.setR (s : St) (i : Nat) (v : Int) : St := { s with R := fun j => if j = i then v else s.R j }

def St.zero : St := ⟨fun _ => 0, 0, false, false, false, false, false, false, false, 0⟩

theorem St.zero_ok : St.zero.Ok := ⟨fun _ => by simp [St.zero], by simp [St.zero], by simp [St.zero]⟩

theorem St.setR_ok {s : St} (h : s.Ok) (i : Nat) {v : Int} (h0 : 0 ≤ v) (h1 : v < 4294967296) : (s.setR i v).Ok :=
  ⟨fun j => by simp only [St.setR]; split; exact ⟨h0, h1⟩; exact h.R j, h.pc, h.f⟩

theorem St.size (s : St) : s.cells.size = 17 := rfl

theorem St.cR (s : St) (i : Nat) (h : i < 8) : s.cells[i]? = some (.int .u32 (s.R i)) := by
  match i, h with
  | 0, _ => rfl
  | 1, _ => rfl
  | 2, _ => rfl
  | 3, _ => rfl
  | 4, _ => rfl
  | 5, _ => rfl
  | 6, _ => rfl
  | 7, _ => rfl

theorem St.cells_setR (s : St) (i : Nat) (v : Int) (h : i < 8) : s.cells.setIfInBounds i (.int .u32 v) = (s.setR i v).cells := by
  match i, h with
  | 0, _ => rfl
  | 1, _ => rfl
  | 2, _ => rfl
  | 3, _ => rfl
  | 4, _ => rfl
  | 5, _ => rfl
  | 6, _ => rfl
  | 7, _ => rfl

theorem St.one (s : St) : s.cells.all (·.oneCell') = true := by simp [St.cells, Value.oneCell']

theorem state_info : (Try.prog.info? 65).map (·.size) = some 17 := by kernel_rfl

/-- A register; of none 0. -/
def St.reg (s : St) (r : Int) : Int := if r = -1 then 0 else s.R (r % 8).toNat

def St.place (s : St) (o : Opd) : Int := if o.k = 3 then (s.reg o.b + s.reg o.x * o.sc + o.imm) % 4294967296 else 0

set_option maxRecDepth 100000 in
set_option maxHeartbeats 400000 in
theorem register_any (s : St) (r : Int) (w : World) :
    Calls Try.prog 76 #[.agg s.cells, .int .i64 r] w fun e w' => e = .returned (.int .u32 (s.reg r)) ∧ Upd [] w w' := by
  by_cases h : r = -1
  · subst h
    go_enter Try.func76, Try.ntmps76
    go_wp2
    go_ret
    exact ⟨rfl, (Upd.refl _ _).alloc _⟩
  · have h1 : (r == -1) = false := by simpa using h
    have hc := s.cR (r % 8).toNat (by omega)
    have h2 : 0 ≤ r % 8 := by omega
    have h3 : r % 8 < 8 := by omega
    go_enter Try.func76, Try.ntmps76
    go_wp2_with (go_at_call 74; refine (omod_any _ _).mono ?_; rintro e w' ⟨rfl, rfl⟩)
    go_ret
    exact ⟨by rw [St.reg, if_neg h]; rfl, (Upd.refl _ _).alloc _⟩


/-- A state read whole out of its variable. -/
theorem wp_load_state {op : Oper} {a : Act} {w : World} {K : Act → World → Prop} {Q : Exit → Act → World → Prop} (s : St) (b : Nat) (x : Operand) (ho : op.op = .load 65 x) (hx : a.eval x = .pointer (some ⟨b, 0, none⟩))
    (hb : w.heap[b]? = some (.cells s.cells 65 (0, 0))) (hK : K (a.put op.dst (.agg s.cells)) w) : op.wp Try.prog a w K Q :=
  wp_load_mid 65 x ho b 0 hx s.cells.toList _ (range_whole hb) Try.underlying65 rfl (by rw [Array.length_toList, St.size]; exact state_info) (by rw [Array.toArray_toList]; exact hK)

theorem wpList_load_state {ops : Array Oper} {rest : List Oper} {op : Oper} {a : Act} {w : World} {Q : Exit → Act → World → Prop} (s : St) (b : Nat) (hgd : op.guard = none) (x : Operand) (ho : op.op = .load 65 x) (hx : a.eval x = .pointer (some ⟨b, 0, none⟩))
    (hb : w.heap[b]? = some (.cells s.cells 65 (0, 0))) (h : wpList Try.prog ops Q rest (a.put op.dst (.agg s.cells)) w) : wpList Try.prog ops Q (op :: rest) a w :=
  wpList_plain hgd fun _ hK => wp_load_state s b x ho hx hb (hK _ _ h)

theorem wpList_load_state_g {ops : Array Oper} {rest : List Oper} {op : Oper} {a : Act} {w : World} {Q : Exit → Act → World → Prop} (s : St) (b : Nat) (hgd : Region.wanted op (yielded ops a.tmps) = true) (x : Operand) (ho : op.op = .load 65 x) (hx : a.eval x = .pointer (some ⟨b, 0, none⟩))
    (hb : w.heap[b]? = some (.cells s.cells 65 (0, 0))) (h : wpList Try.prog ops Q rest (a.put op.dst (.agg s.cells)) w) : wpList Try.prog ops Q (op :: rest) a w :=
  wpList_want hgd fun _ hK => wp_load_state s b x ho hx hb (hK _ _ h)

/-- A state stored whole into its variable. -/
theorem wpList_store_state {ops : Array Oper} {rest : List Oper} {op : Oper} {a : Act} {w : World} {Q : Exit → Act → World → Prop} (s : St) (b : Nat) (hgd : op.guard = none) (x y : Operand) (ho : op.op = .store 65 x y) (hx : a.eval x = .pointer (some ⟨b, 0, none⟩)) (hy : a.eval y = .agg s.cells)
    {c : Array Value} (hb : w.heap[b]? = some (.cells c 65 (0, 0))) (hc : c.size = 17) (h : wpList Try.prog ops Q rest (a.put op.dst undef) (w.setCells b 0 s.cells.toList)) : wpList Try.prog ops Q (op :: rest) a w :=
  wpList_store_arr hgd 65 x y ho b 0 s.cells hx hy hb (by rw [hc, St.size]; exact Nat.le_refl _) (by rw [St.size]; exact state_info) s.one h

theorem wpList_store_state' {ops : Array Oper} {rest : List Oper} {op : Oper} {a : Act} {w : World} {Q : Exit → Act → World → Prop} (s : St) (b : Nat) (hgd : op.guard = none) (x y : Operand) (ho : op.op = .store 65 x y) (hx : a.eval x = .pointer (some ⟨b, 0, none⟩)) (hy : a.eval y = .agg s.cells)
    {c : Array Value} (hb : w.heap[b]? = some (.cells c 65 (0, 0))) (hc : c.size = 17) (h : ∀ w', w.setCells b 0 s.cells.toList = w' → wpList Try.prog ops Q rest (a.put op.dst undef) w') : wpList Try.prog ops Q (op :: rest) a w :=
  wpList_store_state s b hgd x y ho hx hy hb hc (h _ rfl)

theorem wr_state (c : Array Value) (s : St) (hc : c.size = 17) : wr c 0 s.cells.toList = s.cells := by
  apply Array.ext_getElem?
  intro k
  have hl : s.cells.toList.length = 17 := rfl
  rw [wr_get _ _ _ _ (by rw [hl, hc]; exact Nat.le_refl _), hl]
  by_cases h : k < 17
  · rw [if_pos (by omega), Nat.sub_zero, Array.getElem?_toList]
  · rw [if_neg (by omega), Array.getElem?_eq_none (by omega), Array.getElem?_eq_none (by rw [St.size]; omega)]

/-- What a store of a whole state leaves. -/
theorem heap_store_state {w : World} {b : Nat} {c : Array Value} (s : St) (hb : w.heap[b]? = some (.cells c 65 (0, 0))) (hc : c.size = 17) : (w.setCells b 0 s.cells.toList).heap[b]? = some (.cells s.cells 65 (0, 0)) := by
  rw [heap_setCells_same _ _ _ _ hb, wr_state c s hc]

structure PlaceB (s : St) (o : Opd) (w w1 : World) : Prop where
  s : w1.heap[w.heap.size]? = some (.cells s.cells 65 (0, 0))
  o : w1.heap[w.heap.size + 1]? = some (.cells #[.int .i64 o.k, .int .i64 o.r, .int .u32 o.imm, .int .i64 o.b, .int .i64 o.x, .int .u32 o.sc] 68 (0, 0))
  u : Upd [] w w1

theorem PlaceB.step {s : St} {o : Opd} {w w1 w2 : World} (h : PlaceB s o w w1) (u : Upd [] w1 w2) : PlaceB s o w w2 := ⟨u.get h.s (by simp), u.get h.o (by simp), h.u.also u (by simp)⟩

theorem place_val (s : St) (o : Opd) (h : o.k = 3) : (s.reg o.b + s.reg o.x * o.sc + o.imm) % 4294967296 = s.place o := by
  rw [St.place, if_pos h]

set_option maxRecDepth 100000 in
set_option maxHeartbeats 2000000 in
theorem Place_any (s : St) (o : Opd) (w : World) :
    Calls Try.prog 32 #[.agg s.cells, o.val] w fun e w' => e = .returned (.int .u32 (s.place o)) ∧ Upd [] w w' := by
  have hmo : Try.prog.follows .mixedOrders = true := by kernel_rfl
  unfold Opd.val
  by_cases h : o.k = 3
  · have h1 : (o.k == 3) = true := by simpa using h
    have h2 : (o.k != 3) = false := by simpa using h
    have HV := Lib.hid (place_val s o h)
    clear h
    go_enter Try.func32, Try.ntmps32
    go_wp2
    refine wp_draw 16 (PlaceB s o w) (fun _ _ => False) (by kernel_rfl) (by kernel_rfl) ⟨heap_alloc_keep _ (heap_alloc_new _ _), heap_alloc2_new _ _ _, (((Upd.refl _ _).alloc _).alloc _).drew⟩ (fun _ _ _ h => h.elim) ?_
    simp only [List.take_succ_cons, List.take_zero, List.drop_succ_cons, List.drop_zero]
    repeat
      apply headW_val rfl rfl
      · intro K hK w1 hB1
        have co := cells_of hB1.o
        have HB := Lib.hid hB1
        clear hB1
        first
        | (refine wp_load_state s w.heap.size _ rfl rfl HB.out.s ?_; go_simp; exact hK _ HB.out)
        | (go_wp2_with (go_at_call 76; refine (register_any s _ _).mono ?_; rintro e w2 ⟨rfl, hu⟩)
           first
           | exact hK _ HB.out
           | exact hK _ (HB.out.step hu)
           | exact HB.out
           | exact HB.out.step hu)
      · exact ⟨_, rfl⟩
    refine headW_nil (fun _ w1 hB1 => ?_)
    have HB := Lib.hid hB1
    clear hB1
    go_wp2_with fail
    go_ret
    exact ⟨by first | exact ret_of (congrArg (Value.int .u32) HV.out), HB.out.u⟩
  · have h1 : (o.k == 3) = false := by simpa using h
    have h2 : (o.k != 3) = true := by simpa using h
    have HV := Lib.hid (show s.place o = 0 by rw [St.place, if_neg h])
    clear h
    go_enter Try.func32, Try.ntmps32
    go_wp2
    go_ret
    exact ⟨by rw [HV.out]; rfl, ((Upd.refl _ _).alloc _).alloc _⟩


/-- A register of a byte: its number, where it lies. -/
def St.reg8 (s : St) (i : Int) : Int := if (i % 8).toNat < 4 then s.R (i % 8).toNat % 256 else s.R ((i % 8).toNat - 4) / 256 % 256

def St.setReg8 (s : St) (i v : Int) : St :=
  if (i % 8).toNat < 4 then s.setR (i % 8).toNat (s.R (i % 8).toNat / 256 * 256 + v % 256)
  else s.setR ((i % 8).toNat - 4) (s.R ((i % 8).toNat - 4) / 65536 * 65536 + v % 256 * 256 + s.R ((i % 8).toNat - 4) % 256)

theorem St.setReg8_ok {s : St} (h : s.Ok) (i v : Int) : (s.setReg8 i v).Ok := by
  unfold St.setReg8
  split
  · have := h.R (i % 8).toNat
    exact St.setR_ok h _ (by omega) (by omega)
  · have := h.R ((i % 8).toNat - 4)
    exact St.setR_ok h _ (by omega) (by omega)

set_option maxRecDepth 100000 in
set_option maxHeartbeats 400000 in
theorem Reg8_any (s : St) (i : Int) (w : World) (hs : s.Ok) :
    Calls Try.prog 75 #[.agg s.cells, .int .i64 i] w fun e w' => e = .returned (.int .u32 (s.reg8 i)) ∧ Upd [] w w' := by
  obtain ⟨k, hk, hk8⟩ : ∃ k : Nat, i % 8 = k ∧ k < 8 := ⟨(i % 8).toNat, by omega, by omega⟩
  by_cases h4 : k < 4
  · have HV := Lib.hid (show s.reg8 i = s.R k % 256 by rw [St.reg8, hk, Int.toNat_natCast, if_pos h4])
    have hc := s.cR k (by omega)
    have hd : (k : Int) / 4 = 0 := by omega
    have hm : (k : Int) % 4 = k := by omega
    have hR := hs.R k
    go_enter Try.func75, Try.ntmps75
    go_wp2_with (first | (go_at_call 98; refine (smod_any _ _ 8 (by decide) (by decide)).mono ?_; rintro e w' ⟨rfl, rfl⟩; rw [show i % ((8 : Nat) : Int) = k from hk]) | (go_at_call 77; refine (Field_any (s.R k) 0 8 _ hR.1 hR.2 (by decide) (by decide)).mono ?_; rintro e w' ⟨rfl, rfl⟩))
    go_ret
    refine ⟨?_, (Upd.refl _ _).alloc _⟩
    rw [HV.out]
    exact ret_of (congrArg (Value.int .u32) (by simp))
  · obtain ⟨j, hj⟩ : ∃ j, k = j + 4 := ⟨k - 4, by omega⟩
    have HV := Lib.hid (show s.reg8 i = s.R j / 256 % 256 by rw [St.reg8, hk, Int.toNat_natCast, if_neg h4, hj, Nat.add_sub_cancel])
    have hc := s.cR j (by omega)
    have hd : (k : Int) / 4 = 1 := by omega
    have hm : (k : Int) % 4 = j := by omega
    have hR := hs.R j
    have hj4 : j < 4 := by omega
    clear hj
    go_enter Try.func75, Try.ntmps75
    go_wp2_with (first | (go_at_call 98; refine (smod_any _ _ 8 (by decide) (by decide)).mono ?_; rintro e w' ⟨rfl, rfl⟩; rw [show i % ((8 : Nat) : Int) = k from hk]) | (go_at_call 77; refine (Field_any (s.R j) 8 8 _ hR.1 hR.2 (by decide) (by decide)).mono ?_; rintro e w' ⟨rfl, rfl⟩))
    go_ret
    refine ⟨?_, (Upd.refl _ _).alloc _⟩
    rw [HV.out]
    exact ret_of (congrArg (Value.int .u32) (by simp))

theorem and_255 (v : Int) (h0 : 0 ≤ v) (h1 : v < 4294967296) : bits .and .u32 v 255 = v % 256 := by
  obtain ⟨v, rfl⟩ := Int.eq_ofNat_of_zero_le h0
  have := u32_and_nat v 255 (by omega) (by decide)
  rw [nat_mask8] at this
  exact this

theorem nat_and_high (x k n : Nat) (hx : x < 2 ^ (k + n)) : x &&& ((2 ^ n - 1) <<< k) = x / 2 ^ k * 2 ^ k := by
  have e4 : x / 2 ^ k * 2 ^ k = (x >>> k) <<< k := by rw [Nat.shiftLeft_eq, Nat.shiftRight_eq_div_pow]
  rw [e4]
  apply Nat.eq_of_testBit_eq
  intro i
  simp only [Nat.testBit_and, Nat.testBit_shiftLeft, Nat.testBit_shiftRight, Nat.testBit_two_pow_sub_one]
  by_cases hi : k ≤ i
  · have : k + (i - k) = i := by omega
    simp only [ge_iff_le, hi, decide_true, Bool.true_and, this]
    by_cases h32 : i - k < n
    · simp [h32]
    · have : x.testBit i = false := Nat.testBit_lt_two_pow (Nat.lt_of_lt_of_le hx (Nat.pow_le_pow_right (by decide) (by omega)))
      simp [this]
  · simp [hi]

theorem andNot_low (x : Int) (h0 : 0 ≤ x) (h1 : x < 4294967296) : bits .andNot .u32 x 255 = x / 256 * 256 := by
  obtain ⟨x, rfl⟩ := Int.eq_ofNat_of_zero_le h0
  have h := u32_andNot_nat x 255 (by omega) (by decide)
  have e := nat_and_high x 8 24 (by omega)
  rw [show (2 ^ 24 - 1) <<< 8 = 4294967295 - 255 from by decide] at e
  rw [e] at h
  rw [show ((255 : Nat) : Int) = 255 from rfl] at h
  rw [h]
  omega

theorem andNot_mid (x : Int) (h0 : 0 ≤ x) (h1 : x < 4294967296) : bits .andNot .u32 x 65280 = x / 65536 * 65536 + x % 256 := by
  obtain ⟨x, rfl⟩ := Int.eq_ofNat_of_zero_le h0
  have h := u32_andNot_nat x 65280 (by omega) (by decide)
  have e := nat_and_high x 16 16 (by omega)
  rw [show 4294967295 - 65280 = ((2 ^ 16 - 1) <<< 16) ||| 255 from by decide, Nat.and_or_distrib_left, e, nat_mask8, nat_join 16 _ _ (by omega) (by omega)] at h
  rw [show ((65280 : Nat) : Int) = 65280 from rfl] at h
  rw [h]
  omega

theorem or_low (x v : Int) (h0 : 0 ≤ x) (h1 : x < 4294967296) (g0 : 0 ≤ v) (g1 : v < 4294967296) : bits .or .u32 (x / 256 * 256) (v % 256) = x / 256 * 256 + v % 256 := by
  obtain ⟨x, rfl⟩ := Int.eq_ofNat_of_zero_le h0
  obtain ⟨v, rfl⟩ := Int.eq_ofNat_of_zero_le g0
  have h := u32_or_nat (x / 256 * 256) (v % 256) (by omega) (by omega)
  rw [nat_join 8 _ _ (by omega) (by omega)] at h
  have e1 : (x : Int) / 256 * 256 = ((x / 256 * 256 : Nat) : Int) := by omega
  have e2 : (v : Int) % 256 = ((v % 256 : Nat) : Int) := by omega
  rw [e1, e2, h]
  omega

theorem or_mid (x v : Int) (h0 : 0 ≤ x) (h1 : x < 4294967296) (g0 : 0 ≤ v) (g1 : v < 4294967296) : bits .or .u32 (x / 65536 * 65536 + x % 256) (v % 256 * 256) = x / 65536 * 65536 + v % 256 * 256 + x % 256 := by
  obtain ⟨x, rfl⟩ := Int.eq_ofNat_of_zero_le h0
  obtain ⟨v, rfl⟩ := Int.eq_ofNat_of_zero_le g0
  have h := u32_or_nat (x / 65536 * 65536 + x % 256) (v % 256 * 256) (by omega) (by omega)
  have q : x / 65536 * 65536 + x % 256 = x / 65536 * 65536 ||| x % 256 := (nat_join 16 _ _ (by omega) (by omega)).symm
  have q2 : x % 256 ||| v % 256 * 256 = v % 256 * 256 + x % 256 := by rw [Nat.or_comm]; exact nat_join 8 _ _ (by omega) (by omega)
  have q3 : (x / 65536 * 65536 + x % 256) ||| (v % 256 * 256) = x / 65536 * 65536 + (v % 256 * 256 + x % 256) := by
    rw [q, Nat.or_assoc, q2]
    exact nat_join 16 _ _ (by omega) (by omega)
  rw [q3] at h
  have e1 : (x : Int) / 65536 * 65536 + x % 256 = ((x / 65536 * 65536 + x % 256 : Nat) : Int) := by omega
  have e2 : (v : Int) % 256 * 256 = ((v % 256 * 256 : Nat) : Int) := by omega
  rw [e1, e2, h]
  omega

structure SetB (s : St) (w w1 : World) : Prop where
  s : w1.heap[w.heap.size]? = some (.cells s.cells 65 (0, 0))
  r : w1.heap[w.heap.size + 1]? = some (.cells St.zero.cells 65 (0, 0))
  u : Upd [] w w1

set_option maxRecDepth 100000 in
set_option maxHeartbeats 2000000 in
theorem SetReg8_any (s : St) (i v : Int) (w : World) (hs : s.Ok) (hv0 : 0 ≤ v) (hv1 : v < 4294967296) :
    Calls Try.prog 73 #[.agg s.cells, .int .i64 i, .int .u32 v] w fun e w' => e = .returned (.agg (s.setReg8 i v).cells) ∧ Upd [] w w' := by
  have hmo : Try.prog.follows .mixedOrders = true := by kernel_rfl
  obtain ⟨k, hk, hk8⟩ : ∃ k : Nat, i % 8 = k ∧ k < 8 := ⟨(i % 8).toNat, by omega, by omega⟩
  by_cases h4 : k < 4
  · have hd : (k : Int) / 4 = 0 := by omega
    have hm : (k : Int) % 4 = k := by omega
    have hR := hs.R k
    have HV := Lib.hid (show s.setReg8 i v = s.setR k (s.R k / 256 * 256 + v % 256) by rw [St.setReg8, hk, Int.toNat_natCast, if_pos h4])
    have e1 : bits .andNot .u32 (s.R k) 255 = s.R k / 256 * 256 := andNot_low _ hR.1 hR.2
    have e2 : bits .and .u32 v 255 = v % 256 := and_255 _ hv0 hv1
    have e3 : bits .or .u32 (s.R k / 256 * 256) (v % 256) = s.R k / 256 * 256 + v % 256 := or_low _ _ hR.1 hR.2 hv0 hv1
    go_enter Try.func73, Try.ntmps73
    go_wp2_with (first | (go_at_call 98; refine (smod_any _ _ 8 (by decide) (by decide)).mono ?_; rintro e w' ⟨rfl, rfl⟩; rw [show i % ((8 : Nat) : Int) = k from hk]))
    refine wp_draw 17 (SetB s w) (fun _ _ => False) (by kernel_rfl) (by kernel_rfl) ⟨heap_alloc_keep _ (heap_alloc_new _ _), heap_alloc2_new _ _ _, (((Upd.refl _ _).alloc _).alloc _).drew⟩ (fun _ _ _ h => h.elim) ?_
    simp only [List.take_succ_cons, List.take_zero, List.drop_succ_cons, List.drop_zero]
    repeat
      apply headW_val rfl rfl
      · intro K hK w1 hB1
        have cs := cells_of hB1.s
        have c0 := s.cR k (by omega)
        have HB := Lib.hid hB1
        clear hB1
        go_wp2_with fail
        exact HB.out
      · exact ⟨_, rfl⟩
    refine headW_nil (fun _ w1 hB1 => ?_)
    have cs := cells_of hB1.s
    have c0 := s.cR k (by omega)
    have fs := free_of hB1.s
    have HB := Lib.hid hB1
    have h1 := heap_set_same hB1.s k (.int .u32 (s.R k / 256 * 256 + v % 256))
    rw [St.cells_setR s k _ (by omega)] at h1
    have H1 := Lib.hid h1
    have H2 := Lib.hid (heap_set_keep (a := ⟨w.heap.size, k, none⟩) (.int .u32 (s.R k / 256 * 256 + v % 256)) (by simp) hB1.r)
    clear hB1 h1
    go_wp2_with (first | (refine wpList_load_state (s.setR k (s.R k / 256 * 256 + v % 256)) w.heap.size rfl _ rfl rfl H1.out ?_) | (refine wpList_store_state (s.setR k (s.R k / 256 * 256 + v % 256)) (w.heap.size + 1) rfl _ _ rfl rfl rfl H2.out rfl ?_))
    refine bodyPost_ret (results_one' rfl (res_row 6 65 (w.heap.size + 1) _ _ rfl (heap_store_state _ H2.out rfl) Try.underlying65 rfl (by rw [St.size]; exact state_info))) rfl ⟨by rw [HV.out], ?_⟩
    exact (HB.out.u.setCell (by simp) _).setCells (by simp) _ _
  · obtain ⟨j, hj⟩ : ∃ j, k = j + 4 := ⟨k - 4, by omega⟩
    have hd : (k : Int) / 4 = 1 := by omega
    have hm : (k : Int) % 4 = j := by omega
    have hR := hs.R j
    have HV := Lib.hid (show s.setReg8 i v = s.setR j (s.R j / 65536 * 65536 + v % 256 * 256 + s.R j % 256) by rw [St.setReg8, hk, Int.toNat_natCast, if_neg h4, hj, Nat.add_sub_cancel])
    have hj4 : j < 4 := by omega
    have e1 : bits .andNot .u32 (s.R j) 65280 = s.R j / 65536 * 65536 + s.R j % 256 := andNot_mid _ hR.1 hR.2
    have e2 : bits .and .u32 v 255 = v % 256 := and_255 _ hv0 hv1
    have e3 : bits .or .u32 (s.R j / 65536 * 65536 + s.R j % 256) (v % 256 * 256) = s.R j / 65536 * 65536 + v % 256 * 256 + s.R j % 256 := or_mid _ _ hR.1 hR.2 hv0 hv1
    clear hj
    go_enter Try.func73, Try.ntmps73
    go_wp2_with (first | (go_at_call 98; refine (smod_any _ _ 8 (by decide) (by decide)).mono ?_; rintro e w' ⟨rfl, rfl⟩; rw [show i % ((8 : Nat) : Int) = k from hk]))
    refine wp_draw 17 (SetB s w) (fun _ _ => False) (by kernel_rfl) (by kernel_rfl) ⟨heap_alloc_keep _ (heap_alloc_new _ _), heap_alloc2_new _ _ _, (((Upd.refl _ _).alloc _).alloc _).drew⟩ (fun _ _ _ h => h.elim) ?_
    simp only [List.take_succ_cons, List.take_zero, List.drop_succ_cons, List.drop_zero]
    repeat
      apply headW_val rfl rfl
      · intro K hK w1 hB1
        have cs := cells_of hB1.s
        have c0 := s.cR j (by omega)
        have HB := Lib.hid hB1
        clear hB1
        go_wp2_with fail
        exact HB.out
      · exact ⟨_, rfl⟩
    refine headW_nil (fun _ w1 hB1 => ?_)
    have cs := cells_of hB1.s
    have c0 := s.cR j (by omega)
    have fs := free_of hB1.s
    have HB := Lib.hid hB1
    have h1 := heap_set_same hB1.s j (.int .u32 (s.R j / 65536 * 65536 + v % 256 * 256 + s.R j % 256))
    rw [St.cells_setR s j _ (by omega)] at h1
    have H1 := Lib.hid h1
    have H2 := Lib.hid (heap_set_keep (a := ⟨w.heap.size, j, none⟩) (.int .u32 (s.R j / 65536 * 65536 + v % 256 * 256 + s.R j % 256)) (by simp) hB1.r)
    clear hB1 h1
    go_wp2_with (first | (refine wpList_load_state (s.setR j (s.R j / 65536 * 65536 + v % 256 * 256 + s.R j % 256)) w.heap.size rfl _ rfl rfl H1.out ?_) | (refine wpList_store_state (s.setR j (s.R j / 65536 * 65536 + v % 256 * 256 + s.R j % 256)) (w.heap.size + 1) rfl _ _ rfl rfl rfl H2.out rfl ?_))
    refine bodyPost_ret (results_one' rfl (res_row 6 65 (w.heap.size + 1) _ _ rfl (heap_store_state _ H2.out rfl) Try.underlying65 rfl (by rw [St.size]; exact state_info))) rfl ⟨by rw [HV.out], ?_⟩
    exact (HB.out.u.setCell (by simp) _).setCells (by simp) _ _

end Go.Proofs.Ytncafchgdgmeaaa
