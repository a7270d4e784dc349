/-
  Package decode: modrm, the tables, bare, place, each by its contract.
-/
import Derived.Test.YtpockhoacfkjaaaDcB
namespace Go.Proofs.Ytpockhoacfkjaaa
open Go Go.RowKit
set_option linter.unusedVariables false
set_option linter.unusedSimpArgs false

theorem wr_all (c cs : Array Value) (h : c.size = cs.size) : wr c 0 cs.toList = cs := by
  apply Array.ext_getElem?
  intro k
  have hl : cs.toList.length = cs.size := Array.length_toList
  rw [wr_get _ _ _ _ (by rw [hl, h]; omega), hl]
  by_cases hk : k < cs.size
  · rw [if_pos (by omega), Nat.sub_zero, Array.getElem?_toList]
  · rw [if_neg (by omega), Array.getElem?_eq_none (by omega), Array.getElem?_eq_none (by omega)]

theorem wpList_store_arr' {P : Program} {ops : Array Oper} {rest : List Oper} {op : Oper} {a : Act} {w : World} {Q : Exit → Act → World → Prop} (hgd : op.guard = none) (ty : TypeId) (x y : Operand) (ho : op.op = .store ty x y)
    (b o : Nat) (cs : Array Value) (hx : a.eval x = .pointer (some ⟨b, o, none⟩)) (hy : a.eval y = .agg cs)
    {c : Array Value} {t : TypeId} (hb : w.heap[b]? = some (.cells c t (0, 0))) (hn : o + cs.size ≤ c.size) (hi : (P.info? ty).map (·.size) = some cs.size) (h1 : cs.all (·.oneCell') = true)
    (h : ∀ w', w.setCells b o cs.toList = w' → wpList P ops Q rest (a.put op.dst undef) w') : wpList P ops Q (op :: rest) a w :=
  wpList_store_arr hgd ty x y ho b o cs hx hy hb hn hi h1 (h _ rfl)

theorem arr_new {w w' : World} {b : Nat} {cs c : Array Value} {t : TypeId} (hw : w.setCells b 0 cs.toList = w') (hb : w.heap[b]? = some (.cells c t (0, 0))) (hc : c.size = cs.size) :
    w'.heap[b]? = some (.cells cs t (0, 0)) ∧ Upd [b] w w' := by
  subst hw
  exact ⟨by rw [heap_setCells_same _ _ _ _ hb, wr_all c cs hc], (Upd.refl [b] w).setCells (.inl (by simp)) _ _⟩

theorem Mrm.one (m : Mrm) : m.cells.all (·.oneCell') = true := by simp [Mrm.cells, Value.oneCell']

theorem mrm_info : (Try.prog.info? 119).map (·.size) = some 3 := by kernel_rfl

theorem res_mrm {tmps : Array Value} {w : World} (a : Tmp) (b : Nat) (m : Mrm) (ha : tmps.getD a undef = .pointer (some ⟨b, 0, none⟩)) (hb : w.heap[b]? = some (.cells m.cells 119 (0, 0))) :
    (resRun tmps (.cell a 119)).run Try.prog w = .ok (.agg m.cells) w :=
  res_row a 119 b _ _ ha hb Try.underlying119 rfl mrm_info

set_option maxRecDepth 100000 in
set_option maxHeartbeats 400000 in
theorem modrm1_any (c a n : Int) (b : Nat) (w : World) (h0 : 0 ≤ c) (h1 : c < 4294967296) (ha : 0 ≤ a ∧ a < 32) (hn : 0 ≤ n ∧ n ≤ 8) (hx : w.cell? ⟨b, 0, none⟩ = some (.int .u32 c)) :
    Calls Try.prog 98 #[.int .i64 a, .int .i64 n, .pointer (some ⟨b, 0, none⟩)] w fun e w' => e = .returned (.int .i64 (c / 2 ^ a.toNat % 2 ^ n.toNat)) ∧ w = w' := by
  obtain ⟨a, rfl⟩ := Int.eq_ofNat_of_zero_le ha.1
  obtain ⟨n, rfl⟩ := Int.eq_ofNat_of_zero_le hn.1
  rw [Int.toNat_natCast, Int.toNat_natCast]
  have ha : a < 32 := by omega
  have hn : n ≤ 8 := by omega
  have hp : (0 : Int) < 2 ^ n := Int.pow_pos (by decide)
  have hq : (2 : Int) ^ n ≤ 256 := by
    have : (2 : Nat) ^ n ≤ 2 ^ 8 := Nat.pow_le_pow_right (by decide) hn
    have h2 : ((2 : Int) ^ n) = ((2 ^ n : Nat) : Int) := by push_cast; rfl
    rw [h2]; omega
  obtain ⟨z, hz⟩ : ∃ z : Int, c / 2 ^ a % 2 ^ n = z := ⟨_, rfl⟩
  have hz0 : 0 ≤ z := by rw [← hz]; exact Int.emod_nonneg _ (by omega)
  have hz1 : z < 256 := by rw [← hz]; have := Int.emod_lt_of_pos (c / 2 ^ a) hp; omega
  have HZ := Lib.hid hz
  have HC := Lib.hid (And.intro h0 (And.intro h1 (And.intro ha hn)))
  have e1 : wrap64 z = z := by unfold wrap64; omega
  clear hp hq h0 h1 ha hn hz
  go_enter Try.func98, Try.ntmps98
  go_wp2_with (go_at_call 71; refine (Field_any c a n _ HC.out.1 HC.out.2.1 HC.out.2.2.1 (by have := HC.out.2.2.2; omega)).mono ?_; rintro e w' ⟨rfl, rfl⟩; rw [HZ.out])
  go_ret
  exact ⟨ret_of (congrArg (Value.int .i64) (by first | rfl | exact HZ.out.symm)), rfl⟩

set_option maxRecDepth 100000 in
set_option maxHeartbeats 1000000 in
theorem modrm_any (d g k : Nat) (v : Value) (L : List Int) (w : World) (hD : IsDec w d v L g k) :
    Calls Try.prog 73 #[.pointer (some ⟨d, 0, none⟩)] w (DAns d v L g w (dcMrm L k) fun m => .agg m.cells) := by
  have hb := byte_any d g k v L (w.alloc (.cells #[.int .i64 0, .int .i64 0, .int .i64 0] 119)) (hD.step ((Upd.refl [] w).alloc _))
  have HD := Lib.hid hD
  have HLt := Lib.hid (lt_of_heap hD.h)
  unfold dcMrm
  cases h : dcByte L k with
  | ok c k1 =>
    obtain ⟨c0, c1, _⟩ := dcByte_ok hD.r h
    rw [h] at hb
    rw [DR.bind_ok]
    have HB := Lib.hid hb
    have q1 : c % 4294967296 = c := by omega
    have HM := Lib.hid (show c / 2 ^ (6 : Int).toNat % 2 ^ (2 : Int).toNat = (mrmOf c).mod ∧ c / 2 ^ (3 : Int).toNat % 2 ^ (3 : Int).toNat = (mrmOf c).reg ∧ c / 2 ^ (0 : Int).toNat % 2 ^ (3 : Int).toNat = (mrmOf c).rm by
      simp only [mrmOf]
      refine ⟨?_, ?_, ?_⟩
      · show c / 64 % 4 = c / 64; omega
      · show c / 8 % 8 = c / 8 % 8; rfl
      · show c / 1 % 8 = c % 8; omega)
    have HC := Lib.hid (And.intro c0 c1)
    clear hb hD h c0 c1
    go_enter Try.func73, Try.ntmps73
    go_wp2_with (first | (go_at_call 38; refine HB.out.mono ?_; rintro e w2 ⟨rfl, hD2, hu⟩; have H2 := Lib.hid (And.intro hD2 (And.intro (also_new hu) (new_kept HLt.out hu))); clear hD2 hu; have hx := cells_of (heap_alloc_new w2 (.cells #[.int .u32 c] 24)) 0) | (go_at_call 98; refine (modrm1_any c _ _ w2.heap.size _ HC.out.1 (by have := HC.out; omega) (by decide) (by decide) hx).mono ?_; rintro e w3 ⟨rfl, rfl⟩; first | rw [HM.out.1] | rw [HM.out.2.1] | rw [HM.out.2.2]) | (refine at_store 119 rfl ?_; refine wpList_store_arr' rfl 119 _ _ rfl w.heap.size 0 (mrmOf c).cells rfl rfl (heap_alloc_keep _ H2.out.2.2) (by simp [Mrm.cells]) mrm_info (Mrm.one _) ?_; intro w3 hw3; have H3 := Lib.hid (And.intro H2.out.1 (And.intro H2.out.2.1 (arr_new hw3 (heap_alloc_keep _ H2.out.2.2) rfl))); clear hw3 H2))
    obtain ⟨h1, h2⟩ := dec_fin HD.out H3.out.1 H3.out.2.1 (((Upd.refl [w.heap.size] w2).alloc _).also H3.out.2.2.2 (by simp)) (by simp)
    exact bodyPost_ret (results_one' rfl (res_mrm 2 w.heap.size _ rfl H3.out.2.2.1)) rfl ⟨rfl, h1, h2⟩
  | err c =>
    rw [h] at hb
    rw [DR.bind_err]
    have HB := Lib.hid hb
    clear hb hD h
    go_enter Try.func73, Try.ntmps73
    go_wp2_with (go_at_call 38; refine HB.out.mono ?_; rintro e w2 ⟨rfl, hu⟩)
    exact ⟨rfl, rfl, also_new hu⟩


/-! ### Tables -/
theorem range8 {n : Int} (h0 : 0 ≤ n) (h1 : n < 8) : n = 0 ∨ n = 1 ∨ n = 2 ∨ n = 3 ∨ n = 4 ∨ n = 5 ∨ n = 6 ∨ n = 7 := by omega

theorem eight_index {n : Int} (h0 : 0 ≤ n) (h1 : n < 8) (w : World) : (Instr.index 40 (.agg #[.int .i64 3, .int .i64 4, .int .i64 5, .int .i64 6, .int .i64 7, .int .i64 8, .int .i64 9, .int .i64 10]) (.int .i64 n)).run Try.prog w = .ok (.int .i64 (eightI n)) w := by
  rcases range8 h0 h1 with rfl | rfl | rfl | rfl | rfl | rfl | rfl | rfl <;> kernel_rfl

set_option maxRecDepth 100000 in
set_option maxHeartbeats 1000000 in
theorem eight_any (n : Int) (w : World) (h0 : 0 ≤ n) (h1 : n < 8) : Calls Try.prog 75 #[.int .i64 n] w fun e w' => e = .returned (.int .i64 (eightI n)) ∧ w = w' := by
  have hx := eight_index h0 h1 w
  clear h0 h1
  go_enter Try.func75, Try.ntmps75
  go_wp2
  go_ret
  exact ⟨rfl, rfl⟩

theorem shifts_index {n : Int} (h0 : 0 ≤ n) (h1 : n < 8) (w : World) : (Instr.index 40 (.agg #[.int .i64 21, .int .i64 22, .int .i64 0, .int .i64 0, .int .i64 23, .int .i64 24, .int .i64 0, .int .i64 25]) (.int .i64 n)).run Try.prog w = .ok (.int .i64 (shiftsI n)) w := by
  rcases range8 h0 h1 with rfl | rfl | rfl | rfl | rfl | rfl | rfl | rfl <;> kernel_rfl

set_option maxRecDepth 100000 in
set_option maxHeartbeats 1000000 in
theorem shifts_any (n : Int) (w : World) (h0 : 0 ≤ n) (h1 : n < 8) : Calls Try.prog 106 #[.int .i64 n] w fun e w' => e = .returned (.int .i64 (shiftsI n)) ∧ w = w' := by
  have hx := shifts_index h0 h1 w
  clear h0 h1
  go_enter Try.func106, Try.ntmps106
  go_wp2
  go_ret
  exact ⟨rfl, rfl⟩

theorem others_index {n : Int} (h0 : 0 ≤ n) (h1 : n < 8) (w : World) : (Instr.index 40 (.agg #[.int .i64 0, .int .i64 0, .int .i64 14, .int .i64 15, .int .i64 16, .int .i64 17, .int .i64 19, .int .i64 20]) (.int .i64 n)).run Try.prog w = .ok (.int .i64 (othersI n)) w := by
  rcases range8 h0 h1 with rfl | rfl | rfl | rfl | rfl | rfl | rfl | rfl <;> kernel_rfl

set_option maxRecDepth 100000 in
set_option maxHeartbeats 1000000 in
theorem others_any (n : Int) (w : World) (h0 : 0 ≤ n) (h1 : n < 8) : Calls Try.prog 108 #[.int .i64 n] w fun e w' => e = .returned (.int .i64 (othersI n)) ∧ w = w' := by
  have hx := others_index h0 h1 w
  clear h0 h1
  go_enter Try.func108, Try.ntmps108
  go_wp2
  go_ret
  exact ⟨rfl, rfl⟩

theorem numbers_index {n : Int} (h0 : 0 ≤ n) (h1 : n < 8) (w : World) : (Instr.index 40 (.agg #[.int .i64 47, .int .i64 48, .int .i64 53, .int .i64 0, .int .i64 49, .int .i64 0, .int .i64 50, .int .i64 0]) (.int .i64 n)).run Try.prog w = .ok (.int .i64 (numbersI n)) w := by
  rcases range8 h0 h1 with rfl | rfl | rfl | rfl | rfl | rfl | rfl | rfl <;> kernel_rfl

set_option maxRecDepth 100000 in
set_option maxHeartbeats 1000000 in
theorem numbers_any (n : Int) (w : World) (h0 : 0 ≤ n) (h1 : n < 8) : Calls Try.prog 107 #[.int .i64 n] w fun e w' => e = .returned (.int .i64 (numbersI n)) ∧ w = w' := by
  have hx := numbers_index h0 h1 w
  clear h0 h1
  go_enter Try.func107, Try.ntmps107
  go_wp2
  go_ret
  exact ⟨rfl, rfl⟩

theorem fld_index {n : Int} (h0 : 0 ≤ n) (h1 : n < 8) (w : World) : (Instr.index 40 (.agg #[.int .i64 45, .int .i64 0, .int .i64 0, .int .i64 46, .int .i64 0, .int .i64 0, .int .i64 0, .int .i64 0]) (.int .i64 n)).run Try.prog w = .ok (.int .i64 (fldI n)) w := by
  rcases range8 h0 h1 with rfl | rfl | rfl | rfl | rfl | rfl | rfl | rfl <;> kernel_rfl

theorem last_index {n : Int} (h0 : 0 ≤ n) (h1 : n < 8) (w : World) : (Instr.index 40 (.agg #[.int .i64 12, .int .i64 13, .int .i64 30, .int .i64 0, .int .i64 32, .int .i64 0, .int .i64 28, .int .i64 0]) (.int .i64 n)).run Try.prog w = .ok (.int .i64 (lastI n)) w := by
  rcases range8 h0 h1 with rfl | rfl | rfl | rfl | rfl | rfl | rfl | rfl <;> kernel_rfl

set_option maxRecDepth 100000 in
set_option maxHeartbeats 1000000 in
theorem bare_any (n : Int) (w : World) : Calls Try.prog 100 #[.int .i64 n] w fun e w' => e = .returned (bareI n).val ∧ Upd [] w w' := by
  have hz := heap_alloc_new w (.cells Ins.zero.cells 28)
  have HZ := Lib.hid hz
  clear hz
  go_enter Try.func100, Try.ntmps100
  go_wp2_with (refine at_store 28 rfl ?_; refine wpList_store_ins (bareI n) w.heap.size rfl _ _ rfl rfl rfl HZ.out rfl ?_; intro w2 hw; obtain ⟨h1, h2⟩ := ins_new (w0 := w) (S := []) hw HZ.out rfl ((Upd.refl [] w).alloc _) (.inr (Nat.le_refl _)))
  exact bodyPost_ret (results_one' rfl (res_ins 2 w.heap.size _ rfl h1)) rfl ⟨rfl, h2⟩

end Go.Proofs.Ytpockhoacfkjaaa
