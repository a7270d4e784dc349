/-
  Package decode: modrm, the tables, bare, place, each by its contract.
-/
import Derived.Test.YteiplidhkelkbaaMg04
import Derived.Deep.Cut
namespace Go.Proofs.Yteiplidhkelkbaa
open Go Go.RowKit
set_option linter.unusedVariables false
set_option linter.unusedSimpArgs false

theorem wr_all (c cs : Array Value) (h : c.size = cs.size) : wr c 0 cs.toList = cs := by
  apply Array.ext_getElem?
  intro k
  have hl : cs.toList.length = cs.size := Array.length_toList
  rw [wr_get _ _ _ _ (by rw [hl, h]; omega), hl]
  by_cases hk : k < cs.size
  · rw [if_pos (by omega), Nat.sub_zero, Array.getElem?_toList]
  · rw [if_neg (by omega), Array.getElem?_eq_none (by omega), Array.getElem?_eq_none (by omega)]

theorem wpList_store_arr' {P : Program} {ops : Array Oper} {rest : List Oper} {op : Oper} {a : Act} {w : World} {Q : Exit → Act → World → Prop} (hgd : op.guard = none) (ty : TypeId) (x y : Operand) (ho : op.op = .store ty x y)
    (b o : Nat) (cs : Array Value) (hx : a.eval x = .pointer (some ⟨b, o, none⟩)) (hy : a.eval y = .agg cs)
    {c : Array Value} {t : TypeId} (hb : w.heap[b]? = some (.cells c t (0, 0))) (hn : o + cs.size ≤ c.size) (hi : (P.info? ty).map (·.size) = some cs.size) (h1 : cs.all (·.oneCell') = true)
    (h : ∀ w', w.setCells b o cs.toList = w' → wpList P ops Q rest (a.put op.dst undef) w') : wpList P ops Q (op :: rest) a w :=
  wpList_store_arr hgd ty x y ho b o cs hx hy hb hn hi h1 (h _ rfl)

theorem arr_new {w w' : World} {b : Nat} {cs c : Array Value} {t : TypeId} (hw : w.setCells b 0 cs.toList = w') (hb : w.heap[b]? = some (.cells c t (0, 0))) (hc : c.size = cs.size) :
    w'.heap[b]? = some (.cells cs t (0, 0)) ∧ Upd [b] w w' := by
  subst hw
  exact ⟨by rw [heap_setCells_same _ _ _ _ hb, wr_all c cs hc], (Upd.refl [b] w).setCells (.inl (by simp)) _ _⟩

theorem Mrm.one (m : Mrm) : m.cells.all (·.oneCell') = true := by simp [Mrm.cells, Value.oneCell']

theorem mrm_info : (Try.prog.info? 87).map (·.size) = some 3 := by kernel_rfl

theorem res_mrm {tmps : Array Value} {w : World} (a : Tmp) (b : Nat) (m : Mrm) (ha : tmps.getD a undef = .pointer (some ⟨b, 0, none⟩)) (hb : w.heap[b]? = some (.cells m.cells 87 (0, 0))) :
    (resRun tmps (.cell a 87)).run Try.prog w = .ok (.agg m.cells) w :=
  res_row a 87 b _ _ ha hb Try.underlying87 rfl mrm_info

set_option maxRecDepth 100000 in
set_option maxHeartbeats 400000 in
theorem modrm1_any (c a n : Int) (b : Nat) (w : World) (h0 : 0 ≤ c) (h1 : c < 4294967296) (ha : 0 ≤ a ∧ a < 32) (hn : 0 ≤ n ∧ n ≤ 8) (hx : w.cell? ⟨b, 0, none⟩ = some (.int .u32 c)) :
    Calls Try.prog 52 #[.int .i64 a, .int .i64 n, .pointer (some ⟨b, 0, none⟩)] w fun e w' => e = .returned (.int .i64 (c / 2 ^ a.toNat % 2 ^ n.toNat)) ∧ w = w' := by
  obtain ⟨a, rfl⟩ := Int.eq_ofNat_of_zero_le ha.1
  obtain ⟨n, rfl⟩ := Int.eq_ofNat_of_zero_le hn.1
  rw [Int.toNat_natCast, Int.toNat_natCast]
  have ha : a < 32 := by omega
  have hn : n ≤ 8 := by omega
  have hp : (0 : Int) < 2 ^ n := Int.pow_pos (by decide)
  have hq : (2 : Int) ^ n ≤ 256 := by
    have : (2 : Nat) ^ n ≤ 2 ^ 8 := Nat.pow_le_pow_right (by decide) hn
    have h2 : ((2 : Int) ^ n) = ((2 ^ n : Nat) : Int) := by push_cast; rfl
    rw [h2]; omega
  obtain ⟨z, hz⟩ : ∃ z : Int, c / 2 ^ a % 2 ^ n = z := ⟨_, rfl⟩
  have hz0 : 0 ≤ z := by rw [← hz]; exact Int.emod_nonneg _ (by omega)
  have hz1 : z < 256 := by rw [← hz]; have := Int.emod_lt_of_pos (c / 2 ^ a) hp; omega
  have HZ := Lib.hid hz
  have HC := Lib.hid (And.intro h0 (And.intro h1 (And.intro ha hn)))
  have e1 : wrap64 z = z := by unfold wrap64; omega
  clear hp hq h0 h1 ha hn hz
  go_enter Try.func52, Try.ntmps52
  go_wp2_with (go_at_call 41; refine (Field_any c a n _ HC.out.1 HC.out.2.1 HC.out.2.2.1 (by have := HC.out.2.2.2; omega)).mono ?_; rintro e w' ⟨rfl, rfl⟩; rw [HZ.out])
  go_ret
  exact ⟨ret_of (congrArg (Value.int .i64) (by first | rfl | exact HZ.out.symm)), rfl⟩

set_option maxRecDepth 100000 in
set_option maxHeartbeats 1000000 in
theorem modrm_any (d g k : Nat) (v : Value) (L : List Int) (w : World) (hD : IsDec w d v L g k) :
    Calls Try.prog 43 #[.pointer (some ⟨d, 0, none⟩)] w (DAns d v L g w (dcMrm L k) fun m => .agg m.cells) := by
  have hb := byte_any d g k v L (w.alloc (.cells #[.int .i64 0, .int .i64 0, .int .i64 0] 87)) (hD.step ((Upd.refl [] w).alloc _))
  have HD := Lib.hid hD
  have HLt := Lib.hid (lt_of_heap hD.h)
  unfold dcMrm
  cases h : dcByte L k with
  | ok c k1 =>
    obtain ⟨c0, c1, _⟩ := dcByte_ok hD.r h
    rw [h] at hb
    rw [DR.bind_ok]
    have HB := Lib.hid hb
    have q1 : c % 4294967296 = c := by omega
    have HM := Lib.hid (show c / 2 ^ (6 : Int).toNat % 2 ^ (2 : Int).toNat = (mrmOf c).mod ∧ c / 2 ^ (3 : Int).toNat % 2 ^ (3 : Int).toNat = (mrmOf c).reg ∧ c / 2 ^ (0 : Int).toNat % 2 ^ (3 : Int).toNat = (mrmOf c).rm by
      simp only [mrmOf]
      refine ⟨?_, ?_, ?_⟩
      · show c / 64 % 4 = c / 64; omega
      · show c / 8 % 8 = c / 8 % 8; rfl
      · show c / 1 % 8 = c % 8; omega)
    have HC := Lib.hid (And.intro c0 c1)
    clear hb hD h c0 c1
    go_enter Try.func43, Try.ntmps43
    go_wp2_with (first | (go_at_call 32; refine HB.out.mono ?_; rintro e w2 ⟨rfl, hD2, hu⟩; have H2 := Lib.hid (And.intro hD2 (And.intro (also_new hu) (new_kept HLt.out hu))); clear hD2 hu; have hx := cells_of (heap_alloc_new w2 (.cells #[.int .u32 c] 27)) 0) | (go_at_call 52; refine (modrm1_any c _ _ w2.heap.size _ HC.out.1 (by have := HC.out; omega) (by decide) (by decide) hx).mono ?_; rintro e w3 ⟨rfl, rfl⟩; first | rw [HM.out.1] | rw [HM.out.2.1] | rw [HM.out.2.2]) | (refine at_store 87 rfl ?_; refine wpList_store_arr' rfl 87 _ _ rfl w.heap.size 0 (mrmOf c).cells rfl rfl (heap_alloc_keep _ H2.out.2.2) (by simp [Mrm.cells]) mrm_info (Mrm.one _) ?_; intro w3 hw3; have H3 := Lib.hid (And.intro H2.out.1 (And.intro H2.out.2.1 (arr_new hw3 (heap_alloc_keep _ H2.out.2.2) rfl))); clear hw3 H2))
    obtain ⟨h1, h2⟩ := dec_fin HD.out H3.out.1 H3.out.2.1 (((Upd.refl [w.heap.size] w2).alloc _).also H3.out.2.2.2 (by simp)) (by simp)
    exact bodyPost_ret (results_one' rfl (res_mrm 2 w.heap.size _ rfl H3.out.2.2.1)) rfl ⟨rfl, h1, h2⟩
  | err c =>
    rw [h] at hb
    rw [DR.bind_err]
    have HB := Lib.hid hb
    clear hb hD h
    go_enter Try.func43, Try.ntmps43
    go_wp2_with (go_at_call 32; refine HB.out.mono ?_; rintro e w2 ⟨rfl, hu⟩)
    exact ⟨rfl, rfl, also_new hu⟩


/-! ### Tables -/
theorem range8 {n : Int} (h0 : 0 ≤ n) (h1 : n < 8) : n = 0 ∨ n = 1 ∨ n = 2 ∨ n = 3 ∨ n = 4 ∨ n = 5 ∨ n = 6 ∨ n = 7 := by omega

theorem eight_index {n : Int} (h0 : 0 ≤ n) (h1 : n < 8) (w : World) : (Instr.index 95 (.agg #[.int .i64 3, .int .i64 4, .int .i64 5, .int .i64 6, .int .i64 7, .int .i64 8, .int .i64 9, .int .i64 10]) (.int .i64 n)).run Try.prog w = .ok (.int .i64 (eightI n)) w := by
  rcases range8 h0 h1 with rfl | rfl | rfl | rfl | rfl | rfl | rfl | rfl <;> kernel_rfl

set_option maxRecDepth 100000 in
set_option maxHeartbeats 1000000 in
theorem eight_any (n : Int) (w : World) (h0 : 0 ≤ n) (h1 : n < 8) : Calls Try.prog 45 #[.int .i64 n] w fun e w' => e = .returned (.int .i64 (eightI n)) ∧ w = w' := by
  have hx := eight_index h0 h1 w
  clear h0 h1
  go_enter Try.func45, Try.ntmps45
  go_wp2
  go_ret
  exact ⟨rfl, rfl⟩

theorem shifts_index {n : Int} (h0 : 0 ≤ n) (h1 : n < 8) (w : World) : (Instr.index 95 (.agg #[.int .i64 21, .int .i64 22, .int .i64 0, .int .i64 0, .int .i64 23, .int .i64 24, .int .i64 0, .int .i64 25]) (.int .i64 n)).run Try.prog w = .ok (.int .i64 (shiftsI n)) w := by
  rcases range8 h0 h1 with rfl | rfl | rfl | rfl | rfl | rfl | rfl | rfl <;> kernel_rfl

set_option maxRecDepth 100000 in
set_option maxHeartbeats 1000000 in
theorem shifts_any (n : Int) (w : World) (h0 : 0 ≤ n) (h1 : n < 8) : Calls Try.prog 60 #[.int .i64 n] w fun e w' => e = .returned (.int .i64 (shiftsI n)) ∧ w = w' := by
  have hx := shifts_index h0 h1 w
  clear h0 h1
  go_enter Try.func60, Try.ntmps60
  go_wp2
  go_ret
  exact ⟨rfl, rfl⟩

theorem others_index {n : Int} (h0 : 0 ≤ n) (h1 : n < 8) (w : World) : (Instr.index 95 (.agg #[.int .i64 0, .int .i64 0, .int .i64 14, .int .i64 15, .int .i64 16, .int .i64 17, .int .i64 19, .int .i64 20]) (.int .i64 n)).run Try.prog w = .ok (.int .i64 (othersI n)) w := by
  rcases range8 h0 h1 with rfl | rfl | rfl | rfl | rfl | rfl | rfl | rfl <;> kernel_rfl

set_option maxRecDepth 100000 in
set_option maxHeartbeats 1000000 in
theorem others_any (n : Int) (w : World) (h0 : 0 ≤ n) (h1 : n < 8) : Calls Try.prog 62 #[.int .i64 n] w fun e w' => e = .returned (.int .i64 (othersI n)) ∧ w = w' := by
  have hx := others_index h0 h1 w
  clear h0 h1
  go_enter Try.func62, Try.ntmps62
  go_wp2
  go_ret
  exact ⟨rfl, rfl⟩

theorem numbers_index {n : Int} (h0 : 0 ≤ n) (h1 : n < 8) (w : World) : (Instr.index 95 (.agg #[.int .i64 47, .int .i64 48, .int .i64 53, .int .i64 0, .int .i64 49, .int .i64 0, .int .i64 50, .int .i64 0]) (.int .i64 n)).run Try.prog w = .ok (.int .i64 (numbersI n)) w := by
  rcases range8 h0 h1 with rfl | rfl | rfl | rfl | rfl | rfl | rfl | rfl <;> kernel_rfl

set_option maxRecDepth 100000 in
set_option maxHeartbeats 1000000 in
theorem numbers_any (n : Int) (w : World) (h0 : 0 ≤ n) (h1 : n < 8) : Calls Try.prog 61 #[.int .i64 n] w fun e w' => e = .returned (.int .i64 (numbersI n)) ∧ w = w' := by
  have hx := numbers_index h0 h1 w
  clear h0 h1
  go_enter Try.func61, Try.ntmps61
  go_wp2
  go_ret
  exact ⟨rfl, rfl⟩

theorem fld_index {n : Int} (h0 : 0 ≤ n) (h1 : n < 8) (w : World) : (Instr.index 95 (.agg #[.int .i64 45, .int .i64 0, .int .i64 0, .int .i64 46, .int .i64 0, .int .i64 0, .int .i64 0, .int .i64 0]) (.int .i64 n)).run Try.prog w = .ok (.int .i64 (fldI n)) w := by
  rcases range8 h0 h1 with rfl | rfl | rfl | rfl | rfl | rfl | rfl | rfl <;> kernel_rfl

theorem last_index {n : Int} (h0 : 0 ≤ n) (h1 : n < 8) (w : World) : (Instr.index 95 (.agg #[.int .i64 12, .int .i64 13, .int .i64 30, .int .i64 0, .int .i64 32, .int .i64 0, .int .i64 28, .int .i64 0]) (.int .i64 n)).run Try.prog w = .ok (.int .i64 (lastI n)) w := by
  rcases range8 h0 h1 with rfl | rfl | rfl | rfl | rfl | rfl | rfl | rfl <;> kernel_rfl

set_option maxRecDepth 100000 in
set_option maxHeartbeats 1000000 in
theorem bare_any (n : Int) (w : World) : Calls Try.prog 54 #[.int .i64 n] w fun e w' => e = .returned (bareI n).val ∧ Upd [] w w' := by
  have hz := heap_alloc_new w (.cells Ins.zero.cells 38)
  have HZ := Lib.hid hz
  clear hz
  go_enter Try.func54, Try.ntmps54
  go_wp2_with (refine at_store 38 rfl ?_; refine wpList_store_ins (bareI n) w.heap.size rfl _ _ rfl rfl rfl HZ.out rfl ?_; intro w2 hw; obtain ⟨h1, h2⟩ := ins_new (w0 := w) (S := []) hw HZ.out rfl ((Upd.refl [] w).alloc _) (.inr (Nat.le_refl _)))
  exact bodyPost_ret (results_one' rfl (res_ins 2 w.heap.size _ rfl h1)) rfl ⟨rfl, h2⟩

end Go.Proofs.Yteiplidhkelkbaa

/-
  Package decode: place, by its contract.
-/
namespace Go.Proofs.Yteiplidhkelkbaa
open Go Go.RowKit
set_option linter.unusedVariables false
set_option linter.unusedSimpArgs false

theorem Field_i (x a n : Int) (w : World) (h0 : 0 ≤ x) (h1 : x < 4294967296) (ha : 0 ≤ a ∧ a < 32) (hn : 0 ≤ n ∧ n ≤ 32) :
    Calls Try.prog 41 #[.int .u32 x, .int .i64 a, .int .i64 n] w fun e w' => e = .returned (.int .u32 (x / 2 ^ a.toNat % 2 ^ n.toNat)) ∧ w = w' := by
  obtain ⟨a, rfl⟩ := Int.eq_ofNat_of_zero_le ha.1
  obtain ⟨n, rfl⟩ := Int.eq_ofNat_of_zero_le hn.1
  exact Field_any x a n w h0 h1 (by omega) (by omega)

structure Mrm.Ok (m : Mrm) : Prop where
  mod : 0 ≤ m.mod ∧ m.mod ≤ 3
  reg : 0 ≤ m.reg ∧ m.reg < 8
  rm : 0 ≤ m.rm ∧ m.rm < 8

theorem mrmOf_ok {c : Int} (h0 : 0 ≤ c) (h1 : c ≤ 255) : (mrmOf c).Ok := ⟨by simp only [mrmOf]; omega, by simp only [mrmOf]; omega, by simp only [mrmOf]; omega⟩

theorem dcMrm_ok {L : List Int} {k k1 : Nat} {m : Mrm} (hL : BOk L) (h : dcMrm L k = .ok m k1) : m.Ok := by
  unfold dcMrm at h
  cases hb : dcByte L k with
  | err c => rw [hb] at h; cases h
  | ok c k2 =>
    rw [hb, DR.bind_ok] at h
    injection h with h1 h2
    subst h1
    obtain ⟨c0, c1, _⟩ := dcByte_ok hL hb
    exact mrmOf_ok c0 c1

/-- Where place stands ahead of the operand's distance. -/
structure PlS (w : World) (d : Nat) (v : Value) (L : List Int) (g k : Nat) (m : Mrm) (o : Opd) (w2 : World) : Prop where
  dd : IsDec w2 d v L g k
  uu : Upd [d] w w2
  mm : w2.heap[w.heap.size]? = some (.cells m.cells 87 (0, 0))
  rr : w2.heap[w.heap.size + 1]? = some (.cells Opd.none.cells 36 (0, 0))
  oo : w2.heap[w.heap.size + 1 + 1]? = some (.cells o.cells 36 (0, 0))
  nn : d < w.heap.size

theorem PlS.start {w : World} {d : Nat} {v : Value} {L : List Int} {g k : Nat} (h : IsDec w d v L g k) (m : Mrm) (o : Opd) :
    PlS w d v L g k m o (((w.alloc (.cells m.cells 87)).alloc (.cells Opd.none.cells 36)).alloc (.cells o.cells 36)) := by
  have u : Upd [] w (((w.alloc (.cells m.cells 87)).alloc (.cells Opd.none.cells 36)).alloc (.cells o.cells 36)) := (((Upd.refl [] w).alloc _).alloc _).alloc _
  refine ⟨h.step u, u.mono (by simp), heap_alloc_keep _ (heap_alloc_keep _ (heap_alloc_new _ _)), heap_alloc_keep _ (heap_alloc2_new _ _ _), ?_, lt_of_heap h.h⟩
  have := heap_alloc2_new (w.alloc (.cells m.cells 87)) (.cells Opd.none.cells 36) (.cells o.cells 36)
  simpa using this

section
variable {w w2 w3 : World} {d : Nat} {v : Value} {L : List Int} {g k k' : Nat} {m : Mrm} {o o' : Opd}

theorem PlS.step (h : PlS w d v L g k m o w2) (hd : IsDec w3 d v L g k') (u : Upd [d] w2 w3) : PlS w d v L g k' m o w3 := by
  have hn := h.nn
  exact ⟨hd, h.uu.also u (by simp), u.get h.mm (by simp; omega), u.get h.rr (by simp; omega), u.get h.oo (by simp; omega), hn⟩

theorem PlS.set (h : PlS w d v L g k m o w2) (hD0 : IsDec w d v L g k') (j : Nat) (x : Value) (ho : o.cells.setIfInBounds j x = o'.cells) : PlS w d v L g k m o' (w2.setCell ⟨w.heap.size + 1 + 1, j, none⟩ x) := by
  have hn := h.nn
  have u : Upd [w.heap.size + 1 + 1] w2 (w2.setCell ⟨w.heap.size + 1 + 1, j, none⟩ x) := (Upd.refl _ w2).setCell (by simp) _
  obtain ⟨h1, h2⟩ := dec_fin hD0 h.dd h.uu u (by simp; omega)
  have ho' := heap_set_same h.oo j x
  rw [ho] at ho'
  exact ⟨h1, h2, u.get h.mm (by simp; omega), u.get h.rr (by simp), ho', hn⟩

theorem PlS.fin (h : PlS w d v L g k m o w2) (hD0 : IsDec w d v L g k') (u : Upd [w.heap.size + 1] w2 w3) : IsDec w3 d v L g k ∧ Upd [d] w w3 :=
  dec_fin hD0 h.dd h.uu u (by simp)
end

set_option maxRecDepth 100000 in
set_option maxHeartbeats 8000000 in
theorem place_reg (d g k : Nat) (v : Value) (L : List Int) (m : Mrm) (w : World) (hD : IsDec w d v L g k) (hok : m.Ok) (h3 : m.mod = 3) :
    Calls Try.prog 51 #[.pointer (some ⟨d, 0, none⟩), .agg m.cells] w (DAns d v L g w (.ok (regO m.rm) k) Opd.val) := by
  have e3 : (m.mod == 3) = true := by simpa using h3
  have HD := Lib.hid hD
  have HLt := Lib.hid (lt_of_heap hD.h)
  have HZ := Lib.hid (show ((w.alloc (.cells m.cells 87)).alloc (.cells Opd.none.cells 36)).heap[w.heap.size + 1]? = some (.cells Opd.none.cells 36 (0, 0)) from heap_alloc2_new _ _ _)
  clear hD hok h3
  have cm := cells_of (heap_alloc_keep (.cells Opd.none.cells 36) (heap_alloc_new w (.cells m.cells 87)))
  unfold Mrm.cells at cm
  unfold Mrm.cells
  go_enter Try.func51, Try.ntmps51
  go_wp2_with (first | (go_at_call 35; refine (dreg_any m.rm _).mono ?_; rintro e w2 ⟨rfl, hu⟩; have H2 := Lib.hid (And.intro hu (hu.get HZ.out (by simp))); clear hu) | (refine at_store 36 rfl ?_; refine wpList_store_opd (regO m.rm) (w.heap.size + 1) 0 rfl _ _ rfl rfl rfl H2.out.2 (by decide) ?_; intro w3 hw3; have H3 := Lib.hid (And.intro H2.out.1 (opd_new hw3 H2.out.2 rfl)); clear hw3 H2))
  have u : Upd [] w w2 := (((Upd.refl [] w).alloc _).alloc _).also H3.out.1 (by simp)
  obtain ⟨h1, h2⟩ := dec_fin HD.out (HD.out.step u) (u.mono (by simp)) H3.out.2.2 (by simp)
  exact bodyPost_ret (results_one' rfl (res_opd 4 (w.heap.size + 1) _ rfl H3.out.2.1)) rfl ⟨rfl, h1, h2⟩

set_option maxRecDepth 100000 in
set_option maxHeartbeats 8000000 in
theorem place_rm (d g k : Nat) (v : Value) (L : List Int) (m : Mrm) (w : World) (hD : IsDec w d v L g k) (hok : m.Ok) (h3 : m.mod ≠ 3) (h4 : m.rm ≠ 4) :
    Calls Try.prog 51 #[.pointer (some ⟨d, 0, none⟩), .agg m.cells] w (DAns d v L g w (dcTail L m.mod m.rm (-1) 1 k) Opd.val) := by
  have e3 : (m.mod == 3) = false := by simpa using h3
  have e4 : (m.rm == 4) = false := by simpa using h4
  have HD := Lib.hid hD
  have S := Lib.hid (PlS.start hD m ⟨3, 0, 0, m.rm, -1, 1⟩)
  clear hD hok h3 h4
  unfold Mrm.cells
  go_enter Try.func51, Try.ntmps51
  go_upto_region 12 with fail
  by_cases hm1 : m.mod = 1
  · have e1 : (m.mod == 1) = true := by simpa using hm1
    have hb := byte_any d g k v L _ S.out.dd
    cases h : dcByte L k with
    | err c =>
      have HT := Lib.hid (show dcTail L m.mod m.rm (-1) 1 k = .err c by rw [dcTail, if_pos hm1, h]; rfl)
      rw [h] at hb
      have HB := Lib.hid hb
      clear hb h hm1
      have cm := cells_of S.out.mm; unfold Mrm.cells at cm; have co := cells_of S.out.oo; unfold Opd.cells at co; have fo := free_of S.out.oo
      go_wp2_with (go_at_call 32; refine HB.out.mono ?_; rintro e w8 ⟨rfl, hu⟩)
      refine ⟨rfl, ?_⟩
      show DAns d v L g w (dcTail L m.mod m.rm (-1) 1 k) Opd.val _ _; rw [HT.out]
      exact ⟨rfl, S.out.uu.also hu (by simp)⟩
    | ok c k1 =>
      obtain ⟨c0, c1, hk0⟩ := dcByte_ok S.out.dd.r h
      clear hk0
      have HT := Lib.hid (show dcTail L m.mod m.rm (-1) 1 k = .ok ⟨3, 0, sx8 c, m.rm, (-1), 1⟩ k1 by rw [dcTail, if_pos hm1, h]; rfl)
      rw [h] at hb
      have HB := Lib.hid hb
      have HR := Lib.hid (And.intro c0 c1)
      have q1 : c % 4294967296 = c := by omega
      have q2 := sx8_eq c0 c1
      clear hb h c0 c1 hm1
      have cm := cells_of S.out.mm; unfold Mrm.cells at cm; have co := cells_of S.out.oo; unfold Opd.cells at co; have fo := free_of S.out.oo
      go_upto_region 19 with (first | (go_at_call 32; refine HB.out.mono ?_; rintro e w8 ⟨rfl, hD8, hu⟩; have S8 := Lib.hid (S.out.step hD8 hu); clear hD8 hu co fo; have co := cells_of S8.out.oo; unfold Opd.cells at co; have fo := free_of S8.out.oo) | (go_at_call 46; refine (Sign8_any c _ HR.out.1 (by have := HR.out; omega)).mono ?_; rintro e w9 ⟨rfl, rfl⟩; rw [q2]))
      have S9 := Lib.hid (S8.out.set (o' := ⟨3, 0, sx8 c, m.rm, (-1), 1⟩) HD.out 2 (.int .u32 (sx8 c)) rfl)
      clear S8 co fo
      have co := cells_of S9.out.oo
      unfold Opd.cells at co
      go_wp2_with (refine at_store 36 rfl ?_; refine wpList_store_opd ⟨3, 0, sx8 c, m.rm, (-1), 1⟩ (w.heap.size + 1) 0 rfl _ _ rfl rfl rfl S9.out.rr (by decide) ?_; intro w9 hw9; have H9 := Lib.hid (And.intro S9 (opd_new hw9 S9.out.rr rfl)); clear hw9)
      obtain ⟨q1, q2⟩ := H9.out.1.out.fin HD.out H9.out.2.2
      exact bodyPost_ret (results_one' rfl (res_opd 4 (w.heap.size + 1) _ rfl H9.out.2.1)) rfl (by show DAns d v L g w (dcTail L m.mod m.rm (-1) 1 k) Opd.val _ _; rw [HT.out]; exact ⟨rfl, q1, q2⟩)
  · have e1 : (m.mod == 1) = false := by simpa using hm1
    by_cases hm2 : m.mod = 2
    · have e2 : (m.mod == 2) = true := by simpa using hm2
      have cm := cells_of S.out.mm; unfold Mrm.cells at cm; have co := cells_of S.out.oo; unfold Opd.cells at co; have fo := free_of S.out.oo
      by_cases h : k + 4 ≤ L.length
      · have HB := Lib.hid (word_next d g k v L _ S.out.dd h)
        have HT := Lib.hid (show dcTail L m.mod m.rm (-1) 1 k = .ok ⟨3, 0, wordAt L k, m.rm, (-1), 1⟩ (k + 4) by rw [dcTail, if_neg hm1, if_pos hm2, dcWord, if_pos h]; rfl)
        clear h hm1 hm2
        go_upto_region 19 with (first | (go_at_call 40; refine HB.out.mono ?_; rintro e w7 ⟨o7, c7, rfl, hw⟩; have HW := Lib.hid (hw _ rfl); clear hw) | (go_at_call 47; refine HW.out.mono ?_; rintro e w8 ⟨rfl, hD8, hu⟩; have S8 := Lib.hid (S.out.step hD8 hu); clear hD8 hu co fo; have co := cells_of S8.out.oo; unfold Opd.cells at co; have fo := free_of S8.out.oo))
        have S9 := Lib.hid (S8.out.set (o' := ⟨3, 0, wordAt L k, m.rm, (-1), 1⟩) HD.out 2 (.int .u32 (wordAt L k)) rfl)
        clear S8 co fo
        have co := cells_of S9.out.oo
        unfold Opd.cells at co
        go_wp2_with (refine at_store 36 rfl ?_; refine wpList_store_opd ⟨3, 0, wordAt L k, m.rm, (-1), 1⟩ (w.heap.size + 1) 0 rfl _ _ rfl rfl rfl S9.out.rr (by decide) ?_; intro w9 hw9; have H9 := Lib.hid (And.intro S9 (opd_new hw9 S9.out.rr rfl)); clear hw9)
        obtain ⟨q1, q2⟩ := H9.out.1.out.fin HD.out H9.out.2.2
        exact bodyPost_ret (results_one' rfl (res_opd 4 (w.heap.size + 1) _ rfl H9.out.2.1)) rfl (by show DAns d v L g w (dcTail L m.mod m.rm (-1) 1 k) Opd.val _ _; rw [HT.out]; exact ⟨rfl, q1, q2⟩)
      · have HB := Lib.hid (next_no d g k 4 v L _ S.out.dd (by decide) (by omega))
        have HT := Lib.hid (show dcTail L m.mod m.rm (-1) 1 k = .err 10 by rw [dcTail, if_neg hm1, if_pos hm2, dcWord, if_neg h]; rfl)
        clear h hm1 hm2
        go_wp2_with (go_at_call 40; refine HB.out.mono ?_; rintro e w8 ⟨rfl, hu⟩)
        refine ⟨rfl, ?_⟩
        show DAns d v L g w (dcTail L m.mod m.rm (-1) 1 k) Opd.val _ _; rw [HT.out]
        exact ⟨rfl, S.out.uu.also hu (by simp)⟩
    · have e2 : (m.mod == 2) = false := by simpa using hm2
      by_cases hm5 : m.rm = 5
      · have e5 : (m.rm == 5) = true := by simpa using hm5
        have HM := Lib.hid (And.intro hm1 (And.intro hm2 hm5))
        clear hm1 hm2 hm5
        have cm := cells_of S.out.mm; unfold Mrm.cells at cm; have co := cells_of S.out.oo; unfold Opd.cells at co; have fo := free_of S.out.oo
        go_upto_region 18 with fail
        have S6 := Lib.hid (PlS.start HD.out m ⟨3, 0, 0, -1, (-1), 1⟩)
        clear co fo
        have co := cells_of S6.out.oo
        unfold Opd.cells at co
        have fo := free_of S6.out.oo
        by_cases h : k + 4 ≤ L.length
        · have HB := Lib.hid (word_next d g k v L _ S6.out.dd h)
          have HT := Lib.hid (show dcTail L m.mod m.rm (-1) 1 k = .ok ⟨3, 0, wordAt L k, -1, (-1), 1⟩ (k + 4) by rw [dcTail, if_neg HM.out.1, if_neg HM.out.2.1, if_pos HM.out.2.2, dcWord, if_pos h]; rfl)
          clear h 
          go_upto_region 19 with (first | (go_at_call 40; refine HB.out.mono ?_; rintro e w7 ⟨o7, c7, rfl, hw⟩; have HW := Lib.hid (hw _ rfl); clear hw) | (go_at_call 47; refine HW.out.mono ?_; rintro e w8 ⟨rfl, hD8, hu⟩; have S8 := Lib.hid (S6.out.step hD8 hu); clear hD8 hu co fo; have co := cells_of S8.out.oo; unfold Opd.cells at co; have fo := free_of S8.out.oo))
          have S9 := Lib.hid (S8.out.set (o' := ⟨3, 0, wordAt L k, -1, (-1), 1⟩) HD.out 2 (.int .u32 (wordAt L k)) rfl)
          clear S8 co fo
          have co := cells_of S9.out.oo
          unfold Opd.cells at co
          go_wp2_with (refine at_store 36 rfl ?_; refine wpList_store_opd ⟨3, 0, wordAt L k, -1, (-1), 1⟩ (w.heap.size + 1) 0 rfl _ _ rfl rfl rfl S9.out.rr (by decide) ?_; intro w9 hw9; have H9 := Lib.hid (And.intro S9 (opd_new hw9 S9.out.rr rfl)); clear hw9)
          obtain ⟨q1, q2⟩ := H9.out.1.out.fin HD.out H9.out.2.2
          exact bodyPost_ret (results_one' rfl (res_opd 4 (w.heap.size + 1) _ rfl H9.out.2.1)) rfl (by show DAns d v L g w (dcTail L m.mod m.rm (-1) 1 k) Opd.val _ _; rw [HT.out]; exact ⟨rfl, q1, q2⟩)
        · have HB := Lib.hid (next_no d g k 4 v L _ S6.out.dd (by decide) (by omega))
          have HT := Lib.hid (show dcTail L m.mod m.rm (-1) 1 k = .err 10 by rw [dcTail, if_neg HM.out.1, if_neg HM.out.2.1, if_pos HM.out.2.2, dcWord, if_neg h]; rfl)
          clear h 
          go_wp2_with (go_at_call 40; refine HB.out.mono ?_; rintro e w8 ⟨rfl, hu⟩)
          refine ⟨rfl, ?_⟩
          show DAns d v L g w (dcTail L m.mod m.rm (-1) 1 k) Opd.val _ _; rw [HT.out]
          exact ⟨rfl, S6.out.uu.also hu (by simp)⟩
      · have e5 : (m.rm == 5) = false := by simpa using hm5
        have HT := Lib.hid (show dcTail L m.mod m.rm (-1) 1 k = .ok ⟨3, 0, 0, m.rm, (-1), 1⟩ k by rw [dcTail, if_neg hm1, if_neg hm2, if_neg hm5])
        clear hm1 hm2 hm5
        have cm := cells_of S.out.mm; unfold Mrm.cells at cm; have co := cells_of S.out.oo; unfold Opd.cells at co; have fo := free_of S.out.oo
        go_wp2_with (refine at_store 36 rfl ?_; refine wpList_store_opd ⟨3, 0, 0, m.rm, (-1), 1⟩ (w.heap.size + 1) 0 rfl _ _ rfl rfl rfl S.out.rr (by decide) ?_; intro w9 hw9; have H9 := Lib.hid (And.intro S (opd_new hw9 S.out.rr rfl)); clear hw9)
        obtain ⟨q1, q2⟩ := H9.out.1.out.fin HD.out H9.out.2.2
        exact bodyPost_ret (results_one' rfl (res_opd 4 (w.heap.size + 1) _ rfl H9.out.2.1)) rfl (by show DAns d v L g w (dcTail L m.mod m.rm (-1) 1 k) Opd.val _ _; rw [HT.out]; exact ⟨rfl, q1, q2⟩)

set_option maxRecDepth 100000 in
set_option maxHeartbeats 8000000 in
theorem place_sib (d g k : Nat) (v : Value) (L : List Int) (m : Mrm) (w : World) (hD : IsDec w d v L g k) (hok : m.Ok) (h3 : m.mod ≠ 3) (h4 : m.rm = 4) (c : Int) (k0 : Nat) (hb : dcByte L k = .ok c k0) (hx : c / 8 % 8 ≠ 4) :
    Calls Try.prog 51 #[.pointer (some ⟨d, 0, none⟩), .agg m.cells] w (DAns d v L g w (dcTail L m.mod (c % 8) (c / 8 % 8) (2 ^ (c / 64).toNat) k0) Opd.val) := by
  have e3 : (m.mod == 3) = false := by simpa using h3
  have e4 : (m.rm == 4) = true := by simpa using h4
  have HD := Lib.hid hD
  have S0 := Lib.hid (PlS.start hD m ⟨3, 0, 0, m.rm, -1, 1⟩)
  obtain ⟨c0, c1, hk0⟩ := dcByte_ok hD.r hb
  clear hk0
  have h := byte_any d g k v L _ S0.out.dd
  rw [hb] at h
  have HB := Lib.hid h
  obtain ⟨z, hz, hz3⟩ : ∃ z : Nat, c / 64 = z ∧ z < 4 := ⟨(c / 64).toNat, by omega, by omega⟩
  have hsc : (2 : Int) ^ min z 32 % 4294967296 = 2 ^ (c / 64).toNat := by
    rw [hz, Int.toNat_natCast]
    rcases (show z = 0 ∨ z = 1 ∨ z = 2 ∨ z = 3 by omega) with rfl | rfl | rfl | rfl <;> rfl
  obtain ⟨sc, hsc0⟩ : ∃ sc : Int, (2 : Int) ^ (c / 64).toNat = sc := ⟨_, rfl⟩
  rw [hsc0] at hsc
  obtain ⟨bs, hbs⟩ : ∃ bs : Int, c % 8 = bs := ⟨_, rfl⟩
  obtain ⟨ix, hix⟩ : ∃ ix : Int, c / 8 % 8 = ix := ⟨_, rfl⟩
  have HF := Lib.hid (show c / 2 ^ (0 : Int).toNat % 2 ^ (3 : Int).toNat = bs ∧ c / 2 ^ (3 : Int).toNat % 2 ^ (3 : Int).toNat = ix ∧ c / 2 ^ (6 : Int).toNat % 2 ^ (2 : Int).toNat = z by
    refine ⟨?_, ?_, ?_⟩
    · show c / 1 % 8 = bs; omega
    · show c / 8 % 8 = ix; omega
    · show c / 64 % 4 = (z : Int); omega)
  have qb : wrap64 bs = bs := by unfold wrap64; omega
  have qi : wrap64 ix = ix := by unfold wrap64; omega
  have qc : c % 4294967296 = c := by omega
  have HC := Lib.hid (And.intro c0 c1)
  have e6 : (ix == 4) = false := by rw [← hix]; simpa using hx
  rw [hbs, hix, hsc0]
  clear hD hok h3 h4 h hb c0 c1 hx hz hz3 hsc0 hbs hix
  have e6' : (ix != 4) = true := by rw [bne, e6]; rfl
  unfold Mrm.cells
  go_enter Try.func51, Try.ntmps51
  go_upto_region 12 with (first | (go_at_call 32; refine HB.out.mono ?_; rintro e w5 ⟨rfl, hD5, hu⟩; have S5 := Lib.hid (S0.out.step hD5 hu); clear hD5 hu S0; have co := cells_of S5.out.oo; unfold Opd.cells at co; have fo := free_of S5.out.oo) | (go_at_call 41; refine (Field_i c _ _ _ HC.out.1 (by have := HC.out; omega) (by decide) (by decide)).mono ?_; rintro e w6 ⟨rfl, rfl⟩; first | rw [HF.out.1] | rw [HF.out.2.1] | rw [HF.out.2.2]))
  have S := Lib.hid (((S5.out.set (o' := ⟨3, 0, 0, bs, -1, 1⟩) HD.out 3 (.int .i64 bs) rfl).set (o' := ⟨3, 0, 0, bs, ix, 1⟩) HD.out 4 (.int .i64 ix) rfl).set (o' := ⟨3, 0, 0, bs, ix, sc⟩) HD.out 5 (.int .u32 sc) rfl)
  clear S5 co fo
  by_cases hm1 : m.mod = 1
  · have e1 : (m.mod == 1) = true := by simpa using hm1
    have hb := byte_any d g k0 v L _ S.out.dd
    cases h : dcByte L k0 with
    | err c =>
      have HT := Lib.hid (show dcTail L m.mod bs ix sc k0 = .err c by rw [dcTail, if_pos hm1, h]; rfl)
      rw [h] at hb
      have HB := Lib.hid hb
      clear hb h hm1
      have cm := cells_of S.out.mm; unfold Mrm.cells at cm; have co := cells_of S.out.oo; unfold Opd.cells at co; have fo := free_of S.out.oo
      go_wp2_with (go_at_call 32; refine HB.out.mono ?_; rintro e w8 ⟨rfl, hu⟩)
      refine ⟨rfl, ?_⟩
      show DAns d v L g w (dcTail L m.mod bs ix sc k0) Opd.val _ _; rw [HT.out]
      exact ⟨rfl, S.out.uu.also hu (by simp)⟩
    | ok c k1 =>
      obtain ⟨c0, c1, hk0⟩ := dcByte_ok S.out.dd.r h
      clear hk0
      have HT := Lib.hid (show dcTail L m.mod bs ix sc k0 = .ok ⟨3, 0, sx8 c, bs, ix, sc⟩ k1 by rw [dcTail, if_pos hm1, h]; rfl)
      rw [h] at hb
      have HB := Lib.hid hb
      have HR := Lib.hid (And.intro c0 c1)
      have q1 : c % 4294967296 = c := by omega
      have q2 := sx8_eq c0 c1
      clear hb h c0 c1 hm1
      have cm := cells_of S.out.mm; unfold Mrm.cells at cm; have co := cells_of S.out.oo; unfold Opd.cells at co; have fo := free_of S.out.oo
      go_upto_region 19 with (first | (go_at_call 32; refine HB.out.mono ?_; rintro e w8 ⟨rfl, hD8, hu⟩; have S8 := Lib.hid (S.out.step hD8 hu); clear hD8 hu co fo; have co := cells_of S8.out.oo; unfold Opd.cells at co; have fo := free_of S8.out.oo) | (go_at_call 46; refine (Sign8_any c _ HR.out.1 (by have := HR.out; omega)).mono ?_; rintro e w9 ⟨rfl, rfl⟩; rw [q2]))
      have S9 := Lib.hid (S8.out.set (o' := ⟨3, 0, sx8 c, bs, ix, sc⟩) HD.out 2 (.int .u32 (sx8 c)) rfl)
      clear S8 co fo
      have co := cells_of S9.out.oo
      unfold Opd.cells at co
      go_wp2_with (refine at_store 36 rfl ?_; refine wpList_store_opd ⟨3, 0, sx8 c, bs, ix, sc⟩ (w.heap.size + 1) 0 rfl _ _ rfl rfl rfl S9.out.rr (by decide) ?_; intro w9 hw9; have H9 := Lib.hid (And.intro S9 (opd_new hw9 S9.out.rr rfl)); clear hw9)
      obtain ⟨q1, q2⟩ := H9.out.1.out.fin HD.out H9.out.2.2
      exact bodyPost_ret (results_one' rfl (res_opd 4 (w.heap.size + 1) _ rfl H9.out.2.1)) rfl (by show DAns d v L g w (dcTail L m.mod bs ix sc k0) Opd.val _ _; rw [HT.out]; exact ⟨rfl, q1, q2⟩)
  · have e1 : (m.mod == 1) = false := by simpa using hm1
    by_cases hm2 : m.mod = 2
    · have e2 : (m.mod == 2) = true := by simpa using hm2
      have cm := cells_of S.out.mm; unfold Mrm.cells at cm; have co := cells_of S.out.oo; unfold Opd.cells at co; have fo := free_of S.out.oo
      by_cases h : k0 + 4 ≤ L.length
      · have HB := Lib.hid (word_next d g k0 v L _ S.out.dd h)
        have HT := Lib.hid (show dcTail L m.mod bs ix sc k0 = .ok ⟨3, 0, wordAt L k0, bs, ix, sc⟩ (k0 + 4) by rw [dcTail, if_neg hm1, if_pos hm2, dcWord, if_pos h]; rfl)
        clear h hm1 hm2
        go_upto_region 19 with (first | (go_at_call 40; refine HB.out.mono ?_; rintro e w7 ⟨o7, c7, rfl, hw⟩; have HW := Lib.hid (hw _ rfl); clear hw) | (go_at_call 47; refine HW.out.mono ?_; rintro e w8 ⟨rfl, hD8, hu⟩; have S8 := Lib.hid (S.out.step hD8 hu); clear hD8 hu co fo; have co := cells_of S8.out.oo; unfold Opd.cells at co; have fo := free_of S8.out.oo))
        have S9 := Lib.hid (S8.out.set (o' := ⟨3, 0, wordAt L k0, bs, ix, sc⟩) HD.out 2 (.int .u32 (wordAt L k0)) rfl)
        clear S8 co fo
        have co := cells_of S9.out.oo
        unfold Opd.cells at co
        go_wp2_with (refine at_store 36 rfl ?_; refine wpList_store_opd ⟨3, 0, wordAt L k0, bs, ix, sc⟩ (w.heap.size + 1) 0 rfl _ _ rfl rfl rfl S9.out.rr (by decide) ?_; intro w9 hw9; have H9 := Lib.hid (And.intro S9 (opd_new hw9 S9.out.rr rfl)); clear hw9)
        obtain ⟨q1, q2⟩ := H9.out.1.out.fin HD.out H9.out.2.2
        exact bodyPost_ret (results_one' rfl (res_opd 4 (w.heap.size + 1) _ rfl H9.out.2.1)) rfl (by show DAns d v L g w (dcTail L m.mod bs ix sc k0) Opd.val _ _; rw [HT.out]; exact ⟨rfl, q1, q2⟩)
      · have HB := Lib.hid (next_no d g k0 4 v L _ S.out.dd (by decide) (by omega))
        have HT := Lib.hid (show dcTail L m.mod bs ix sc k0 = .err 10 by rw [dcTail, if_neg hm1, if_pos hm2, dcWord, if_neg h]; rfl)
        clear h hm1 hm2
        go_wp2_with (go_at_call 40; refine HB.out.mono ?_; rintro e w8 ⟨rfl, hu⟩)
        refine ⟨rfl, ?_⟩
        show DAns d v L g w (dcTail L m.mod bs ix sc k0) Opd.val _ _; rw [HT.out]
        exact ⟨rfl, S.out.uu.also hu (by simp)⟩
    · have e2 : (m.mod == 2) = false := by simpa using hm2
      by_cases hm5 : bs = 5
      · have e5 : (bs == 5) = true := by simpa using hm5
        have HM := Lib.hid (And.intro hm1 (And.intro hm2 hm5))
        clear hm1 hm2 hm5
        have cm := cells_of S.out.mm; unfold Mrm.cells at cm; have co := cells_of S.out.oo; unfold Opd.cells at co; have fo := free_of S.out.oo
        go_upto_region 18 with fail
        have S6 := Lib.hid (S.out.set (o' := ⟨3, 0, 0, -1, ix, sc⟩) HD.out 3 (.int .i64 (-1)) rfl)
        clear co fo
        have co := cells_of S6.out.oo
        unfold Opd.cells at co
        have fo := free_of S6.out.oo
        by_cases h : k0 + 4 ≤ L.length
        · have HB := Lib.hid (word_next d g k0 v L _ S6.out.dd h)
          have HT := Lib.hid (show dcTail L m.mod bs ix sc k0 = .ok ⟨3, 0, wordAt L k0, -1, ix, sc⟩ (k0 + 4) by rw [dcTail, if_neg HM.out.1, if_neg HM.out.2.1, if_pos HM.out.2.2, dcWord, if_pos h]; rfl)
          clear h 
          go_upto_region 19 with (first | (go_at_call 40; refine HB.out.mono ?_; rintro e w7 ⟨o7, c7, rfl, hw⟩; have HW := Lib.hid (hw _ rfl); clear hw) | (go_at_call 47; refine HW.out.mono ?_; rintro e w8 ⟨rfl, hD8, hu⟩; have S8 := Lib.hid (S6.out.step hD8 hu); clear hD8 hu co fo; have co := cells_of S8.out.oo; unfold Opd.cells at co; have fo := free_of S8.out.oo))
          have S9 := Lib.hid (S8.out.set (o' := ⟨3, 0, wordAt L k0, -1, ix, sc⟩) HD.out 2 (.int .u32 (wordAt L k0)) rfl)
          clear S8 co fo
          have co := cells_of S9.out.oo
          unfold Opd.cells at co
          go_wp2_with (refine at_store 36 rfl ?_; refine wpList_store_opd ⟨3, 0, wordAt L k0, -1, ix, sc⟩ (w.heap.size + 1) 0 rfl _ _ rfl rfl rfl S9.out.rr (by decide) ?_; intro w9 hw9; have H9 := Lib.hid (And.intro S9 (opd_new hw9 S9.out.rr rfl)); clear hw9)
          obtain ⟨q1, q2⟩ := H9.out.1.out.fin HD.out H9.out.2.2
          exact bodyPost_ret (results_one' rfl (res_opd 4 (w.heap.size + 1) _ rfl H9.out.2.1)) rfl (by show DAns d v L g w (dcTail L m.mod bs ix sc k0) Opd.val _ _; rw [HT.out]; exact ⟨rfl, q1, q2⟩)
        · have HB := Lib.hid (next_no d g k0 4 v L _ S6.out.dd (by decide) (by omega))
          have HT := Lib.hid (show dcTail L m.mod bs ix sc k0 = .err 10 by rw [dcTail, if_neg HM.out.1, if_neg HM.out.2.1, if_pos HM.out.2.2, dcWord, if_neg h]; rfl)
          clear h 
          go_wp2_with (go_at_call 40; refine HB.out.mono ?_; rintro e w8 ⟨rfl, hu⟩)
          refine ⟨rfl, ?_⟩
          show DAns d v L g w (dcTail L m.mod bs ix sc k0) Opd.val _ _; rw [HT.out]
          exact ⟨rfl, S6.out.uu.also hu (by simp)⟩
      · have e5 : (bs == 5) = false := by simpa using hm5
        have HT := Lib.hid (show dcTail L m.mod bs ix sc k0 = .ok ⟨3, 0, 0, bs, ix, sc⟩ k0 by rw [dcTail, if_neg hm1, if_neg hm2, if_neg hm5])
        clear hm1 hm2 hm5
        have cm := cells_of S.out.mm; unfold Mrm.cells at cm; have co := cells_of S.out.oo; unfold Opd.cells at co; have fo := free_of S.out.oo
        go_wp2_with (refine at_store 36 rfl ?_; refine wpList_store_opd ⟨3, 0, 0, bs, ix, sc⟩ (w.heap.size + 1) 0 rfl _ _ rfl rfl rfl S.out.rr (by decide) ?_; intro w9 hw9; have H9 := Lib.hid (And.intro S (opd_new hw9 S.out.rr rfl)); clear hw9)
        obtain ⟨q1, q2⟩ := H9.out.1.out.fin HD.out H9.out.2.2
        exact bodyPost_ret (results_one' rfl (res_opd 4 (w.heap.size + 1) _ rfl H9.out.2.1)) rfl (by show DAns d v L g w (dcTail L m.mod bs ix sc k0) Opd.val _ _; rw [HT.out]; exact ⟨rfl, q1, q2⟩)

set_option maxRecDepth 100000 in
set_option maxHeartbeats 8000000 in
theorem place_sib4 (d g k : Nat) (v : Value) (L : List Int) (m : Mrm) (w : World) (hD : IsDec w d v L g k) (hok : m.Ok) (h3 : m.mod ≠ 3) (h4 : m.rm = 4) (c : Int) (k0 : Nat) (hb : dcByte L k = .ok c k0) (hx : c / 8 % 8 = 4) :
    Calls Try.prog 51 #[.pointer (some ⟨d, 0, none⟩), .agg m.cells] w (DAns d v L g w (dcTail L m.mod (c % 8) (-1) 1 k0) Opd.val) := by
  have e3 : (m.mod == 3) = false := by simpa using h3
  have e4 : (m.rm == 4) = true := by simpa using h4
  have HD := Lib.hid hD
  have S0 := Lib.hid (PlS.start hD m ⟨3, 0, 0, m.rm, -1, 1⟩)
  obtain ⟨c0, c1, hk0⟩ := dcByte_ok hD.r hb
  clear hk0
  have h := byte_any d g k v L _ S0.out.dd
  rw [hb] at h
  have HB := Lib.hid h
  obtain ⟨z, hz, hz3⟩ : ∃ z : Nat, c / 64 = z ∧ z < 4 := ⟨(c / 64).toNat, by omega, by omega⟩
  have hsc : (2 : Int) ^ min z 32 % 4294967296 = 2 ^ (c / 64).toNat := by
    rw [hz, Int.toNat_natCast]
    rcases (show z = 0 ∨ z = 1 ∨ z = 2 ∨ z = 3 by omega) with rfl | rfl | rfl | rfl <;> rfl
  obtain ⟨sc, hsc0⟩ : ∃ sc : Int, (2 : Int) ^ (c / 64).toNat = sc := ⟨_, rfl⟩
  rw [hsc0] at hsc
  obtain ⟨bs, hbs⟩ : ∃ bs : Int, c % 8 = bs := ⟨_, rfl⟩
  obtain ⟨ix, hix⟩ : ∃ ix : Int, c / 8 % 8 = ix := ⟨_, rfl⟩
  have HF := Lib.hid (show c / 2 ^ (0 : Int).toNat % 2 ^ (3 : Int).toNat = bs ∧ c / 2 ^ (3 : Int).toNat % 2 ^ (3 : Int).toNat = ix ∧ c / 2 ^ (6 : Int).toNat % 2 ^ (2 : Int).toNat = z by
    refine ⟨?_, ?_, ?_⟩
    · show c / 1 % 8 = bs; omega
    · show c / 8 % 8 = ix; omega
    · show c / 64 % 4 = (z : Int); omega)
  have qb : wrap64 bs = bs := by unfold wrap64; omega
  have qi : wrap64 ix = ix := by unfold wrap64; omega
  have qc : c % 4294967296 = c := by omega
  have HC := Lib.hid (And.intro c0 c1)
  have e6 : (ix == 4) = true := by rw [← hix]; simpa using hx
  rw [hbs]
  clear hD hok h3 h4 h hb c0 c1 hx hz hz3 hsc0 hbs hix
  have e6' : (ix != 4) = false := by rw [bne, e6]; rfl
  unfold Mrm.cells
  go_enter Try.func51, Try.ntmps51
  go_upto_region 12 with (first | (go_at_call 32; refine HB.out.mono ?_; rintro e w5 ⟨rfl, hD5, hu⟩; have S5 := Lib.hid (S0.out.step hD5 hu); clear hD5 hu S0; have co := cells_of S5.out.oo; unfold Opd.cells at co; have fo := free_of S5.out.oo) | (go_at_call 41; refine (Field_i c _ _ _ HC.out.1 (by have := HC.out; omega) (by decide) (by decide)).mono ?_; rintro e w6 ⟨rfl, rfl⟩; first | rw [HF.out.1] | rw [HF.out.2.1] | rw [HF.out.2.2]))
  have S := Lib.hid (S5.out.set (o' := ⟨3, 0, 0, bs, -1, 1⟩) HD.out 3 (.int .i64 bs) rfl)
  clear S5 co fo
  by_cases hm1 : m.mod = 1
  · have e1 : (m.mod == 1) = true := by simpa using hm1
    have hb := byte_any d g k0 v L _ S.out.dd
    cases h : dcByte L k0 with
    | err c =>
      have HT := Lib.hid (show dcTail L m.mod bs (-1) 1 k0 = .err c by rw [dcTail, if_pos hm1, h]; rfl)
      rw [h] at hb
      have HB := Lib.hid hb
      clear hb h hm1
      have cm := cells_of S.out.mm; unfold Mrm.cells at cm; have co := cells_of S.out.oo; unfold Opd.cells at co; have fo := free_of S.out.oo
      go_wp2_with (go_at_call 32; refine HB.out.mono ?_; rintro e w8 ⟨rfl, hu⟩)
      refine ⟨rfl, ?_⟩
      show DAns d v L g w (dcTail L m.mod bs (-1) 1 k0) Opd.val _ _; rw [HT.out]
      exact ⟨rfl, S.out.uu.also hu (by simp)⟩
    | ok c k1 =>
      obtain ⟨c0, c1, hk0⟩ := dcByte_ok S.out.dd.r h
      clear hk0
      have HT := Lib.hid (show dcTail L m.mod bs (-1) 1 k0 = .ok ⟨3, 0, sx8 c, bs, (-1), 1⟩ k1 by rw [dcTail, if_pos hm1, h]; rfl)
      rw [h] at hb
      have HB := Lib.hid hb
      have HR := Lib.hid (And.intro c0 c1)
      have q1 : c % 4294967296 = c := by omega
      have q2 := sx8_eq c0 c1
      clear hb h c0 c1 hm1
      have cm := cells_of S.out.mm; unfold Mrm.cells at cm; have co := cells_of S.out.oo; unfold Opd.cells at co; have fo := free_of S.out.oo
      go_upto_region 19 with (first | (go_at_call 32; refine HB.out.mono ?_; rintro e w8 ⟨rfl, hD8, hu⟩; have S8 := Lib.hid (S.out.step hD8 hu); clear hD8 hu co fo; have co := cells_of S8.out.oo; unfold Opd.cells at co; have fo := free_of S8.out.oo) | (go_at_call 46; refine (Sign8_any c _ HR.out.1 (by have := HR.out; omega)).mono ?_; rintro e w9 ⟨rfl, rfl⟩; rw [q2]))
      have S9 := Lib.hid (S8.out.set (o' := ⟨3, 0, sx8 c, bs, (-1), 1⟩) HD.out 2 (.int .u32 (sx8 c)) rfl)
      clear S8 co fo
      have co := cells_of S9.out.oo
      unfold Opd.cells at co
      go_wp2_with (refine at_store 36 rfl ?_; refine wpList_store_opd ⟨3, 0, sx8 c, bs, (-1), 1⟩ (w.heap.size + 1) 0 rfl _ _ rfl rfl rfl S9.out.rr (by decide) ?_; intro w9 hw9; have H9 := Lib.hid (And.intro S9 (opd_new hw9 S9.out.rr rfl)); clear hw9)
      obtain ⟨q1, q2⟩ := H9.out.1.out.fin HD.out H9.out.2.2
      exact bodyPost_ret (results_one' rfl (res_opd 4 (w.heap.size + 1) _ rfl H9.out.2.1)) rfl (by show DAns d v L g w (dcTail L m.mod bs (-1) 1 k0) Opd.val _ _; rw [HT.out]; exact ⟨rfl, q1, q2⟩)
  · have e1 : (m.mod == 1) = false := by simpa using hm1
    by_cases hm2 : m.mod = 2
    · have e2 : (m.mod == 2) = true := by simpa using hm2
      have cm := cells_of S.out.mm; unfold Mrm.cells at cm; have co := cells_of S.out.oo; unfold Opd.cells at co; have fo := free_of S.out.oo
      by_cases h : k0 + 4 ≤ L.length
      · have HB := Lib.hid (word_next d g k0 v L _ S.out.dd h)
        have HT := Lib.hid (show dcTail L m.mod bs (-1) 1 k0 = .ok ⟨3, 0, wordAt L k0, bs, (-1), 1⟩ (k0 + 4) by rw [dcTail, if_neg hm1, if_pos hm2, dcWord, if_pos h]; rfl)
        clear h hm1 hm2
        go_upto_region 19 with (first | (go_at_call 40; refine HB.out.mono ?_; rintro e w7 ⟨o7, c7, rfl, hw⟩; have HW := Lib.hid (hw _ rfl); clear hw) | (go_at_call 47; refine HW.out.mono ?_; rintro e w8 ⟨rfl, hD8, hu⟩; have S8 := Lib.hid (S.out.step hD8 hu); clear hD8 hu co fo; have co := cells_of S8.out.oo; unfold Opd.cells at co; have fo := free_of S8.out.oo))
        have S9 := Lib.hid (S8.out.set (o' := ⟨3, 0, wordAt L k0, bs, (-1), 1⟩) HD.out 2 (.int .u32 (wordAt L k0)) rfl)
        clear S8 co fo
        have co := cells_of S9.out.oo
        unfold Opd.cells at co
        go_wp2_with (refine at_store 36 rfl ?_; refine wpList_store_opd ⟨3, 0, wordAt L k0, bs, (-1), 1⟩ (w.heap.size + 1) 0 rfl _ _ rfl rfl rfl S9.out.rr (by decide) ?_; intro w9 hw9; have H9 := Lib.hid (And.intro S9 (opd_new hw9 S9.out.rr rfl)); clear hw9)
        obtain ⟨q1, q2⟩ := H9.out.1.out.fin HD.out H9.out.2.2
        exact bodyPost_ret (results_one' rfl (res_opd 4 (w.heap.size + 1) _ rfl H9.out.2.1)) rfl (by show DAns d v L g w (dcTail L m.mod bs (-1) 1 k0) Opd.val _ _; rw [HT.out]; exact ⟨rfl, q1, q2⟩)
      · have HB := Lib.hid (next_no d g k0 4 v L _ S.out.dd (by decide) (by omega))
        have HT := Lib.hid (show dcTail L m.mod bs (-1) 1 k0 = .err 10 by rw [dcTail, if_neg hm1, if_pos hm2, dcWord, if_neg h]; rfl)
        clear h hm1 hm2
        go_wp2_with (go_at_call 40; refine HB.out.mono ?_; rintro e w8 ⟨rfl, hu⟩)
        refine ⟨rfl, ?_⟩
        show DAns d v L g w (dcTail L m.mod bs (-1) 1 k0) Opd.val _ _; rw [HT.out]
        exact ⟨rfl, S.out.uu.also hu (by simp)⟩
    · have e2 : (m.mod == 2) = false := by simpa using hm2
      by_cases hm5 : bs = 5
      · have e5 : (bs == 5) = true := by simpa using hm5
        have HM := Lib.hid (And.intro hm1 (And.intro hm2 hm5))
        clear hm1 hm2 hm5
        have cm := cells_of S.out.mm; unfold Mrm.cells at cm; have co := cells_of S.out.oo; unfold Opd.cells at co; have fo := free_of S.out.oo
        go_upto_region 18 with fail
        have S6 := Lib.hid (S.out.set (o' := ⟨3, 0, 0, -1, (-1), 1⟩) HD.out 3 (.int .i64 (-1)) rfl)
        clear co fo
        have co := cells_of S6.out.oo
        unfold Opd.cells at co
        have fo := free_of S6.out.oo
        by_cases h : k0 + 4 ≤ L.length
        · have HB := Lib.hid (word_next d g k0 v L _ S6.out.dd h)
          have HT := Lib.hid (show dcTail L m.mod bs (-1) 1 k0 = .ok ⟨3, 0, wordAt L k0, -1, (-1), 1⟩ (k0 + 4) by rw [dcTail, if_neg HM.out.1, if_neg HM.out.2.1, if_pos HM.out.2.2, dcWord, if_pos h]; rfl)
          clear h 
          go_upto_region 19 with (first | (go_at_call 40; refine HB.out.mono ?_; rintro e w7 ⟨o7, c7, rfl, hw⟩; have HW := Lib.hid (hw _ rfl); clear hw) | (go_at_call 47; refine HW.out.mono ?_; rintro e w8 ⟨rfl, hD8, hu⟩; have S8 := Lib.hid (S6.out.step hD8 hu); clear hD8 hu co fo; have co := cells_of S8.out.oo; unfold Opd.cells at co; have fo := free_of S8.out.oo))
          have S9 := Lib.hid (S8.out.set (o' := ⟨3, 0, wordAt L k0, -1, (-1), 1⟩) HD.out 2 (.int .u32 (wordAt L k0)) rfl)
          clear S8 co fo
          have co := cells_of S9.out.oo
          unfold Opd.cells at co
          go_wp2_with (refine at_store 36 rfl ?_; refine wpList_store_opd ⟨3, 0, wordAt L k0, -1, (-1), 1⟩ (w.heap.size + 1) 0 rfl _ _ rfl rfl rfl S9.out.rr (by decide) ?_; intro w9 hw9; have H9 := Lib.hid (And.intro S9 (opd_new hw9 S9.out.rr rfl)); clear hw9)
          obtain ⟨q1, q2⟩ := H9.out.1.out.fin HD.out H9.out.2.2
          exact bodyPost_ret (results_one' rfl (res_opd 4 (w.heap.size + 1) _ rfl H9.out.2.1)) rfl (by show DAns d v L g w (dcTail L m.mod bs (-1) 1 k0) Opd.val _ _; rw [HT.out]; exact ⟨rfl, q1, q2⟩)
        · have HB := Lib.hid (next_no d g k0 4 v L _ S6.out.dd (by decide) (by omega))
          have HT := Lib.hid (show dcTail L m.mod bs (-1) 1 k0 = .err 10 by rw [dcTail, if_neg HM.out.1, if_neg HM.out.2.1, if_pos HM.out.2.2, dcWord, if_neg h]; rfl)
          clear h 
          go_wp2_with (go_at_call 40; refine HB.out.mono ?_; rintro e w8 ⟨rfl, hu⟩)
          refine ⟨rfl, ?_⟩
          show DAns d v L g w (dcTail L m.mod bs (-1) 1 k0) Opd.val _ _; rw [HT.out]
          exact ⟨rfl, S6.out.uu.also hu (by simp)⟩
      · have e5 : (bs == 5) = false := by simpa using hm5
        have HT := Lib.hid (show dcTail L m.mod bs (-1) 1 k0 = .ok ⟨3, 0, 0, bs, (-1), 1⟩ k0 by rw [dcTail, if_neg hm1, if_neg hm2, if_neg hm5])
        clear hm1 hm2 hm5
        have cm := cells_of S.out.mm; unfold Mrm.cells at cm; have co := cells_of S.out.oo; unfold Opd.cells at co; have fo := free_of S.out.oo
        go_wp2_with (refine at_store 36 rfl ?_; refine wpList_store_opd ⟨3, 0, 0, bs, (-1), 1⟩ (w.heap.size + 1) 0 rfl _ _ rfl rfl rfl S.out.rr (by decide) ?_; intro w9 hw9; have H9 := Lib.hid (And.intro S (opd_new hw9 S.out.rr rfl)); clear hw9)
        obtain ⟨q1, q2⟩ := H9.out.1.out.fin HD.out H9.out.2.2
        exact bodyPost_ret (results_one' rfl (res_opd 4 (w.heap.size + 1) _ rfl H9.out.2.1)) rfl (by show DAns d v L g w (dcTail L m.mod bs (-1) 1 k0) Opd.val _ _; rw [HT.out]; exact ⟨rfl, q1, q2⟩)

set_option maxRecDepth 100000 in
set_option maxHeartbeats 8000000 in
theorem place_cut (d g k : Nat) (v : Value) (L : List Int) (m : Mrm) (w : World) (hD : IsDec w d v L g k) (hok : m.Ok) (h3 : m.mod ≠ 3) (h4 : m.rm = 4) (c : Int) (hb : dcByte L k = .err c) :
    Calls Try.prog 51 #[.pointer (some ⟨d, 0, none⟩), .agg m.cells] w (DAns d v L g w (.err c) Opd.val) := by
  have e3 : (m.mod == 3) = false := by simpa using h3
  have e4 : (m.rm == 4) = true := by simpa using h4
  have S0 := Lib.hid (PlS.start hD m ⟨3, 0, 0, m.rm, -1, 1⟩)
  have h := byte_any d g k v L _ S0.out.dd
  rw [hb] at h
  have HB := Lib.hid h
  clear hD hok h3 h4 h hb
  unfold Mrm.cells
  go_enter Try.func51, Try.ntmps51
  go_wp2_with (go_at_call 32; refine HB.out.mono ?_; rintro e w5 ⟨rfl, hu⟩)
  exact ⟨rfl, rfl, S0.out.uu.also hu (by simp)⟩

theorem place_any (d g k : Nat) (v : Value) (L : List Int) (m : Mrm) (w : World) (hD : IsDec w d v L g k) (hok : m.Ok) :
    Calls Try.prog 51 #[.pointer (some ⟨d, 0, none⟩), .agg m.cells] w (DAns d v L g w (dcPlace L m k) Opd.val) := by
  unfold dcPlace
  by_cases h3 : m.mod = 3
  · rw [if_pos h3]; exact place_reg d g k v L m w hD hok h3
  · rw [if_neg h3]
    by_cases h4 : m.rm = 4
    · rw [if_pos h4]
      cases hb : dcByte L k with
      | err c => exact place_cut d g k v L m w hD hok h3 h4 c hb
      | ok c k0 =>
        rw [DR.bind_ok]
        by_cases hx : c / 8 % 8 = 4
        · rw [if_pos hx, if_pos hx]; exact place_sib4 d g k v L m w hD hok h3 h4 c k0 hb hx
        · rw [if_neg hx, if_neg hx]; exact place_sib d g k v L m w hD hok h3 h4 c k0 hb hx
    · rw [if_neg h4]; exact place_rm d g k v L m w hD hok h3 h4

end Go.Proofs.Yteiplidhkelkbaa
