/-
  The law HelperDoes: what it wants of each call (want), by its contract. No condition.
-/
import Derived.Test.YtoplekfnghkkdaaMg05
import Derived.Test.YtoplekfnghkkdaaMg08
import Derived.Test.YtoplekfnghkkdaaMg13
import Derived.Test.YtoplekfnghkkdaaMg15
namespace Go.Proofs.Ytoplekfnghkkdaa
open Go Go.RowKit
set_option linter.unusedVariables false
set_option linter.unusedSimpArgs false

theorem results_four' {P : Program} {fn : Func} {tmps : Array Value} {w : World} {r0 r1 r2 r3 : ResultVar} {v0 v1 v2 v3 : Value} (h : fn.results = #[r0, r1, r2, r3]) (h0 : (resRun tmps r0).run P w = .ok v0 w) (h1 : (resRun tmps r1).run P w = .ok v1 w) (h2 : (resRun tmps r2).run P w = .ok v2 w) (h3 : (resRun tmps r3).run P w = .ok v3 w) : (results fn tmps).run P w = .ok (.tuple #[v0, v1, v2, v3]) w := by
  rw [results_eq, h]
  simp [Sem.run_bind, h0, h1, h2, h3]

theorem u64_id (z : Int) (h0 : 0 ≤ z) (h1 : z < 18446744073709551616) : IntKind.u64.wrap z = z := by
  rw [wrap_u64]; omega

theorem two_ix0 (a b : Int) (w : World) : (Instr.index 132 (.agg #[.int .i64 a, .int .i64 b]) (.int .u32 0)).run Try.prog w = .ok (.int .i64 a) w := by kernel_rfl
theorem two_ix1 (a b : Int) (w : World) : (Instr.index 132 (.agg #[.int .i64 a, .int .i64 b]) (.int .u32 1)).run Try.prog w = .ok (.int .i64 b) w := by kernel_rfl

structure WtS (w : World) (rr : Nat) (M : Mem) (X : Array Value) (w1 : World) : Prop where
  f : IsRef w1 rr M
  x : w1.heap[w.heap.size]? = some (.cells X 37 (0, 0))
  z : w1.heap[w.heap.size + 1]? = some (.cells #[.int .i64 0, .int .u32 0, .int .u32 0, .int .i64 0] 49 (0, 0))
  u : Upd [rr] w w1
  n : rr < w.heap.size

section
variable {w w1 w2 : World} {rr : Nat} {M M' : Mem} {X : Array Value}
theorem WtS.step (h : WtS w rr M X w1) (u : Upd [] w1 w2) : WtS w rr M X w2 := ⟨h.f.keep u (by simp), u.get h.x (by simp), u.get h.z (by simp), h.u.also u (by simp), h.n⟩
theorem WtS.ref (h : WtS w rr M X w1) (u : Upd [rr] w1 w2) (f : IsRef w2 rr M') : WtS w rr M' X w2 := by
  have := h.n
  exact ⟨f, u.get h.x (by simp; omega), u.get h.z (by simp; omega), h.u.also u (by simp), h.n⟩
theorem WtS.start (h : IsRef w rr M) (X : Array Value) : WtS w rr M X ((w.alloc (.cells X 37)).alloc (.cells #[.int .i64 0, .int .u32 0, .int .u32 0, .int .i64 0] 49)) :=
  ⟨h.keep (((Upd.refl [] w).alloc _).alloc _) (by simp), heap_alloc2_old _ _ _, heap_alloc2_new _ _ _, ((Upd.refl _ w).alloc _).alloc _, h.lt⟩
theorem WtS.fin (h : WtS w rr M X w1) (F : Flt) : WtS w rr M X w1 → ((((w1.setCell ⟨w.heap.size + 1, 0, none⟩ (.int .i64 F.k)).setCell ⟨w.heap.size + 1, 0 + 1, none⟩ (.int .u32 F.pc)).setCell ⟨w.heap.size + 1, 0 + 2, none⟩ (.int .u32 F.a)).setCell ⟨w.heap.size + 1, 0 + 3, none⟩ (.int .i64 F.wt)).heap[w.heap.size + 1]? = some (.cells #[.int .i64 (F).k, .int .u32 (F).pc, .int .u32 (F).a, .int .i64 (F).wt] 49 (0, 0)) ∧ IsRef ((((w1.setCell ⟨w.heap.size + 1, 0, none⟩ (.int .i64 F.k)).setCell ⟨w.heap.size + 1, 0 + 1, none⟩ (.int .u32 F.pc)).setCell ⟨w.heap.size + 1, 0 + 2, none⟩ (.int .u32 F.a)).setCell ⟨w.heap.size + 1, 0 + 3, none⟩ (.int .i64 F.wt)) rr M ∧ Upd [rr] w ((((w1.setCell ⟨w.heap.size + 1, 0, none⟩ (.int .i64 F.k)).setCell ⟨w.heap.size + 1, 0 + 1, none⟩ (.int .u32 F.pc)).setCell ⟨w.heap.size + 1, 0 + 2, none⟩ (.int .u32 F.a)).setCell ⟨w.heap.size + 1, 0 + 3, none⟩ (.int .i64 F.wt)) := fun _ => by
  have hn := h.n
  refine ⟨store4 h.z _ _ _ _, h.f.keep (Upd_store4 (S := [w.heap.size + 1]) (b := w.heap.size + 1) (Upd.refl _ w1) (.inl (by simp)) _ _ _ _) (by simp; omega), Upd_store4 (b := w.heap.size + 1) h.u (.inr (by omega)) _ _ _ _⟩
end

set_option maxRecDepth 100000 in
set_option maxHeartbeats 4000000 in
theorem want1_true (M : Mem) (rr : Nat) (x0 x1 x2 x3 : Int) (w : World) (hM : IsRef w rr M) (h0 : 0 ≤ x0 ∧ x0 < 4294967296) (h1 : 0 ≤ x1 ∧ x1 < 4294967296) (h2 : 0 ≤ x2 ∧ x2 < 4294967296) (h3 : 0 ≤ x3 ∧ x3 < 4294967296) (hk : M.readK x0 4 1 = true) :
    Calls Try.prog 24 #[.pointer (some ⟨rr, 0, none⟩), .agg #[.int .u32 x0, .int .u32 x1, .int .u32 x2, .int .u32 x3], .int .u32 1] w fun e w' => e = .returned (.tuple #[.int .u32 (M.readV x0 4 1), .int .u32 (x1), (Flt.zero).val, .bool true]) ∧ IsRef w' rr (M) ∧ Upd [rr] w w' := by
  have hmo : Try.prog.follows .mixedOrders = true := by kernel_rfl
  have j1 := or_join x0 x1 h0 h1
  have j2 := or_join x2 x3 h2 h3
  obtain ⟨A, hA⟩ : ∃ A, x1 * 4294967296 + x0 = A := ⟨_, rfl⟩
  obtain ⟨C, hC⟩ : ∃ C, x3 * 4294967296 + x2 = C := ⟨_, rfl⟩
  rw [hA] at j1
  rw [hC] at j2
  have v0 := u64_id x0 (by omega) (by omega)
  have v1 := u64_id x1 (by omega) (by omega)
  have v2 := u64_id x2 (by omega) (by omega)
  have v3 := u64_id x3 (by omega) (by omega)
  have q1 : x1 * 4294967296 % 18446744073709551616 = x1 * 4294967296 := by omega
  have q2 : x3 * 4294967296 % 18446744073709551616 = x3 * 4294967296 := by omega
  have HA := Lib.hid (And.intro hA hC)
  have H0 := Lib.hid h0
  have H1 := Lib.hid h1
  have H2 := Lib.hid h2
  have H3 := Lib.hid h3
  have HW := Lib.hid (WtS.start hM #[.int .u32 x0, .int .u32 x1, .int .u32 x2, .int .u32 x3])
  have HK := Lib.hid hk
  have HZ := Lib.hid (show M.rdF x0 4 1 = Flt.zero by
    rw [Mem.readK] at hk
    rw [Mem.rdF, Option.isNone_iff_eq_none.1 hk])
  clear hk
  clear hM hA hC h0 h1 h2 h3
  go_enter Try.func24, Try.ntmps24
  go_wp2_with fail
  refine wp_draw 18 (fun w1 => WtS w rr (M) #[.int .u32 x0, .int .u32 x1, .int .u32 x2, .int .u32 x3] w1 ∧ True) (fun _ _ => False) (by kernel_rfl) (by kernel_rfl) ⟨HW.out.step (Upd.refl [] _).drew, trivial⟩ (fun _ _ _ h => h.elim) ?_
  simp only [List.take_succ_cons, List.take_zero, List.drop_succ_cons, List.drop_zero]
  repeat
    apply headW_val rfl rfl
    · intro K hK w1 hB1
      have cx := cells_of hB1.1.x
      have HB := Lib.hid hB1
      clear hB1
      go_wp2_with fail
      first
      | exact hK _ HB.out
      | exact HB.out
    · exact ⟨_, rfl⟩
  clear HW
  refine headW_nil (fun _ w8 hB1 => ?_)
  have HW := Lib.hid hB1.1
  have cx := cells_of hB1.1.x
  have cz := cells_of hB1.1.z
  have fz := free_of hB1.1.z
  clear hB1
  have hix := two_ix0 4 1
  go_wp2_with (go_at_call 62; refine (Read_ref M rr x0 4 1 _ HW.out.f H0.out.1 H0.out.2).mono ?_; rintro e w9 ⟨rfl, hu⟩; rw [HK.out, HZ.out]; unfold Flt.val Flt.zero; have HW9 := Lib.hid (HW.out.step hu); clear hu cx cz fz)
  have HD := Lib.hid (heap_alloc_new w9 (.cells #[.int .i64 0, .int .u32 0, .int .u32 0, .int .i64 0] 49))
  have HW0 := HW9
  clear HW HW9
  have HW := Lib.hid (HW0.out.step ((Upd.refl [] _).alloc (.cells #[.int .i64 0, .int .u32 0, .int .u32 0, .int .i64 0] 49)))
  clear HW0
  refine wp_draw 6 (fun w1 => WtS w rr (M) #[.int .u32 x0, .int .u32 x1, .int .u32 x2, .int .u32 x3] w1 ∧ w1.heap[w9.heap.size]? = some (.cells #[.int .i64 0, .int .u32 0, .int .u32 0, .int .i64 0] 49 (0, 0))) (fun _ _ => False) (by kernel_rfl) (by kernel_rfl) ⟨HW.out.step (Upd.refl [] _).drew, HD.out⟩ (fun _ _ _ h => h.elim) ?_
  simp only [List.take_succ_cons, List.take_zero, List.drop_succ_cons, List.drop_zero]
  repeat
    apply headW_val rfl rfl
    · intro K hK w1 hB1
      have cx := cells_of hB1.1.x
      have cd := cells_of hB1.2
      have HB := Lib.hid hB1
      clear hB1
      go_wp2_with fail
      first
      | exact hK _ HB.out
      | exact HB.out
    · exact ⟨_, rfl⟩
  clear HW
  refine headW_nil (fun _ w8 hB1 => ?_)
  have HW := Lib.hid hB1.1
  have cx := cells_of hB1.1.x
  have cz := cells_of hB1.1.z
  have fz := free_of hB1.1.z
  clear hB1
  go_wp2_with fail
  have hE := HW.out.fin (Flt.zero) HW.out
  refine bodyPost_ret (v := .tuple #[.int .u32 (M.readV x0 4 1), .int .u32 (x1), (Flt.zero).val, .bool true]) (results_four' rfl (res_tmp 6 rfl) (res_tmp 7 rfl) (res_flt 8 (w.heap.size + 1) (Flt.zero) rfl hE.1) (res_tmp 9 rfl)) rfl ⟨rfl, hE.2.1, hE.2.2⟩

set_option maxRecDepth 100000 in
set_option maxHeartbeats 4000000 in
theorem want1_false (M : Mem) (rr : Nat) (x0 x1 x2 x3 : Int) (w : World) (hM : IsRef w rr M) (h0 : 0 ≤ x0 ∧ x0 < 4294967296) (h1 : 0 ≤ x1 ∧ x1 < 4294967296) (h2 : 0 ≤ x2 ∧ x2 < 4294967296) (h3 : 0 ≤ x3 ∧ x3 < 4294967296) (hk : M.readK x0 4 1 = false) :
    Calls Try.prog 24 #[.pointer (some ⟨rr, 0, none⟩), .agg #[.int .u32 x0, .int .u32 x1, .int .u32 x2, .int .u32 x3], .int .u32 1] w fun e w' => e = .returned (.tuple #[.int .u32 (x0), .int .u32 (x1), (M.rdF x0 4 1).val, .bool false]) ∧ IsRef w' rr (M) ∧ Upd [rr] w w' := by
  have hmo : Try.prog.follows .mixedOrders = true := by kernel_rfl
  have j1 := or_join x0 x1 h0 h1
  have j2 := or_join x2 x3 h2 h3
  obtain ⟨A, hA⟩ : ∃ A, x1 * 4294967296 + x0 = A := ⟨_, rfl⟩
  obtain ⟨C, hC⟩ : ∃ C, x3 * 4294967296 + x2 = C := ⟨_, rfl⟩
  rw [hA] at j1
  rw [hC] at j2
  have v0 := u64_id x0 (by omega) (by omega)
  have v1 := u64_id x1 (by omega) (by omega)
  have v2 := u64_id x2 (by omega) (by omega)
  have v3 := u64_id x3 (by omega) (by omega)
  have q1 : x1 * 4294967296 % 18446744073709551616 = x1 * 4294967296 := by omega
  have q2 : x3 * 4294967296 % 18446744073709551616 = x3 * 4294967296 := by omega
  have HA := Lib.hid (And.intro hA hC)
  have H0 := Lib.hid h0
  have H1 := Lib.hid h1
  have H2 := Lib.hid h2
  have H3 := Lib.hid h3
  have HW := Lib.hid (WtS.start hM #[.int .u32 x0, .int .u32 x1, .int .u32 x2, .int .u32 x3])
  have HK := Lib.hid hk
  clear hk
  clear hM hA hC h0 h1 h2 h3
  go_enter Try.func24, Try.ntmps24
  go_wp2_with fail
  refine wp_draw 18 (fun w1 => WtS w rr (M) #[.int .u32 x0, .int .u32 x1, .int .u32 x2, .int .u32 x3] w1 ∧ True) (fun _ _ => False) (by kernel_rfl) (by kernel_rfl) ⟨HW.out.step (Upd.refl [] _).drew, trivial⟩ (fun _ _ _ h => h.elim) ?_
  simp only [List.take_succ_cons, List.take_zero, List.drop_succ_cons, List.drop_zero]
  repeat
    apply headW_val rfl rfl
    · intro K hK w1 hB1
      have cx := cells_of hB1.1.x
      have HB := Lib.hid hB1
      clear hB1
      go_wp2_with fail
      first
      | exact hK _ HB.out
      | exact HB.out
    · exact ⟨_, rfl⟩
  clear HW
  refine headW_nil (fun _ w8 hB1 => ?_)
  have HW := Lib.hid hB1.1
  have cx := cells_of hB1.1.x
  have cz := cells_of hB1.1.z
  have fz := free_of hB1.1.z
  clear hB1
  have hix := two_ix0 4 1
  go_wp2_with (go_at_call 62; refine (Read_ref M rr x0 4 1 _ HW.out.f H0.out.1 H0.out.2).mono ?_; rintro e w9 ⟨rfl, hu⟩; rw [HK.out]; unfold Flt.val; have HW9 := Lib.hid (HW.out.step hu); clear hu cx cz fz)
  have HD := Lib.hid (heap_alloc_new w9 (.cells #[.int .i64 (M.rdF x0 4 1).k, .int .u32 (M.rdF x0 4 1).pc, .int .u32 (M.rdF x0 4 1).a, .int .i64 (M.rdF x0 4 1).wt] 49))
  have HW0 := HW9
  clear HW HW9
  have HW := Lib.hid (HW0.out.step ((Upd.refl [] _).alloc (.cells #[.int .i64 (M.rdF x0 4 1).k, .int .u32 (M.rdF x0 4 1).pc, .int .u32 (M.rdF x0 4 1).a, .int .i64 (M.rdF x0 4 1).wt] 49)))
  clear HW0
  refine wp_draw 7 (fun w1 => WtS w rr (M) #[.int .u32 x0, .int .u32 x1, .int .u32 x2, .int .u32 x3] w1 ∧ w1.heap[w9.heap.size]? = some (.cells #[.int .i64 (M.rdF x0 4 1).k, .int .u32 (M.rdF x0 4 1).pc, .int .u32 (M.rdF x0 4 1).a, .int .i64 (M.rdF x0 4 1).wt] 49 (0, 0))) (fun _ _ => False) (by kernel_rfl) (by kernel_rfl) ⟨HW.out.step (Upd.refl [] _).drew, HD.out⟩ (fun _ _ _ h => h.elim) ?_
  simp only [List.take_succ_cons, List.take_zero, List.drop_succ_cons, List.drop_zero]
  repeat
    apply headW_val rfl rfl
    · intro K hK w1 hB1
      have cx := cells_of hB1.1.x
      have cd := cells_of hB1.2
      have HB := Lib.hid hB1
      clear hB1
      go_wp2_with fail
      first
      | exact hK _ HB.out
      | exact HB.out
    · exact ⟨_, rfl⟩
  clear HW
  refine headW_nil (fun _ w8 hB1 => ?_)
  have HW := Lib.hid hB1.1
  have cx := cells_of hB1.1.x
  have cz := cells_of hB1.1.z
  have fz := free_of hB1.1.z
  clear hB1
  go_wp2_with fail
  have hE := HW.out.fin (M.rdF x0 4 1) HW.out
  refine bodyPost_ret (v := .tuple #[.int .u32 (x0), .int .u32 (x1), (M.rdF x0 4 1).val, .bool false]) (results_four' rfl (res_tmp 6 rfl) (res_tmp 7 rfl) (res_flt 8 (w.heap.size + 1) (M.rdF x0 4 1) rfl hE.1) (res_tmp 9 rfl)) rfl ⟨rfl, hE.2.1, hE.2.2⟩

set_option maxRecDepth 100000 in
set_option maxHeartbeats 4000000 in
theorem want2_true (M : Mem) (rr : Nat) (x0 x1 x2 x3 : Int) (w : World) (hM : IsRef w rr M) (h0 : 0 ≤ x0 ∧ x0 < 4294967296) (h1 : 0 ≤ x1 ∧ x1 < 4294967296) (h2 : 0 ≤ x2 ∧ x2 < 4294967296) (h3 : 0 ≤ x3 ∧ x3 < 4294967296) (hk : M.readK x0 1 1 = true) :
    Calls Try.prog 24 #[.pointer (some ⟨rr, 0, none⟩), .agg #[.int .u32 x0, .int .u32 x1, .int .u32 x2, .int .u32 x3], .int .u32 2] w fun e w' => e = .returned (.tuple #[.int .u32 (M.readV x0 1 1), .int .u32 (x1), (Flt.zero).val, .bool true]) ∧ IsRef w' rr (M) ∧ Upd [rr] w w' := by
  have hmo : Try.prog.follows .mixedOrders = true := by kernel_rfl
  have j1 := or_join x0 x1 h0 h1
  have j2 := or_join x2 x3 h2 h3
  obtain ⟨A, hA⟩ : ∃ A, x1 * 4294967296 + x0 = A := ⟨_, rfl⟩
  obtain ⟨C, hC⟩ : ∃ C, x3 * 4294967296 + x2 = C := ⟨_, rfl⟩
  rw [hA] at j1
  rw [hC] at j2
  have v0 := u64_id x0 (by omega) (by omega)
  have v1 := u64_id x1 (by omega) (by omega)
  have v2 := u64_id x2 (by omega) (by omega)
  have v3 := u64_id x3 (by omega) (by omega)
  have q1 : x1 * 4294967296 % 18446744073709551616 = x1 * 4294967296 := by omega
  have q2 : x3 * 4294967296 % 18446744073709551616 = x3 * 4294967296 := by omega
  have HA := Lib.hid (And.intro hA hC)
  have H0 := Lib.hid h0
  have H1 := Lib.hid h1
  have H2 := Lib.hid h2
  have H3 := Lib.hid h3
  have HW := Lib.hid (WtS.start hM #[.int .u32 x0, .int .u32 x1, .int .u32 x2, .int .u32 x3])
  have HK := Lib.hid hk
  have HZ := Lib.hid (show M.rdF x0 1 1 = Flt.zero by
    rw [Mem.readK] at hk
    rw [Mem.rdF, Option.isNone_iff_eq_none.1 hk])
  clear hk
  clear hM hA hC h0 h1 h2 h3
  go_enter Try.func24, Try.ntmps24
  go_wp2_with fail
  refine wp_draw 18 (fun w1 => WtS w rr (M) #[.int .u32 x0, .int .u32 x1, .int .u32 x2, .int .u32 x3] w1 ∧ True) (fun _ _ => False) (by kernel_rfl) (by kernel_rfl) ⟨HW.out.step (Upd.refl [] _).drew, trivial⟩ (fun _ _ _ h => h.elim) ?_
  simp only [List.take_succ_cons, List.take_zero, List.drop_succ_cons, List.drop_zero]
  repeat
    apply headW_val rfl rfl
    · intro K hK w1 hB1
      have cx := cells_of hB1.1.x
      have HB := Lib.hid hB1
      clear hB1
      go_wp2_with fail
      first
      | exact hK _ HB.out
      | exact HB.out
    · exact ⟨_, rfl⟩
  clear HW
  refine headW_nil (fun _ w8 hB1 => ?_)
  have HW := Lib.hid hB1.1
  have cx := cells_of hB1.1.x
  have cz := cells_of hB1.1.z
  have fz := free_of hB1.1.z
  clear hB1
  have hix := two_ix1 4 1
  go_wp2_with (go_at_call 62; refine (Read_ref M rr x0 1 1 _ HW.out.f H0.out.1 H0.out.2).mono ?_; rintro e w9 ⟨rfl, hu⟩; rw [HK.out, HZ.out]; unfold Flt.val Flt.zero; have HW9 := Lib.hid (HW.out.step hu); clear hu cx cz fz)
  have HD := Lib.hid (heap_alloc_new w9 (.cells #[.int .i64 0, .int .u32 0, .int .u32 0, .int .i64 0] 49))
  have HW0 := HW9
  clear HW HW9
  have HW := Lib.hid (HW0.out.step ((Upd.refl [] _).alloc (.cells #[.int .i64 0, .int .u32 0, .int .u32 0, .int .i64 0] 49)))
  clear HW0
  refine wp_draw 6 (fun w1 => WtS w rr (M) #[.int .u32 x0, .int .u32 x1, .int .u32 x2, .int .u32 x3] w1 ∧ w1.heap[w9.heap.size]? = some (.cells #[.int .i64 0, .int .u32 0, .int .u32 0, .int .i64 0] 49 (0, 0))) (fun _ _ => False) (by kernel_rfl) (by kernel_rfl) ⟨HW.out.step (Upd.refl [] _).drew, HD.out⟩ (fun _ _ _ h => h.elim) ?_
  simp only [List.take_succ_cons, List.take_zero, List.drop_succ_cons, List.drop_zero]
  repeat
    apply headW_val rfl rfl
    · intro K hK w1 hB1
      have cx := cells_of hB1.1.x
      have cd := cells_of hB1.2
      have HB := Lib.hid hB1
      clear hB1
      go_wp2_with fail
      first
      | exact hK _ HB.out
      | exact HB.out
    · exact ⟨_, rfl⟩
  clear HW
  refine headW_nil (fun _ w8 hB1 => ?_)
  have HW := Lib.hid hB1.1
  have cx := cells_of hB1.1.x
  have cz := cells_of hB1.1.z
  have fz := free_of hB1.1.z
  clear hB1
  go_wp2_with fail
  have hE := HW.out.fin (Flt.zero) HW.out
  refine bodyPost_ret (v := .tuple #[.int .u32 (M.readV x0 1 1), .int .u32 (x1), (Flt.zero).val, .bool true]) (results_four' rfl (res_tmp 6 rfl) (res_tmp 7 rfl) (res_flt 8 (w.heap.size + 1) (Flt.zero) rfl hE.1) (res_tmp 9 rfl)) rfl ⟨rfl, hE.2.1, hE.2.2⟩

set_option maxRecDepth 100000 in
set_option maxHeartbeats 4000000 in
theorem want2_false (M : Mem) (rr : Nat) (x0 x1 x2 x3 : Int) (w : World) (hM : IsRef w rr M) (h0 : 0 ≤ x0 ∧ x0 < 4294967296) (h1 : 0 ≤ x1 ∧ x1 < 4294967296) (h2 : 0 ≤ x2 ∧ x2 < 4294967296) (h3 : 0 ≤ x3 ∧ x3 < 4294967296) (hk : M.readK x0 1 1 = false) :
    Calls Try.prog 24 #[.pointer (some ⟨rr, 0, none⟩), .agg #[.int .u32 x0, .int .u32 x1, .int .u32 x2, .int .u32 x3], .int .u32 2] w fun e w' => e = .returned (.tuple #[.int .u32 (x0), .int .u32 (x1), (M.rdF x0 1 1).val, .bool false]) ∧ IsRef w' rr (M) ∧ Upd [rr] w w' := by
  have hmo : Try.prog.follows .mixedOrders = true := by kernel_rfl
  have j1 := or_join x0 x1 h0 h1
  have j2 := or_join x2 x3 h2 h3
  obtain ⟨A, hA⟩ : ∃ A, x1 * 4294967296 + x0 = A := ⟨_, rfl⟩
  obtain ⟨C, hC⟩ : ∃ C, x3 * 4294967296 + x2 = C := ⟨_, rfl⟩
  rw [hA] at j1
  rw [hC] at j2
  have v0 := u64_id x0 (by omega) (by omega)
  have v1 := u64_id x1 (by omega) (by omega)
  have v2 := u64_id x2 (by omega) (by omega)
  have v3 := u64_id x3 (by omega) (by omega)
  have q1 : x1 * 4294967296 % 18446744073709551616 = x1 * 4294967296 := by omega
  have q2 : x3 * 4294967296 % 18446744073709551616 = x3 * 4294967296 := by omega
  have HA := Lib.hid (And.intro hA hC)
  have H0 := Lib.hid h0
  have H1 := Lib.hid h1
  have H2 := Lib.hid h2
  have H3 := Lib.hid h3
  have HW := Lib.hid (WtS.start hM #[.int .u32 x0, .int .u32 x1, .int .u32 x2, .int .u32 x3])
  have HK := Lib.hid hk
  clear hk
  clear hM hA hC h0 h1 h2 h3
  go_enter Try.func24, Try.ntmps24
  go_wp2_with fail
  refine wp_draw 18 (fun w1 => WtS w rr (M) #[.int .u32 x0, .int .u32 x1, .int .u32 x2, .int .u32 x3] w1 ∧ True) (fun _ _ => False) (by kernel_rfl) (by kernel_rfl) ⟨HW.out.step (Upd.refl [] _).drew, trivial⟩ (fun _ _ _ h => h.elim) ?_
  simp only [List.take_succ_cons, List.take_zero, List.drop_succ_cons, List.drop_zero]
  repeat
    apply headW_val rfl rfl
    · intro K hK w1 hB1
      have cx := cells_of hB1.1.x
      have HB := Lib.hid hB1
      clear hB1
      go_wp2_with fail
      first
      | exact hK _ HB.out
      | exact HB.out
    · exact ⟨_, rfl⟩
  clear HW
  refine headW_nil (fun _ w8 hB1 => ?_)
  have HW := Lib.hid hB1.1
  have cx := cells_of hB1.1.x
  have cz := cells_of hB1.1.z
  have fz := free_of hB1.1.z
  clear hB1
  have hix := two_ix1 4 1
  go_wp2_with (go_at_call 62; refine (Read_ref M rr x0 1 1 _ HW.out.f H0.out.1 H0.out.2).mono ?_; rintro e w9 ⟨rfl, hu⟩; rw [HK.out]; unfold Flt.val; have HW9 := Lib.hid (HW.out.step hu); clear hu cx cz fz)
  have HD := Lib.hid (heap_alloc_new w9 (.cells #[.int .i64 (M.rdF x0 1 1).k, .int .u32 (M.rdF x0 1 1).pc, .int .u32 (M.rdF x0 1 1).a, .int .i64 (M.rdF x0 1 1).wt] 49))
  have HW0 := HW9
  clear HW HW9
  have HW := Lib.hid (HW0.out.step ((Upd.refl [] _).alloc (.cells #[.int .i64 (M.rdF x0 1 1).k, .int .u32 (M.rdF x0 1 1).pc, .int .u32 (M.rdF x0 1 1).a, .int .i64 (M.rdF x0 1 1).wt] 49)))
  clear HW0
  refine wp_draw 7 (fun w1 => WtS w rr (M) #[.int .u32 x0, .int .u32 x1, .int .u32 x2, .int .u32 x3] w1 ∧ w1.heap[w9.heap.size]? = some (.cells #[.int .i64 (M.rdF x0 1 1).k, .int .u32 (M.rdF x0 1 1).pc, .int .u32 (M.rdF x0 1 1).a, .int .i64 (M.rdF x0 1 1).wt] 49 (0, 0))) (fun _ _ => False) (by kernel_rfl) (by kernel_rfl) ⟨HW.out.step (Upd.refl [] _).drew, HD.out⟩ (fun _ _ _ h => h.elim) ?_
  simp only [List.take_succ_cons, List.take_zero, List.drop_succ_cons, List.drop_zero]
  repeat
    apply headW_val rfl rfl
    · intro K hK w1 hB1
      have cx := cells_of hB1.1.x
      have cd := cells_of hB1.2
      have HB := Lib.hid hB1
      clear hB1
      go_wp2_with fail
      first
      | exact hK _ HB.out
      | exact HB.out
    · exact ⟨_, rfl⟩
  clear HW
  refine headW_nil (fun _ w8 hB1 => ?_)
  have HW := Lib.hid hB1.1
  have cx := cells_of hB1.1.x
  have cz := cells_of hB1.1.z
  have fz := free_of hB1.1.z
  clear hB1
  go_wp2_with fail
  have hE := HW.out.fin (M.rdF x0 1 1) HW.out
  refine bodyPost_ret (v := .tuple #[.int .u32 (x0), .int .u32 (x1), (M.rdF x0 1 1).val, .bool false]) (results_four' rfl (res_tmp 6 rfl) (res_tmp 7 rfl) (res_flt 8 (w.heap.size + 1) (M.rdF x0 1 1) rfl hE.1) (res_tmp 9 rfl)) rfl ⟨rfl, hE.2.1, hE.2.2⟩

structure WtD (w : World) (rr : Nat) (M M' : Mem) (X : Array Value) (F : Flt) (c i k : Nat) (d : Nat → Bool) (r : Nat → Value) (w1 : World) : Prop where
  b : WtS w rr (if d c then M' else M) X w1
  x : d i = true → ∃ g Z, r i = .pointer (some ⟨g, 0, none⟩) ∧ w.heap.size + 1 < g ∧ w1.heap[g]? = some (.cells (fltC Z) 49 (0, 0)) ∧ (d k = true → Z = F)
  o : d k = true → d i = true
  ne : i ≠ k ∧ c ≠ i ∧ c ≠ k

section
variable {w w1 w2 : World} {rr g : Nat} {M M' : Mem} {X : Array Value} {F : Flt} {c i k : Nat} {d : Nat → Bool} {r : Nat → Value}
theorem WtD.start (h : WtS w rr M X w1) (ne : i ≠ k ∧ c ≠ i ∧ c ≠ k) (r : Nat → Value) : WtD w rr M M' X F c i k (fun _ => false) r w1 :=
  ⟨h, fun h => (by cases h), fun h => (by cases h), ne⟩
theorem WtD.quiet (h : WtD w rr M M' X F c i k d r w1) (hu : Upd [] w1 w2) (m : Nat) (h0 : c ≠ m) (h1 : i ≠ m) (h2 : k ≠ m) : WtD w rr M M' X F c i k (updD d m) r w2 := by
  refine ⟨by rw [updD_ne h0]; exact h.b.step hu, fun hx => ?_, fun ho => ?_, h.ne⟩
  · rw [updD_ne h1] at hx
    obtain ⟨g, Z, e1, e2, e3, e4⟩ := h.x hx
    exact ⟨g, Z, e1, e2, hu.get e3 (by simp), fun hk => e4 (by rwa [updD_ne h2] at hk)⟩
  · rw [updD_ne h2] at ho; rw [updD_ne h1]; exact h.o ho
theorem WtD.same (h : WtD w rr M M' X F c i k d r w1) (m : Nat) (h0 : c ≠ m) (h1 : i ≠ m) (h2 : k ≠ m) : WtD w rr M M' X F c i k (updD d m) r w1 := h.quiet (Upd.refl [] w1) m h0 h1 h2
theorem WtD.lay (h : WtD w rr M M' X F c i k d r w1) (hd : d i = false) : WtD w rr M M' X F c i k (updD d i) (updV r i (.pointer (some ⟨w1.heap.size, 0, none⟩))) (w1.alloc (.cells #[.int .i64 0, .int .u32 0, .int .u32 0, .int .i64 0] 49)) := by
  refine ⟨by rw [updD_ne h.ne.2.1]; exact h.b.step ((Upd.refl [] w1).alloc _), fun _ => ⟨_, Flt.zero, updV_eq, lt_of_heap h.b.z, heap_alloc_new _ _, fun hk => ?_⟩, fun _ => updD_eq, h.ne⟩
  rw [updD_ne h.ne.1.symm] at hk
  rw [h.o hk] at hd; cases hd
theorem WtD.store (h : WtD w rr M M' X F c i k d r w1) (hd : d i = true) {Z : Flt} (hg : r i = .pointer (some ⟨g, 0, none⟩)) (hn : w.heap.size + 1 < g) (hb' : w1.heap[g]? = some (.cells (fltC Z) 49 (0, 0))) :
    WtD w rr M M' X F c i k (updD d k) r (w1.setCells g 0 (fltC F).toList) := by
  have hu : Upd [g] w1 (w1.setCells g 0 (fltC F).toList) := (Upd.refl [g] w1).setCells (.inl (by simp)) _ _
  have hr := h.b.n
  refine ⟨?_, fun _ => ⟨g, F, hg, hn, ?_, fun _ => rfl⟩, fun _ => by rw [updD_ne h.ne.1]; exact hd, h.ne⟩
  · rw [updD_ne h.ne.2.2]
    exact ⟨h.b.f.keep hu (by simp; omega), hu.get h.b.x (by simp; omega), hu.get h.b.z (by simp; omega), h.b.u.also hu (by simp; omega), hr⟩
  · rw [heap_setCells_same _ _ _ _ hb']
    rfl
theorem WtD.call (h : WtD w rr M M' X F c i k d r w1) (hu : Upd [rr] w1 w2) (hf : IsRef w2 rr M') : WtD w rr M M' X F c i k (updD d c) r w2 := by
  have hr := h.b.n
  refine ⟨by rw [updD_eq]; exact h.b.ref hu hf, fun hx => ?_, fun ho => ?_, h.ne⟩
  · rw [updD_ne h.ne.2.1.symm] at hx
    obtain ⟨g, Z, e1, e2, e3, e4⟩ := h.x hx
    exact ⟨g, Z, e1, e2, hu.get e3 (by simp; omega), fun hk => e4 (by rwa [updD_ne h.ne.2.2.symm] at hk)⟩
  · rw [updD_ne h.ne.2.2.symm] at ho; rw [updD_ne h.ne.2.1.symm]; exact h.o ho
theorem WtD.fin (h : WtD w rr M M' X F c i k d r w1) (hi : d i = true) (hk : d k = true) : ∃ g, r i = .pointer (some ⟨g, 0, none⟩) ∧ w1.heap[g]? = some (.cells (fltC F) 49 (0, 0)) ∧ w.heap.size + 1 < g := by
  obtain ⟨g, Z, e1, e2, e3, e4⟩ := h.x hi
  rw [e4 hk] at e3
  exact ⟨g, e1, e3, e2⟩
end

end Go.Proofs.Ytoplekfnghkkdaa


namespace Go.Proofs.Ytoplekfnghkkdaa
open Go Go.RowKit
set_option linter.unusedVariables false
set_option linter.unusedSimpArgs false

structure WtE (w : World) (rr : Nat) (M : Mem) (X : Array Value) (F : Flt) (g c : Nat) (d : Nat → Bool) (w1 : World) : Prop where
  f : IsRef w1 rr M
  x : w1.heap[w.heap.size]? = some (.cells X 37 (0, 0))
  z : ∃ Z, w1.heap[w.heap.size + 1]? = some (.cells (fltC Z) 49 (0, 0)) ∧ (d c = true → Z = F)
  s : w1.heap[g]? = some (.cells (fltC F) 49 (0, 0))
  u : Upd [rr] w w1
  n : rr < w.heap.size
  gn : w.heap.size + 1 < g

section
variable {w w1 w2 : World} {rr g : Nat} {M M' : Mem} {X : Array Value} {F : Flt} {c : Nat} {d : Nat → Bool}
theorem WtE.same (h : WtE w rr M X F g c d w1) (m : Nat) (h0 : c ≠ m) : WtE w rr M X F g c (updD d m) w1 :=
  ⟨h.f, h.x, by obtain ⟨Z, e1, e2⟩ := h.z; exact ⟨Z, e1, fun hc => e2 (by rwa [updD_ne h0] at hc)⟩, h.s, h.u, h.n, h.gn⟩
theorem WtE.start (h : WtS w rr M X w1) (hs : w1.heap[g]? = some (.cells (fltC F) 49 (0, 0))) (hg : w.heap.size + 1 < g) : WtE w rr M X F g c (fun _ => false) w1.drew :=
  ⟨h.f.keep (Upd.refl [] _).drew (by simp), h.x, ⟨Flt.zero, h.z, fun hc => by cases hc⟩, hs, h.u.also (Upd.refl [] _).drew (by simp), h.n, hg⟩
theorem WtE.store (h : WtE w rr M X F g c d w1) : WtE w rr M X F g c (updD d c) (w1.setCells (w.heap.size + 1) 0 (fltC F).toList) := by
  obtain ⟨Z, e1, _⟩ := h.z
  have hu : Upd [w.heap.size + 1] w1 (w1.setCells (w.heap.size + 1) 0 (fltC F).toList) := (Upd.refl [w.heap.size + 1] w1).setCells (.inl (by simp)) _ _
  have hr := h.n
  have hg := h.gn
  refine ⟨h.f.keep hu (by simp; omega), hu.get h.x (by simp), ⟨F, ?_, fun _ => rfl⟩, hu.get h.s (by rw [List.mem_singleton]; omega), h.u.also hu (by simp), hr, hg⟩
  rw [heap_setCells_same _ _ _ _ e1]
  rfl
theorem WtE.fin (h : WtE w rr M X F g c d w1) (hc : d c = true) : w1.heap[w.heap.size + 1]? = some (.cells (fltC F) 49 (0, 0)) := by
  obtain ⟨Z, e1, e2⟩ := h.z
  rw [← e2 hc]; exact e1
end

set_option maxRecDepth 100000 in
set_option maxHeartbeats 4000000 in
theorem want3 (M : Mem) (rr : Nat) (x0 x1 x2 x3 : Int) (w : World) (hM : IsRef w rr M) (h0 : 0 ≤ x0 ∧ x0 < 4294967296) (h1 : 0 ≤ x1 ∧ x1 < 4294967296) (h2 : 0 ≤ x2 ∧ x2 < 4294967296) (h3 : 0 ≤ x3 ∧ x3 < 4294967296)  :
    Calls Try.prog 24 #[.pointer (some ⟨rr, 0, none⟩), .agg #[.int .u32 x0, .int .u32 x1, .int .u32 x2, .int .u32 x3], .int .u32 3] w fun e w' => e = .returned (.tuple #[.int .u32 (x0), .int .u32 (x1), (M.wrF x0 4).val, .bool (M.writeK x0 4)]) ∧ IsRef w' rr (M.writeM x0 4 x1) ∧ Upd [rr] w w' := by
  have hmo : Try.prog.follows .mixedOrders = true := by kernel_rfl
  have j1 := or_join x0 x1 h0 h1
  have j2 := or_join x2 x3 h2 h3
  obtain ⟨A, hA⟩ : ∃ A, x1 * 4294967296 + x0 = A := ⟨_, rfl⟩
  obtain ⟨C, hC⟩ : ∃ C, x3 * 4294967296 + x2 = C := ⟨_, rfl⟩
  rw [hA] at j1
  rw [hC] at j2
  have v0 := u64_id x0 (by omega) (by omega)
  have v1 := u64_id x1 (by omega) (by omega)
  have v2 := u64_id x2 (by omega) (by omega)
  have v3 := u64_id x3 (by omega) (by omega)
  have q1 : x1 * 4294967296 % 18446744073709551616 = x1 * 4294967296 := by omega
  have q2 : x3 * 4294967296 % 18446744073709551616 = x3 * 4294967296 := by omega
  have HA := Lib.hid (And.intro hA hC)
  have H0 := Lib.hid h0
  have H1 := Lib.hid h1
  have H2 := Lib.hid h2
  have H3 := Lib.hid h3
  have HW := Lib.hid (WtS.start hM #[.int .u32 x0, .int .u32 x1, .int .u32 x2, .int .u32 x3])
  obtain ⟨F, hF⟩ : ∃ F, M.wrF x0 4 = F := ⟨_, rfl⟩
  obtain ⟨k, hk⟩ : ∃ k, M.writeK x0 4 = k := ⟨_, rfl⟩
  have HF := Lib.hid hF
  have HK := Lib.hid hk
  rw [hF, hk]
  clear hF hk
  clear hM hA hC h0 h1 h2 h3
  go_enter Try.func24, Try.ntmps24
  go_wp2_with fail
  refine wp_draw 18 (fun w1 => WtS w rr (M) #[.int .u32 x0, .int .u32 x1, .int .u32 x2, .int .u32 x3] w1 ∧ True) (fun _ _ => False) (by kernel_rfl) (by kernel_rfl) ⟨HW.out.step (Upd.refl [] _).drew, trivial⟩ (fun _ _ _ h => h.elim) ?_
  simp only [List.take_succ_cons, List.take_zero, List.drop_succ_cons, List.drop_zero]
  repeat
    apply headW_val rfl rfl
    · intro K hK w1 hB1
      have cx := cells_of hB1.1.x
      have HB := Lib.hid hB1
      clear hB1
      go_wp2_with fail
      first
      | exact hK _ HB.out
      | exact HB.out
    · exact ⟨_, rfl⟩
  clear HW
  refine headW_nil (fun _ w8 hB1 => ?_)
  have HW := Lib.hid hB1.1
  have cx := cells_of hB1.1.x
  have cz := cells_of hB1.1.z
  have fz := free_of hB1.1.z
  clear hB1
  have hix := two_ix0 4 1
  go_wp2_with fail
  refine wp_drawE 15 (WtD w rr M (M.writeM x0 4 x1) #[.int .u32 x0, .int .u32 x1, .int .u32 x2, .int .u32 x3] F 9 13 14) (fun _ _ => False) (by kernel_rfl) (by kernel_rfl) (fun r0 => WtD.start (HW.out.step (Upd.refl [] _).drew) (by decide) r0) (fun _ _ _ h => h.elim) ?_
  simp only [List.take_succ_cons, List.take_zero, List.drop_succ_cons, List.drop_zero]
  iterate 9
    apply headE_val0 rfl rfl
    · intro d r0 K hd hdep hK w1 hB1
      have cx := cells_of hB1.b.x
      have HB := Lib.hid hB1
      clear hB1 hdep
      go_wp2_with fail
      first
      | exact hK _ (HB.out.same _ (by decide) (by decide) (by decide))
      | exact HB.out.same _ (by decide) (by decide) (by decide)
    · exact ⟨_, rfl⟩
  apply headE_val0 rfl rfl
  · intro d r0 K hd hdep hK w1 hB1
    have hf := hB1.b.f
    have hd9 : d 9 = false := hd
    rw [hd9] at hf
    have hf2 : IsRef w1 rr M := hf
    have HB := Lib.hid hB1
    have HM := Lib.hid hf2
    clear hB1 hdep hf hf2
    go_wp2_with fail
    refine (Write_ref M rr x0 4 x1 _ HM.out H0.out.1 H0.out.2 H1.out.1 H1.out.2).mono ?_
    rintro e w2 ⟨rfl, hm, hu⟩
    rw [HF.out, HK.out]
    unfold Flt.val
    exact hK _ (HB.out.call hu hm)
  · exact ⟨_, rfl⟩
  iterate 3
    apply headE_val0 rfl rfl
    · intro d r0 K hd hdep hK w1 hB1
      have cx := cells_of hB1.b.x
      have HB := Lib.hid hB1
      clear hB1 hdep
      go_wp2_with fail
      first
      | exact hK _ (HB.out.same _ (by decide) (by decide) (by decide))
      | exact HB.out.same _ (by decide) (by decide) (by decide)
    · exact ⟨_, rfl⟩
  refine headE_free rfl (fun _ => rfl) 16 rfl (by simp [Act.put]) ?_ ?_
  · intro d r0 K hd w5 hB1 hK
    have HB := Lib.hid hB1
    clear hB1
    simp only [fillE]
    go_wp2_with fail
    first
    | exact hK (.pointer (some ⟨w5.heap.size, 0, none⟩)) _ (HB.out.lay hd)
    | exact HB.out.lay hd
  apply headE_val rfl (fun _ => rfl)
  · intro d r0 K hd hdep hK w5 hB1
    have h8 : d 13 = true := hdep ⟨13, .data⟩ (by simp) rfl
    obtain ⟨g, Z, e1, e2, e3, e4⟩ := hB1.x h8
    refine wp_store_flt F Z g _ _ rfl (by show r0 13 = _; exact e1) rfl e3 ?_
    exact hK _ (hB1.store h8 e1 e2 e3)
  · exact ⟨_, fun _ => rfl, rfl⟩
  clear HW
  refine headE_nil (fun _ r0 w9 d hall hB1 => ?_)
  obtain ⟨g5, e1, hG⟩ := hB1.fin (hall 13 (by decide)) (hall 14 (by decide))
  have hb := hB1.b
  rw [hall 9 (by decide)] at hb
  have HW := Lib.hid (show WtS w rr (M.writeM x0 4 x1) #[.int .u32 x0, .int .u32 x1, .int .u32 x2, .int .u32 x3] w9 from hb)
  have HD := Lib.hid (And.intro (show w9.heap[g5]? = some (.cells (fltC F) 49 (0, 0)) from hG.1) hG.2)
  show wpList _ _ _ _ (Act.put (fillE _ _ [] _) (some 16) (r0 13)) _
  rw [e1]
  simp only [fillE]
  clear hG e1 hall hB1 hb cx cz fz
  go_wp2_with fail
  refine wp_drawE 10 (fun d _ => WtE w rr (M.writeM x0 4 x1) #[.int .u32 x0, .int .u32 x1, .int .u32 x2, .int .u32 x3] F g5 8 d) (fun _ _ => False) (by kernel_rfl) (by kernel_rfl) (fun _ => WtE.start HW.out HD.out.1 HD.out.2) (fun _ _ _ h => h.elim) ?_
  simp only [List.take_succ_cons, List.take_zero, List.drop_succ_cons, List.drop_zero]
  iterate 8
    apply headE_val0 rfl rfl
    · intro d r0 K hd hdep hK w1 hB1
      have cx := cells_of hB1.x
      have cd := cells_of hB1.s
      unfold fltC at cd
      have HB := Lib.hid hB1
      clear hB1 hdep
      go_wp2_with fail
      first
      | exact hK _ (HB.out.same _ (by decide))
      | exact HB.out.same _ (by decide)
    · exact ⟨_, rfl⟩
  apply headE_val0 rfl rfl
  · intro d r0 K hd hdep hK w5 hB1
    obtain ⟨Z, e3, _⟩ := hB1.z
    exact wp_store_flt F Z (w.heap.size + 1) _ _ rfl rfl rfl e3 (hK _ hB1.store)
  · exact ⟨_, rfl⟩
  apply headE_val0 rfl rfl
  · intro d r0 K hd hdep hK w1 hB1
    have HB := Lib.hid hB1
    clear hB1 hdep
    go_wp2_with fail
    first
    | exact hK _ (HB.out.same _ (by decide))
    | exact HB.out.same _ (by decide)
  · exact ⟨_, rfl⟩
  clear HW HD
  refine headE_nil (fun _ r0 w9 d hall hB1 => ?_)
  have HW := Lib.hid hB1
  have HF2 := Lib.hid (hB1.fin (hall 8 (by decide)))
  clear hall hB1
  go_wp2_with fail
  refine bodyPost_ret (v := .tuple #[.int .u32 (x0), .int .u32 (x1), (F).val, .bool k]) (results_four' rfl (res_tmp 6 rfl) (res_tmp 7 rfl) (res_flt 8 (w.heap.size + 1) F rfl HF2.out) (res_tmp 9 rfl)) rfl ⟨rfl, HW.out.f, HW.out.u⟩

set_option maxRecDepth 100000 in
set_option maxHeartbeats 4000000 in
theorem want4 (M : Mem) (rr : Nat) (x0 x1 x2 x3 : Int) (w : World) (hM : IsRef w rr M) (h0 : 0 ≤ x0 ∧ x0 < 4294967296) (h1 : 0 ≤ x1 ∧ x1 < 4294967296) (h2 : 0 ≤ x2 ∧ x2 < 4294967296) (h3 : 0 ≤ x3 ∧ x3 < 4294967296)  :
    Calls Try.prog 24 #[.pointer (some ⟨rr, 0, none⟩), .agg #[.int .u32 x0, .int .u32 x1, .int .u32 x2, .int .u32 x3], .int .u32 4] w fun e w' => e = .returned (.tuple #[.int .u32 (x0), .int .u32 (x1), (M.wrF x0 1).val, .bool (M.writeK x0 1)]) ∧ IsRef w' rr (M.writeM x0 1 x1) ∧ Upd [rr] w w' := by
  have hmo : Try.prog.follows .mixedOrders = true := by kernel_rfl
  have j1 := or_join x0 x1 h0 h1
  have j2 := or_join x2 x3 h2 h3
  obtain ⟨A, hA⟩ : ∃ A, x1 * 4294967296 + x0 = A := ⟨_, rfl⟩
  obtain ⟨C, hC⟩ : ∃ C, x3 * 4294967296 + x2 = C := ⟨_, rfl⟩
  rw [hA] at j1
  rw [hC] at j2
  have v0 := u64_id x0 (by omega) (by omega)
  have v1 := u64_id x1 (by omega) (by omega)
  have v2 := u64_id x2 (by omega) (by omega)
  have v3 := u64_id x3 (by omega) (by omega)
  have q1 : x1 * 4294967296 % 18446744073709551616 = x1 * 4294967296 := by omega
  have q2 : x3 * 4294967296 % 18446744073709551616 = x3 * 4294967296 := by omega
  have HA := Lib.hid (And.intro hA hC)
  have H0 := Lib.hid h0
  have H1 := Lib.hid h1
  have H2 := Lib.hid h2
  have H3 := Lib.hid h3
  have HW := Lib.hid (WtS.start hM #[.int .u32 x0, .int .u32 x1, .int .u32 x2, .int .u32 x3])
  obtain ⟨F, hF⟩ : ∃ F, M.wrF x0 1 = F := ⟨_, rfl⟩
  obtain ⟨k, hk⟩ : ∃ k, M.writeK x0 1 = k := ⟨_, rfl⟩
  have HF := Lib.hid hF
  have HK := Lib.hid hk
  rw [hF, hk]
  clear hF hk
  clear hM hA hC h0 h1 h2 h3
  go_enter Try.func24, Try.ntmps24
  go_wp2_with fail
  refine wp_draw 18 (fun w1 => WtS w rr (M) #[.int .u32 x0, .int .u32 x1, .int .u32 x2, .int .u32 x3] w1 ∧ True) (fun _ _ => False) (by kernel_rfl) (by kernel_rfl) ⟨HW.out.step (Upd.refl [] _).drew, trivial⟩ (fun _ _ _ h => h.elim) ?_
  simp only [List.take_succ_cons, List.take_zero, List.drop_succ_cons, List.drop_zero]
  repeat
    apply headW_val rfl rfl
    · intro K hK w1 hB1
      have cx := cells_of hB1.1.x
      have HB := Lib.hid hB1
      clear hB1
      go_wp2_with fail
      first
      | exact hK _ HB.out
      | exact HB.out
    · exact ⟨_, rfl⟩
  clear HW
  refine headW_nil (fun _ w8 hB1 => ?_)
  have HW := Lib.hid hB1.1
  have cx := cells_of hB1.1.x
  have cz := cells_of hB1.1.z
  have fz := free_of hB1.1.z
  clear hB1
  have hix := two_ix1 4 1
  go_wp2_with fail
  refine wp_drawE 15 (WtD w rr M (M.writeM x0 1 x1) #[.int .u32 x0, .int .u32 x1, .int .u32 x2, .int .u32 x3] F 9 13 14) (fun _ _ => False) (by kernel_rfl) (by kernel_rfl) (fun r0 => WtD.start (HW.out.step (Upd.refl [] _).drew) (by decide) r0) (fun _ _ _ h => h.elim) ?_
  simp only [List.take_succ_cons, List.take_zero, List.drop_succ_cons, List.drop_zero]
  iterate 9
    apply headE_val0 rfl rfl
    · intro d r0 K hd hdep hK w1 hB1
      have cx := cells_of hB1.b.x
      have HB := Lib.hid hB1
      clear hB1 hdep
      go_wp2_with fail
      first
      | exact hK _ (HB.out.same _ (by decide) (by decide) (by decide))
      | exact HB.out.same _ (by decide) (by decide) (by decide)
    · exact ⟨_, rfl⟩
  apply headE_val0 rfl rfl
  · intro d r0 K hd hdep hK w1 hB1
    have hf := hB1.b.f
    have hd9 : d 9 = false := hd
    rw [hd9] at hf
    have hf2 : IsRef w1 rr M := hf
    have HB := Lib.hid hB1
    have HM := Lib.hid hf2
    clear hB1 hdep hf hf2
    go_wp2_with fail
    refine (Write_ref M rr x0 1 x1 _ HM.out H0.out.1 H0.out.2 H1.out.1 H1.out.2).mono ?_
    rintro e w2 ⟨rfl, hm, hu⟩
    rw [HF.out, HK.out]
    unfold Flt.val
    exact hK _ (HB.out.call hu hm)
  · exact ⟨_, rfl⟩
  iterate 3
    apply headE_val0 rfl rfl
    · intro d r0 K hd hdep hK w1 hB1
      have cx := cells_of hB1.b.x
      have HB := Lib.hid hB1
      clear hB1 hdep
      go_wp2_with fail
      first
      | exact hK _ (HB.out.same _ (by decide) (by decide) (by decide))
      | exact HB.out.same _ (by decide) (by decide) (by decide)
    · exact ⟨_, rfl⟩
  refine headE_free rfl (fun _ => rfl) 16 rfl (by simp [Act.put]) ?_ ?_
  · intro d r0 K hd w5 hB1 hK
    have HB := Lib.hid hB1
    clear hB1
    simp only [fillE]
    go_wp2_with fail
    first
    | exact hK (.pointer (some ⟨w5.heap.size, 0, none⟩)) _ (HB.out.lay hd)
    | exact HB.out.lay hd
  apply headE_val rfl (fun _ => rfl)
  · intro d r0 K hd hdep hK w5 hB1
    have h8 : d 13 = true := hdep ⟨13, .data⟩ (by simp) rfl
    obtain ⟨g, Z, e1, e2, e3, e4⟩ := hB1.x h8
    refine wp_store_flt F Z g _ _ rfl (by show r0 13 = _; exact e1) rfl e3 ?_
    exact hK _ (hB1.store h8 e1 e2 e3)
  · exact ⟨_, fun _ => rfl, rfl⟩
  clear HW
  refine headE_nil (fun _ r0 w9 d hall hB1 => ?_)
  obtain ⟨g5, e1, hG⟩ := hB1.fin (hall 13 (by decide)) (hall 14 (by decide))
  have hb := hB1.b
  rw [hall 9 (by decide)] at hb
  have HW := Lib.hid (show WtS w rr (M.writeM x0 1 x1) #[.int .u32 x0, .int .u32 x1, .int .u32 x2, .int .u32 x3] w9 from hb)
  have HD := Lib.hid (And.intro (show w9.heap[g5]? = some (.cells (fltC F) 49 (0, 0)) from hG.1) hG.2)
  show wpList _ _ _ _ (Act.put (fillE _ _ [] _) (some 16) (r0 13)) _
  rw [e1]
  simp only [fillE]
  clear hG e1 hall hB1 hb cx cz fz
  go_wp2_with fail
  refine wp_drawE 10 (fun d _ => WtE w rr (M.writeM x0 1 x1) #[.int .u32 x0, .int .u32 x1, .int .u32 x2, .int .u32 x3] F g5 8 d) (fun _ _ => False) (by kernel_rfl) (by kernel_rfl) (fun _ => WtE.start HW.out HD.out.1 HD.out.2) (fun _ _ _ h => h.elim) ?_
  simp only [List.take_succ_cons, List.take_zero, List.drop_succ_cons, List.drop_zero]
  iterate 8
    apply headE_val0 rfl rfl
    · intro d r0 K hd hdep hK w1 hB1
      have cx := cells_of hB1.x
      have cd := cells_of hB1.s
      unfold fltC at cd
      have HB := Lib.hid hB1
      clear hB1 hdep
      go_wp2_with fail
      first
      | exact hK _ (HB.out.same _ (by decide))
      | exact HB.out.same _ (by decide)
    · exact ⟨_, rfl⟩
  apply headE_val0 rfl rfl
  · intro d r0 K hd hdep hK w5 hB1
    obtain ⟨Z, e3, _⟩ := hB1.z
    exact wp_store_flt F Z (w.heap.size + 1) _ _ rfl rfl rfl e3 (hK _ hB1.store)
  · exact ⟨_, rfl⟩
  apply headE_val0 rfl rfl
  · intro d r0 K hd hdep hK w1 hB1
    have HB := Lib.hid hB1
    clear hB1 hdep
    go_wp2_with fail
    first
    | exact hK _ (HB.out.same _ (by decide))
    | exact HB.out.same _ (by decide)
  · exact ⟨_, rfl⟩
  clear HW HD
  refine headE_nil (fun _ r0 w9 d hall hB1 => ?_)
  have HW := Lib.hid hB1
  have HF2 := Lib.hid (hB1.fin (hall 8 (by decide)))
  clear hall hB1
  go_wp2_with fail
  refine bodyPost_ret (v := .tuple #[.int .u32 (x0), .int .u32 (x1), (F).val, .bool k]) (results_four' rfl (res_tmp 6 rfl) (res_tmp 7 rfl) (res_flt 8 (w.heap.size + 1) F rfl HF2.out) (res_tmp 9 rfl)) rfl ⟨rfl, HW.out.f, HW.out.u⟩

end Go.Proofs.Ytoplekfnghkkdaa


namespace Go.Proofs.Ytoplekfnghkkdaa
open Go Go.RowKit
set_option linter.unusedVariables false
set_option linter.unusedSimpArgs false

set_option maxRecDepth 100000 in
set_option maxHeartbeats 4000000 in
theorem want5_true (M : Mem) (rr : Nat) (x0 x1 x2 x3 : Int) (w : World) (hM : IsRef w rr M) (h0 : 0 ≤ x0 ∧ x0 < 4294967296) (h1 : 0 ≤ x1 ∧ x1 < 4294967296) (h2 : 0 ≤ x2 ∧ x2 < 4294967296) (h3 : 0 ≤ x3 ∧ x3 < 4294967296) (hk : divK x0 x1 x2 = true) :
    Calls Try.prog 24 #[.pointer (some ⟨rr, 0, none⟩), .agg #[.int .u32 x0, .int .u32 x1, .int .u32 x2, .int .u32 x3], .int .u32 5] w fun e w' => e = .returned (.tuple #[.int .u32 (divQ x0 x1 x2), .int .u32 (divR x0 x1 x2), (Flt.zero).val, .bool true]) ∧ IsRef w' rr (M) ∧ Upd [rr] w w' := by
  have hmo : Try.prog.follows .mixedOrders = true := by kernel_rfl
  have j1 := or_join x0 x1 h0 h1
  have j2 := or_join x2 x3 h2 h3
  obtain ⟨A, hA⟩ : ∃ A, x1 * 4294967296 + x0 = A := ⟨_, rfl⟩
  obtain ⟨C, hC⟩ : ∃ C, x3 * 4294967296 + x2 = C := ⟨_, rfl⟩
  rw [hA] at j1
  rw [hC] at j2
  have v0 := u64_id x0 (by omega) (by omega)
  have v1 := u64_id x1 (by omega) (by omega)
  have v2 := u64_id x2 (by omega) (by omega)
  have v3 := u64_id x3 (by omega) (by omega)
  have q1 : x1 * 4294967296 % 18446744073709551616 = x1 * 4294967296 := by omega
  have q2 : x3 * 4294967296 % 18446744073709551616 = x3 * 4294967296 := by omega
  have HA := Lib.hid (And.intro hA hC)
  have H0 := Lib.hid h0
  have H1 := Lib.hid h1
  have H2 := Lib.hid h2
  have H3 := Lib.hid h3
  have HW := Lib.hid (WtS.start hM #[.int .u32 x0, .int .u32 x1, .int .u32 x2, .int .u32 x3])
  have HK := Lib.hid hk
  clear hk
  clear hM hA hC h0 h1 h2 h3
  go_enter Try.func24, Try.ntmps24
  go_wp2_with fail
  refine wp_draw 18 (fun w1 => WtS w rr (M) #[.int .u32 x0, .int .u32 x1, .int .u32 x2, .int .u32 x3] w1 ∧ True) (fun _ _ => False) (by kernel_rfl) (by kernel_rfl) ⟨HW.out.step (Upd.refl [] _).drew, trivial⟩ (fun _ _ _ h => h.elim) ?_
  simp only [List.take_succ_cons, List.take_zero, List.drop_succ_cons, List.drop_zero]
  repeat
    apply headW_val rfl rfl
    · intro K hK w1 hB1
      have cx := cells_of hB1.1.x
      have HB := Lib.hid hB1
      clear hB1
      go_wp2_with fail
      first
      | exact hK _ HB.out
      | exact HB.out
    · exact ⟨_, rfl⟩
  clear HW
  refine headW_nil (fun _ w8 hB1 => ?_)
  have HW := Lib.hid hB1.1
  have cx := cells_of hB1.1.x
  have cz := cells_of hB1.1.z
  have fz := free_of hB1.1.z
  clear hB1
  have hix := two_ix0 19 20
  obtain ⟨Q, hQ⟩ : ∃ Q, divQ x0 x1 x2 = Q := ⟨_, rfl⟩
  obtain ⟨R, hR⟩ : ∃ R, divR x0 x1 x2 = R := ⟨_, rfl⟩
  have HQ := Lib.hid (And.intro hQ hR)
  clear hQ hR
  go_wp2_with fail
  refine wp_draw 18 (fun w1 => WtS w rr M #[.int .u32 x0, .int .u32 x1, .int .u32 x2, .int .u32 x3] w1) (fun _ _ => False) (by kernel_rfl) (by kernel_rfl) (HW.out.step (Upd.refl [] _).drew) (fun _ _ _ h => h.elim) ?_
  simp only [List.take_succ_cons, List.take_zero, List.drop_succ_cons, List.drop_zero]
  iterate 10
    apply headW_val rfl rfl
    · intro K hK w1 hB1
      have cx := cells_of hB1.x
      have HB := Lib.hid hB1
      clear hB1
      go_wp2_with fail
      first
      | exact hK _ HB.out
      | exact HB.out
      | exact hK _ (HB.out.step hu)
      | exact HB.out.step hu
    · exact ⟨_, rfl⟩
  iterate 1
    apply headW_val rfl rfl
    · intro K hK w1 hB1
      have cx := cells_of hB1.x
      have HB := Lib.hid hB1
      clear hB1
      go_wp2_with (go_at_call 64; refine (RDiv_any x0 x1 x2 H0.out H1.out H2.out _).mono ?_; rintro e w9 ⟨rfl, hu⟩; rw [HQ.out.1, HQ.out.2, HK.out])
      first
      | exact hK _ HB.out
      | exact HB.out
      | exact hK _ (HB.out.step hu)
      | exact HB.out.step hu
    · exact ⟨_, rfl⟩
  iterate 7
    apply headW_val rfl rfl
    · intro K hK w1 hB1
      have cx := cells_of hB1.x
      have HB := Lib.hid hB1
      clear hB1
      go_wp2_with fail
      first
      | exact hK _ HB.out
      | exact HB.out
      | exact hK _ (HB.out.step hu)
      | exact HB.out.step hu
    · exact ⟨_, rfl⟩
  clear HW
  refine headW_nil (fun _ w8 hB1 => ?_)
  have HW := Lib.hid hB1
  clear hB1 cx cz fz
  have cz := cells_of HW.out.z
  have fz := free_of HW.out.z
  go_wp2_with fail
  have hE := HW.out.fin (Flt.zero) HW.out
  refine bodyPost_ret (v := .tuple #[.int .u32 (Q), .int .u32 (R), (Flt.zero).val, .bool true]) (results_four' rfl (res_tmp 6 rfl) (res_tmp 7 rfl) (res_flt 8 (w.heap.size + 1) (Flt.zero) rfl hE.1) (res_tmp 9 rfl)) rfl ⟨by rw [HQ.out.1, HQ.out.2], hE.2.1, hE.2.2⟩

set_option maxRecDepth 100000 in
set_option maxHeartbeats 4000000 in
theorem want5_false (M : Mem) (rr : Nat) (x0 x1 x2 x3 : Int) (w : World) (hM : IsRef w rr M) (h0 : 0 ≤ x0 ∧ x0 < 4294967296) (h1 : 0 ≤ x1 ∧ x1 < 4294967296) (h2 : 0 ≤ x2 ∧ x2 < 4294967296) (h3 : 0 ≤ x3 ∧ x3 < 4294967296) (hk : divK x0 x1 x2 = false) :
    Calls Try.prog 24 #[.pointer (some ⟨rr, 0, none⟩), .agg #[.int .u32 x0, .int .u32 x1, .int .u32 x2, .int .u32 x3], .int .u32 5] w fun e w' => e = .returned (.tuple #[.int .u32 (x0), .int .u32 (x1), (Flt.div).val, .bool false]) ∧ IsRef w' rr (M) ∧ Upd [rr] w w' := by
  have hmo : Try.prog.follows .mixedOrders = true := by kernel_rfl
  have j1 := or_join x0 x1 h0 h1
  have j2 := or_join x2 x3 h2 h3
  obtain ⟨A, hA⟩ : ∃ A, x1 * 4294967296 + x0 = A := ⟨_, rfl⟩
  obtain ⟨C, hC⟩ : ∃ C, x3 * 4294967296 + x2 = C := ⟨_, rfl⟩
  rw [hA] at j1
  rw [hC] at j2
  have v0 := u64_id x0 (by omega) (by omega)
  have v1 := u64_id x1 (by omega) (by omega)
  have v2 := u64_id x2 (by omega) (by omega)
  have v3 := u64_id x3 (by omega) (by omega)
  have q1 : x1 * 4294967296 % 18446744073709551616 = x1 * 4294967296 := by omega
  have q2 : x3 * 4294967296 % 18446744073709551616 = x3 * 4294967296 := by omega
  have HA := Lib.hid (And.intro hA hC)
  have H0 := Lib.hid h0
  have H1 := Lib.hid h1
  have H2 := Lib.hid h2
  have H3 := Lib.hid h3
  have HW := Lib.hid (WtS.start hM #[.int .u32 x0, .int .u32 x1, .int .u32 x2, .int .u32 x3])
  have HK := Lib.hid hk
  clear hk
  clear hM hA hC h0 h1 h2 h3
  go_enter Try.func24, Try.ntmps24
  go_wp2_with fail
  refine wp_draw 18 (fun w1 => WtS w rr (M) #[.int .u32 x0, .int .u32 x1, .int .u32 x2, .int .u32 x3] w1 ∧ True) (fun _ _ => False) (by kernel_rfl) (by kernel_rfl) ⟨HW.out.step (Upd.refl [] _).drew, trivial⟩ (fun _ _ _ h => h.elim) ?_
  simp only [List.take_succ_cons, List.take_zero, List.drop_succ_cons, List.drop_zero]
  repeat
    apply headW_val rfl rfl
    · intro K hK w1 hB1
      have cx := cells_of hB1.1.x
      have HB := Lib.hid hB1
      clear hB1
      go_wp2_with fail
      first
      | exact hK _ HB.out
      | exact HB.out
    · exact ⟨_, rfl⟩
  clear HW
  refine headW_nil (fun _ w8 hB1 => ?_)
  have HW := Lib.hid hB1.1
  have cx := cells_of hB1.1.x
  have cz := cells_of hB1.1.z
  have fz := free_of hB1.1.z
  clear hB1
  have hix := two_ix0 19 20
  obtain ⟨Q, hQ⟩ : ∃ Q, divQ x0 x1 x2 = Q := ⟨_, rfl⟩
  obtain ⟨R, hR⟩ : ∃ R, divR x0 x1 x2 = R := ⟨_, rfl⟩
  have HQ := Lib.hid (And.intro hQ hR)
  clear hQ hR
  go_wp2_with fail
  refine wp_draw 18 (fun w1 => WtS w rr M #[.int .u32 x0, .int .u32 x1, .int .u32 x2, .int .u32 x3] w1) (fun _ _ => False) (by kernel_rfl) (by kernel_rfl) (HW.out.step (Upd.refl [] _).drew) (fun _ _ _ h => h.elim) ?_
  simp only [List.take_succ_cons, List.take_zero, List.drop_succ_cons, List.drop_zero]
  iterate 10
    apply headW_val rfl rfl
    · intro K hK w1 hB1
      have cx := cells_of hB1.x
      have HB := Lib.hid hB1
      clear hB1
      go_wp2_with fail
      first
      | exact hK _ HB.out
      | exact HB.out
      | exact hK _ (HB.out.step hu)
      | exact HB.out.step hu
    · exact ⟨_, rfl⟩
  iterate 1
    apply headW_val rfl rfl
    · intro K hK w1 hB1
      have cx := cells_of hB1.x
      have HB := Lib.hid hB1
      clear hB1
      go_wp2_with (go_at_call 64; refine (RDiv_any x0 x1 x2 H0.out H1.out H2.out _).mono ?_; rintro e w9 ⟨rfl, hu⟩; rw [HQ.out.1, HQ.out.2, HK.out])
      first
      | exact hK _ HB.out
      | exact HB.out
      | exact hK _ (HB.out.step hu)
      | exact HB.out.step hu
    · exact ⟨_, rfl⟩
  iterate 7
    apply headW_val rfl rfl
    · intro K hK w1 hB1
      have cx := cells_of hB1.x
      have HB := Lib.hid hB1
      clear hB1
      go_wp2_with fail
      first
      | exact hK _ HB.out
      | exact HB.out
      | exact hK _ (HB.out.step hu)
      | exact HB.out.step hu
    · exact ⟨_, rfl⟩
  clear HW
  refine headW_nil (fun _ w8 hB1 => ?_)
  have HW := Lib.hid hB1
  clear hB1 cx cz fz
  have cz := cells_of HW.out.z
  have fz := free_of HW.out.z
  go_wp2_with fail
  refine wp_draw 7 (fun w1 => WtS w rr (M) #[.int .u32 x0, .int .u32 x1, .int .u32 x2, .int .u32 x3] w1 ∧ True) (fun _ _ => False) (by kernel_rfl) (by kernel_rfl) ⟨HW.out.step (Upd.refl [] _).drew, trivial⟩ (fun _ _ _ h => h.elim) ?_
  simp only [List.take_succ_cons, List.take_zero, List.drop_succ_cons, List.drop_zero]
  repeat
    apply headW_val rfl rfl
    · intro K hK w1 hB1
      have cx := cells_of hB1.1.x
      have HB := Lib.hid hB1
      clear hB1
      go_wp2_with fail
      first
      | exact hK _ HB.out
      | exact HB.out
    · exact ⟨_, rfl⟩
  clear HW
  refine headW_nil (fun _ w8 hB1 => ?_)
  have HW := Lib.hid hB1.1
  have cx := cells_of hB1.1.x
  have cz := cells_of hB1.1.z
  have fz := free_of hB1.1.z
  clear hB1
  go_wp2_with fail
  have hE := HW.out.fin (Flt.div) HW.out
  refine bodyPost_ret (v := .tuple #[.int .u32 (x0), .int .u32 (x1), (Flt.div).val, .bool false]) (results_four' rfl (res_tmp 6 rfl) (res_tmp 7 rfl) (res_flt 8 (w.heap.size + 1) (Flt.div) rfl hE.1) (res_tmp 9 rfl)) rfl ⟨rfl, hE.2.1, hE.2.2⟩

set_option maxRecDepth 100000 in
set_option maxHeartbeats 4000000 in
theorem want6_true (M : Mem) (rr : Nat) (x0 x1 x2 x3 : Int) (w : World) (hM : IsRef w rr M) (h0 : 0 ≤ x0 ∧ x0 < 4294967296) (h1 : 0 ≤ x1 ∧ x1 < 4294967296) (h2 : 0 ≤ x2 ∧ x2 < 4294967296) (h3 : 0 ≤ x3 ∧ x3 < 4294967296) (hk : sgK x0 x1 x2 = true) :
    Calls Try.prog 24 #[.pointer (some ⟨rr, 0, none⟩), .agg #[.int .u32 x0, .int .u32 x1, .int .u32 x2, .int .u32 x3], .int .u32 6] w fun e w' => e = .returned (.tuple #[.int .u32 (sgQ x0 x1 x2), .int .u32 (sgR x0 x1 x2), (Flt.zero).val, .bool true]) ∧ IsRef w' rr (M) ∧ Upd [rr] w w' := by
  have hmo : Try.prog.follows .mixedOrders = true := by kernel_rfl
  have j1 := or_join x0 x1 h0 h1
  have j2 := or_join x2 x3 h2 h3
  obtain ⟨A, hA⟩ : ∃ A, x1 * 4294967296 + x0 = A := ⟨_, rfl⟩
  obtain ⟨C, hC⟩ : ∃ C, x3 * 4294967296 + x2 = C := ⟨_, rfl⟩
  rw [hA] at j1
  rw [hC] at j2
  have v0 := u64_id x0 (by omega) (by omega)
  have v1 := u64_id x1 (by omega) (by omega)
  have v2 := u64_id x2 (by omega) (by omega)
  have v3 := u64_id x3 (by omega) (by omega)
  have q1 : x1 * 4294967296 % 18446744073709551616 = x1 * 4294967296 := by omega
  have q2 : x3 * 4294967296 % 18446744073709551616 = x3 * 4294967296 := by omega
  have HA := Lib.hid (And.intro hA hC)
  have H0 := Lib.hid h0
  have H1 := Lib.hid h1
  have H2 := Lib.hid h2
  have H3 := Lib.hid h3
  have HW := Lib.hid (WtS.start hM #[.int .u32 x0, .int .u32 x1, .int .u32 x2, .int .u32 x3])
  have HK := Lib.hid hk
  clear hk
  clear hM hA hC h0 h1 h2 h3
  go_enter Try.func24, Try.ntmps24
  go_wp2_with fail
  refine wp_draw 18 (fun w1 => WtS w rr (M) #[.int .u32 x0, .int .u32 x1, .int .u32 x2, .int .u32 x3] w1 ∧ True) (fun _ _ => False) (by kernel_rfl) (by kernel_rfl) ⟨HW.out.step (Upd.refl [] _).drew, trivial⟩ (fun _ _ _ h => h.elim) ?_
  simp only [List.take_succ_cons, List.take_zero, List.drop_succ_cons, List.drop_zero]
  repeat
    apply headW_val rfl rfl
    · intro K hK w1 hB1
      have cx := cells_of hB1.1.x
      have HB := Lib.hid hB1
      clear hB1
      go_wp2_with fail
      first
      | exact hK _ HB.out
      | exact HB.out
    · exact ⟨_, rfl⟩
  clear HW
  refine headW_nil (fun _ w8 hB1 => ?_)
  have HW := Lib.hid hB1.1
  have cx := cells_of hB1.1.x
  have cz := cells_of hB1.1.z
  have fz := free_of hB1.1.z
  clear hB1
  have hix := two_ix1 19 20
  obtain ⟨Q, hQ⟩ : ∃ Q, sgQ x0 x1 x2 = Q := ⟨_, rfl⟩
  obtain ⟨R, hR⟩ : ∃ R, sgR x0 x1 x2 = R := ⟨_, rfl⟩
  have HQ := Lib.hid (And.intro hQ hR)
  clear hQ hR
  go_wp2_with fail
  refine wp_draw 18 (fun w1 => WtS w rr M #[.int .u32 x0, .int .u32 x1, .int .u32 x2, .int .u32 x3] w1) (fun _ _ => False) (by kernel_rfl) (by kernel_rfl) (HW.out.step (Upd.refl [] _).drew) (fun _ _ _ h => h.elim) ?_
  simp only [List.take_succ_cons, List.take_zero, List.drop_succ_cons, List.drop_zero]
  iterate 10
    apply headW_val rfl rfl
    · intro K hK w1 hB1
      have cx := cells_of hB1.x
      have HB := Lib.hid hB1
      clear hB1
      go_wp2_with fail
      first
      | exact hK _ HB.out
      | exact HB.out
      | exact hK _ (HB.out.step hu)
      | exact HB.out.step hu
    · exact ⟨_, rfl⟩
  iterate 1
    apply headW_val rfl rfl
    · intro K hK w1 hB1
      have cx := cells_of hB1.x
      have HB := Lib.hid hB1
      clear hB1
      go_wp2_with (go_at_call 64; refine (RSDiv_any x0 x1 x2 H0.out H1.out H2.out _).mono ?_; rintro e w9 ⟨rfl, hu⟩; rw [HQ.out.1, HQ.out.2, HK.out])
      first
      | exact hK _ HB.out
      | exact HB.out
      | exact hK _ (HB.out.step hu)
      | exact HB.out.step hu
    · exact ⟨_, rfl⟩
  iterate 7
    apply headW_val rfl rfl
    · intro K hK w1 hB1
      have cx := cells_of hB1.x
      have HB := Lib.hid hB1
      clear hB1
      go_wp2_with fail
      first
      | exact hK _ HB.out
      | exact HB.out
      | exact hK _ (HB.out.step hu)
      | exact HB.out.step hu
    · exact ⟨_, rfl⟩
  clear HW
  refine headW_nil (fun _ w8 hB1 => ?_)
  have HW := Lib.hid hB1
  clear hB1 cx cz fz
  have cz := cells_of HW.out.z
  have fz := free_of HW.out.z
  go_wp2_with fail
  have hE := HW.out.fin (Flt.zero) HW.out
  refine bodyPost_ret (v := .tuple #[.int .u32 (Q), .int .u32 (R), (Flt.zero).val, .bool true]) (results_four' rfl (res_tmp 6 rfl) (res_tmp 7 rfl) (res_flt 8 (w.heap.size + 1) (Flt.zero) rfl hE.1) (res_tmp 9 rfl)) rfl ⟨by rw [HQ.out.1, HQ.out.2], hE.2.1, hE.2.2⟩

set_option maxRecDepth 100000 in
set_option maxHeartbeats 4000000 in
theorem want6_false (M : Mem) (rr : Nat) (x0 x1 x2 x3 : Int) (w : World) (hM : IsRef w rr M) (h0 : 0 ≤ x0 ∧ x0 < 4294967296) (h1 : 0 ≤ x1 ∧ x1 < 4294967296) (h2 : 0 ≤ x2 ∧ x2 < 4294967296) (h3 : 0 ≤ x3 ∧ x3 < 4294967296) (hk : sgK x0 x1 x2 = false) :
    Calls Try.prog 24 #[.pointer (some ⟨rr, 0, none⟩), .agg #[.int .u32 x0, .int .u32 x1, .int .u32 x2, .int .u32 x3], .int .u32 6] w fun e w' => e = .returned (.tuple #[.int .u32 (x0), .int .u32 (x1), (Flt.div).val, .bool false]) ∧ IsRef w' rr (M) ∧ Upd [rr] w w' := by
  have hmo : Try.prog.follows .mixedOrders = true := by kernel_rfl
  have j1 := or_join x0 x1 h0 h1
  have j2 := or_join x2 x3 h2 h3
  obtain ⟨A, hA⟩ : ∃ A, x1 * 4294967296 + x0 = A := ⟨_, rfl⟩
  obtain ⟨C, hC⟩ : ∃ C, x3 * 4294967296 + x2 = C := ⟨_, rfl⟩
  rw [hA] at j1
  rw [hC] at j2
  have v0 := u64_id x0 (by omega) (by omega)
  have v1 := u64_id x1 (by omega) (by omega)
  have v2 := u64_id x2 (by omega) (by omega)
  have v3 := u64_id x3 (by omega) (by omega)
  have q1 : x1 * 4294967296 % 18446744073709551616 = x1 * 4294967296 := by omega
  have q2 : x3 * 4294967296 % 18446744073709551616 = x3 * 4294967296 := by omega
  have HA := Lib.hid (And.intro hA hC)
  have H0 := Lib.hid h0
  have H1 := Lib.hid h1
  have H2 := Lib.hid h2
  have H3 := Lib.hid h3
  have HW := Lib.hid (WtS.start hM #[.int .u32 x0, .int .u32 x1, .int .u32 x2, .int .u32 x3])
  have HK := Lib.hid hk
  clear hk
  clear hM hA hC h0 h1 h2 h3
  go_enter Try.func24, Try.ntmps24
  go_wp2_with fail
  refine wp_draw 18 (fun w1 => WtS w rr (M) #[.int .u32 x0, .int .u32 x1, .int .u32 x2, .int .u32 x3] w1 ∧ True) (fun _ _ => False) (by kernel_rfl) (by kernel_rfl) ⟨HW.out.step (Upd.refl [] _).drew, trivial⟩ (fun _ _ _ h => h.elim) ?_
  simp only [List.take_succ_cons, List.take_zero, List.drop_succ_cons, List.drop_zero]
  repeat
    apply headW_val rfl rfl
    · intro K hK w1 hB1
      have cx := cells_of hB1.1.x
      have HB := Lib.hid hB1
      clear hB1
      go_wp2_with fail
      first
      | exact hK _ HB.out
      | exact HB.out
    · exact ⟨_, rfl⟩
  clear HW
  refine headW_nil (fun _ w8 hB1 => ?_)
  have HW := Lib.hid hB1.1
  have cx := cells_of hB1.1.x
  have cz := cells_of hB1.1.z
  have fz := free_of hB1.1.z
  clear hB1
  have hix := two_ix1 19 20
  obtain ⟨Q, hQ⟩ : ∃ Q, sgQ x0 x1 x2 = Q := ⟨_, rfl⟩
  obtain ⟨R, hR⟩ : ∃ R, sgR x0 x1 x2 = R := ⟨_, rfl⟩
  have HQ := Lib.hid (And.intro hQ hR)
  clear hQ hR
  go_wp2_with fail
  refine wp_draw 18 (fun w1 => WtS w rr M #[.int .u32 x0, .int .u32 x1, .int .u32 x2, .int .u32 x3] w1) (fun _ _ => False) (by kernel_rfl) (by kernel_rfl) (HW.out.step (Upd.refl [] _).drew) (fun _ _ _ h => h.elim) ?_
  simp only [List.take_succ_cons, List.take_zero, List.drop_succ_cons, List.drop_zero]
  iterate 10
    apply headW_val rfl rfl
    · intro K hK w1 hB1
      have cx := cells_of hB1.x
      have HB := Lib.hid hB1
      clear hB1
      go_wp2_with fail
      first
      | exact hK _ HB.out
      | exact HB.out
      | exact hK _ (HB.out.step hu)
      | exact HB.out.step hu
    · exact ⟨_, rfl⟩
  iterate 1
    apply headW_val rfl rfl
    · intro K hK w1 hB1
      have cx := cells_of hB1.x
      have HB := Lib.hid hB1
      clear hB1
      go_wp2_with (go_at_call 64; refine (RSDiv_any x0 x1 x2 H0.out H1.out H2.out _).mono ?_; rintro e w9 ⟨rfl, hu⟩; rw [HQ.out.1, HQ.out.2, HK.out])
      first
      | exact hK _ HB.out
      | exact HB.out
      | exact hK _ (HB.out.step hu)
      | exact HB.out.step hu
    · exact ⟨_, rfl⟩
  iterate 7
    apply headW_val rfl rfl
    · intro K hK w1 hB1
      have cx := cells_of hB1.x
      have HB := Lib.hid hB1
      clear hB1
      go_wp2_with fail
      first
      | exact hK _ HB.out
      | exact HB.out
      | exact hK _ (HB.out.step hu)
      | exact HB.out.step hu
    · exact ⟨_, rfl⟩
  clear HW
  refine headW_nil (fun _ w8 hB1 => ?_)
  have HW := Lib.hid hB1
  clear hB1 cx cz fz
  have cz := cells_of HW.out.z
  have fz := free_of HW.out.z
  go_wp2_with fail
  refine wp_draw 7 (fun w1 => WtS w rr (M) #[.int .u32 x0, .int .u32 x1, .int .u32 x2, .int .u32 x3] w1 ∧ True) (fun _ _ => False) (by kernel_rfl) (by kernel_rfl) ⟨HW.out.step (Upd.refl [] _).drew, trivial⟩ (fun _ _ _ h => h.elim) ?_
  simp only [List.take_succ_cons, List.take_zero, List.drop_succ_cons, List.drop_zero]
  repeat
    apply headW_val rfl rfl
    · intro K hK w1 hB1
      have cx := cells_of hB1.1.x
      have HB := Lib.hid hB1
      clear hB1
      go_wp2_with fail
      first
      | exact hK _ HB.out
      | exact HB.out
    · exact ⟨_, rfl⟩
  clear HW
  refine headW_nil (fun _ w8 hB1 => ?_)
  have HW := Lib.hid hB1.1
  have cx := cells_of hB1.1.x
  have cz := cells_of hB1.1.z
  have fz := free_of hB1.1.z
  clear hB1
  go_wp2_with fail
  have hE := HW.out.fin (Flt.div) HW.out
  refine bodyPost_ret (v := .tuple #[.int .u32 (x0), .int .u32 (x1), (Flt.div).val, .bool false]) (results_four' rfl (res_tmp 6 rfl) (res_tmp 7 rfl) (res_flt 8 (w.heap.size + 1) (Flt.div) rfl hE.1) (res_tmp 9 rfl)) rfl ⟨rfl, hE.2.1, hE.2.2⟩

end Go.Proofs.Ytoplekfnghkkdaa
