
import Derived.Test.YtoplekfnghkkdaaMg16
namespace Go.Proofs.Ytoplekfnghkkdaa
open Go Go.RowKit
set_option linter.unusedVariables false
set_option linter.unusedSimpArgs false

set_option maxRecDepth 100000 in
set_option maxHeartbeats 4000000 in
theorem want7_false (M : Mem) (rr : Nat) (x0 x1 x2 x3 : Int) (w : World) (hM : IsRef w rr M) (h0 : 0 ≤ x0 ∧ x0 < 4294967296) (h1 : 0 ≤ x1 ∧ x1 < 4294967296) (h2 : 0 ≤ x2 ∧ x2 < 4294967296) (h3 : 0 ≤ x3 ∧ x3 < 4294967296) (hk : M.canK x0 8 1 = false) :
    Calls Try.prog 24 #[.pointer (some ⟨rr, 0, none⟩), .agg #[.int .u32 x0, .int .u32 x1, .int .u32 x2, .int .u32 x3], .int .u32 7] w fun e w' => e = .returned (.tuple #[.int .u32 (x0), .int .u32 (x1), (M.canF x0 8 1).val, .bool false]) ∧ IsRef w' rr (M) ∧ Upd [rr] w w' := by
  have hmo : Try.prog.follows .mixedOrders = true := by kernel_rfl
  have j1 := or_join x0 x1 h0 h1
  have j2 := or_join x2 x3 h2 h3
  obtain ⟨A, hA⟩ : ∃ A, x1 * 4294967296 + x0 = A := ⟨_, rfl⟩
  obtain ⟨C, hC⟩ : ∃ C, x3 * 4294967296 + x2 = C := ⟨_, rfl⟩
  rw [hA] at j1
  rw [hC] at j2
  have v0 := u64_id x0 (by omega) (by omega)
  have v1 := u64_id x1 (by omega) (by omega)
  have v2 := u64_id x2 (by omega) (by omega)
  have v3 := u64_id x3 (by omega) (by omega)
  have q1 : x1 * 4294967296 % 18446744073709551616 = x1 * 4294967296 := by omega
  have q2 : x3 * 4294967296 % 18446744073709551616 = x3 * 4294967296 := by omega
  have HA := Lib.hid (And.intro hA hC)
  have H0 := Lib.hid h0
  have H1 := Lib.hid h1
  have H2 := Lib.hid h2
  have H3 := Lib.hid h3
  have HW := Lib.hid (WtS.start hM #[.int .u32 x0, .int .u32 x1, .int .u32 x2, .int .u32 x3])
  have HK := Lib.hid hk
  clear hk
  clear hM hA hC h0 h1 h2 h3
  go_enter Try.func24, Try.ntmps24
  go_wp2_with fail
  refine wp_draw 18 (fun w1 => WtS w rr (M) #[.int .u32 x0, .int .u32 x1, .int .u32 x2, .int .u32 x3] w1 ∧ True) (fun _ _ => False) (by kernel_rfl) (by kernel_rfl) ⟨HW.out.step (Upd.refl [] _).drew, trivial⟩ (fun _ _ _ h => h.elim) ?_
  simp only [List.take_succ_cons, List.take_zero, List.drop_succ_cons, List.drop_zero]
  repeat
    apply headW_val rfl rfl
    · intro K hK w1 hB1
      have cx := cells_of hB1.1.x
      have HB := Lib.hid hB1
      clear hB1
      go_wp2_with fail
      first
      | exact hK _ HB.out
      | exact HB.out
    · exact ⟨_, rfl⟩
  clear HW
  refine headW_nil (fun _ w8 hB1 => ?_)
  have HW := Lib.hid hB1.1
  have cx := cells_of hB1.1.x
  have cz := cells_of hB1.1.z
  have fz := free_of hB1.1.z
  clear hB1
  have hix := two_ix0 1 2
  go_wp2_with (go_at_call 65; refine (Lacks_ref M rr 8 x0 1 _ HW.out.f H0.out.1 H0.out.2 (by decide) (by decide) (by decide)).mono ?_; rintro e w9 ⟨rfl, hu⟩; rw [HK.out]; unfold Flt.val; have HW9 := Lib.hid (HW.out.step hu); clear hu cx cz fz)
  have HD := Lib.hid (heap_alloc_new w9 (.cells #[.int .i64 (M.canF x0 8 1).k, .int .u32 (M.canF x0 8 1).pc, .int .u32 (M.canF x0 8 1).a, .int .i64 (M.canF x0 8 1).wt] 49))
  have HW0 := HW9
  clear HW HW9
  have HW := Lib.hid (HW0.out.step ((Upd.refl [] _).alloc (.cells #[.int .i64 (M.canF x0 8 1).k, .int .u32 (M.canF x0 8 1).pc, .int .u32 (M.canF x0 8 1).a, .int .i64 (M.canF x0 8 1).wt] 49)))
  clear HW0
  refine wp_draw 7 (fun w1 => WtS w rr (M) #[.int .u32 x0, .int .u32 x1, .int .u32 x2, .int .u32 x3] w1 ∧ w1.heap[w9.heap.size]? = some (.cells #[.int .i64 (M.canF x0 8 1).k, .int .u32 (M.canF x0 8 1).pc, .int .u32 (M.canF x0 8 1).a, .int .i64 (M.canF x0 8 1).wt] 49 (0, 0))) (fun _ _ => False) (by kernel_rfl) (by kernel_rfl) ⟨HW.out.step (Upd.refl [] _).drew, HD.out⟩ (fun _ _ _ h => h.elim) ?_
  simp only [List.take_succ_cons, List.take_zero, List.drop_succ_cons, List.drop_zero]
  repeat
    apply headW_val rfl rfl
    · intro K hK w1 hB1
      have cx := cells_of hB1.1.x
      have cd := cells_of hB1.2
      have HB := Lib.hid hB1
      clear hB1
      go_wp2_with fail
      first
      | exact hK _ HB.out
      | exact HB.out
    · exact ⟨_, rfl⟩
  clear HW
  refine headW_nil (fun _ w8 hB1 => ?_)
  have HW := Lib.hid hB1.1
  have cx := cells_of hB1.1.x
  have cz := cells_of hB1.1.z
  have fz := free_of hB1.1.z
  clear hB1
  go_wp2_with fail
  have hE := HW.out.fin (M.canF x0 8 1) HW.out
  refine bodyPost_ret (v := .tuple #[.int .u32 (x0), .int .u32 (x1), (M.canF x0 8 1).val, .bool false]) (results_four' rfl (res_tmp 6 rfl) (res_tmp 7 rfl) (res_flt 8 (w.heap.size + 1) (M.canF x0 8 1) rfl hE.1) (res_tmp 9 rfl)) rfl ⟨rfl, hE.2.1, hE.2.2⟩

set_option maxRecDepth 100000 in
set_option maxHeartbeats 4000000 in
theorem want8_false (M : Mem) (rr : Nat) (x0 x1 x2 x3 : Int) (w : World) (hM : IsRef w rr M) (h0 : 0 ≤ x0 ∧ x0 < 4294967296) (h1 : 0 ≤ x1 ∧ x1 < 4294967296) (h2 : 0 ≤ x2 ∧ x2 < 4294967296) (h3 : 0 ≤ x3 ∧ x3 < 4294967296) (hk : M.canK x0 8 2 = false) :
    Calls Try.prog 24 #[.pointer (some ⟨rr, 0, none⟩), .agg #[.int .u32 x0, .int .u32 x1, .int .u32 x2, .int .u32 x3], .int .u32 8] w fun e w' => e = .returned (.tuple #[.int .u32 (x0), .int .u32 (x1), (M.canF x0 8 2).val, .bool false]) ∧ IsRef w' rr (M) ∧ Upd [rr] w w' := by
  have hmo : Try.prog.follows .mixedOrders = true := by kernel_rfl
  have j1 := or_join x0 x1 h0 h1
  have j2 := or_join x2 x3 h2 h3
  obtain ⟨A, hA⟩ : ∃ A, x1 * 4294967296 + x0 = A := ⟨_, rfl⟩
  obtain ⟨C, hC⟩ : ∃ C, x3 * 4294967296 + x2 = C := ⟨_, rfl⟩
  rw [hA] at j1
  rw [hC] at j2
  have v0 := u64_id x0 (by omega) (by omega)
  have v1 := u64_id x1 (by omega) (by omega)
  have v2 := u64_id x2 (by omega) (by omega)
  have v3 := u64_id x3 (by omega) (by omega)
  have q1 : x1 * 4294967296 % 18446744073709551616 = x1 * 4294967296 := by omega
  have q2 : x3 * 4294967296 % 18446744073709551616 = x3 * 4294967296 := by omega
  have HA := Lib.hid (And.intro hA hC)
  have H0 := Lib.hid h0
  have H1 := Lib.hid h1
  have H2 := Lib.hid h2
  have H3 := Lib.hid h3
  have HW := Lib.hid (WtS.start hM #[.int .u32 x0, .int .u32 x1, .int .u32 x2, .int .u32 x3])
  have HK := Lib.hid hk
  clear hk
  clear hM hA hC h0 h1 h2 h3
  go_enter Try.func24, Try.ntmps24
  go_wp2_with fail
  refine wp_draw 18 (fun w1 => WtS w rr (M) #[.int .u32 x0, .int .u32 x1, .int .u32 x2, .int .u32 x3] w1 ∧ True) (fun _ _ => False) (by kernel_rfl) (by kernel_rfl) ⟨HW.out.step (Upd.refl [] _).drew, trivial⟩ (fun _ _ _ h => h.elim) ?_
  simp only [List.take_succ_cons, List.take_zero, List.drop_succ_cons, List.drop_zero]
  repeat
    apply headW_val rfl rfl
    · intro K hK w1 hB1
      have cx := cells_of hB1.1.x
      have HB := Lib.hid hB1
      clear hB1
      go_wp2_with fail
      first
      | exact hK _ HB.out
      | exact HB.out
    · exact ⟨_, rfl⟩
  clear HW
  refine headW_nil (fun _ w8 hB1 => ?_)
  have HW := Lib.hid hB1.1
  have cx := cells_of hB1.1.x
  have cz := cells_of hB1.1.z
  have fz := free_of hB1.1.z
  clear hB1
  have hix := two_ix1 1 2
  go_wp2_with (go_at_call 65; refine (Lacks_ref M rr 8 x0 2 _ HW.out.f H0.out.1 H0.out.2 (by decide) (by decide) (by decide)).mono ?_; rintro e w9 ⟨rfl, hu⟩; rw [HK.out]; unfold Flt.val; have HW9 := Lib.hid (HW.out.step hu); clear hu cx cz fz)
  have HD := Lib.hid (heap_alloc_new w9 (.cells #[.int .i64 (M.canF x0 8 2).k, .int .u32 (M.canF x0 8 2).pc, .int .u32 (M.canF x0 8 2).a, .int .i64 (M.canF x0 8 2).wt] 49))
  have HW0 := HW9
  clear HW HW9
  have HW := Lib.hid (HW0.out.step ((Upd.refl [] _).alloc (.cells #[.int .i64 (M.canF x0 8 2).k, .int .u32 (M.canF x0 8 2).pc, .int .u32 (M.canF x0 8 2).a, .int .i64 (M.canF x0 8 2).wt] 49)))
  clear HW0
  refine wp_draw 7 (fun w1 => WtS w rr (M) #[.int .u32 x0, .int .u32 x1, .int .u32 x2, .int .u32 x3] w1 ∧ w1.heap[w9.heap.size]? = some (.cells #[.int .i64 (M.canF x0 8 2).k, .int .u32 (M.canF x0 8 2).pc, .int .u32 (M.canF x0 8 2).a, .int .i64 (M.canF x0 8 2).wt] 49 (0, 0))) (fun _ _ => False) (by kernel_rfl) (by kernel_rfl) ⟨HW.out.step (Upd.refl [] _).drew, HD.out⟩ (fun _ _ _ h => h.elim) ?_
  simp only [List.take_succ_cons, List.take_zero, List.drop_succ_cons, List.drop_zero]
  repeat
    apply headW_val rfl rfl
    · intro K hK w1 hB1
      have cx := cells_of hB1.1.x
      have cd := cells_of hB1.2
      have HB := Lib.hid hB1
      clear hB1
      go_wp2_with fail
      first
      | exact hK _ HB.out
      | exact HB.out
    · exact ⟨_, rfl⟩
  clear HW
  refine headW_nil (fun _ w8 hB1 => ?_)
  have HW := Lib.hid hB1.1
  have cx := cells_of hB1.1.x
  have cz := cells_of hB1.1.z
  have fz := free_of hB1.1.z
  clear hB1
  go_wp2_with fail
  have hE := HW.out.fin (M.canF x0 8 2) HW.out
  refine bodyPost_ret (v := .tuple #[.int .u32 (x0), .int .u32 (x1), (M.canF x0 8 2).val, .bool false]) (results_four' rfl (res_tmp 6 rfl) (res_tmp 7 rfl) (res_flt 8 (w.heap.size + 1) (M.canF x0 8 2) rfl hE.1) (res_tmp 9 rfl)) rfl ⟨rfl, hE.2.1, hE.2.2⟩

set_option maxRecDepth 100000 in
set_option maxHeartbeats 4000000 in
theorem want7_true (M : Mem) (rr : Nat) (x0 x1 x2 x3 : Int) (w : World) (hM : IsRef w rr M) (h0 : 0 ≤ x0 ∧ x0 < 4294967296) (h1 : 0 ≤ x1 ∧ x1 < 4294967296) (h2 : 0 ≤ x2 ∧ x2 < 4294967296) (h3 : 0 ≤ x3 ∧ x3 < 4294967296) (hk : M.canK x0 8 1 = true) :
    Calls Try.prog 24 #[.pointer (some ⟨rr, 0, none⟩), .agg #[.int .u32 x0, .int .u32 x1, .int .u32 x2, .int .u32 x3], .int .u32 7] w fun e w' => e = .returned (.tuple #[.int .u32 (M.get x0 8 % 4294967296), .int .u32 (M.get x0 8 / 4294967296), (Flt.zero).val, .bool true]) ∧ IsRef w' rr (M) ∧ Upd [rr] w w' := by
  have hmo : Try.prog.follows .mixedOrders = true := by kernel_rfl
  have j1 := or_join x0 x1 h0 h1
  have j2 := or_join x2 x3 h2 h3
  obtain ⟨A, hA⟩ : ∃ A, x1 * 4294967296 + x0 = A := ⟨_, rfl⟩
  obtain ⟨C, hC⟩ : ∃ C, x3 * 4294967296 + x2 = C := ⟨_, rfl⟩
  rw [hA] at j1
  rw [hC] at j2
  have v0 := u64_id x0 (by omega) (by omega)
  have v1 := u64_id x1 (by omega) (by omega)
  have v2 := u64_id x2 (by omega) (by omega)
  have v3 := u64_id x3 (by omega) (by omega)
  have q1 : x1 * 4294967296 % 18446744073709551616 = x1 * 4294967296 := by omega
  have q2 : x3 * 4294967296 % 18446744073709551616 = x3 * 4294967296 := by omega
  have HA := Lib.hid (And.intro hA hC)
  have H0 := Lib.hid h0
  have H1 := Lib.hid h1
  have H2 := Lib.hid h2
  have H3 := Lib.hid h3
  have HW := Lib.hid (WtS.start hM #[.int .u32 x0, .int .u32 x1, .int .u32 x2, .int .u32 x3])
  have HK := Lib.hid hk
  have HZ := Lib.hid (show M.canF x0 8 1 = Flt.zero by
    rw [Mem.canK] at hk
    rw [Mem.canF, Option.isNone_iff_eq_none.1 hk])
  have HX := Lib.hid (show ∀ t, t < 8 → plus x0 t < 16384 from fun t ht => by
    have := can8_lt hM.ok x0 1 (by simp) h0.1 h0.2 hk
    unfold plus; omega)
  obtain ⟨V, hV⟩ : ∃ V, M.get x0 8 = V := ⟨_, rfl⟩
  have hVb := get_bound hM.ok x0 8
  rw [hV] at hVb
  have hV0 : 0 ≤ V := hVb.1
  have hV1 : V / 4294967296 % 4294967296 = V / 4294967296 := by
    have h2 := hVb.2
    have : (2 : Int) ^ (8 * 8) = 18446744073709551616 := by decide
    rw [this] at h2
    omega
  have HG := Lib.hid hV
  clear hk hV hVb
  clear hM hA hC h0 h1 h2 h3
  go_enter Try.func24, Try.ntmps24
  go_wp2_with fail
  refine wp_draw 18 (fun w1 => WtS w rr (M) #[.int .u32 x0, .int .u32 x1, .int .u32 x2, .int .u32 x3] w1 ∧ True) (fun _ _ => False) (by kernel_rfl) (by kernel_rfl) ⟨HW.out.step (Upd.refl [] _).drew, trivial⟩ (fun _ _ _ h => h.elim) ?_
  simp only [List.take_succ_cons, List.take_zero, List.drop_succ_cons, List.drop_zero]
  repeat
    apply headW_val rfl rfl
    · intro K hK w1 hB1
      have cx := cells_of hB1.1.x
      have HB := Lib.hid hB1
      clear hB1
      go_wp2_with fail
      first
      | exact hK _ HB.out
      | exact HB.out
    · exact ⟨_, rfl⟩
  clear HW
  refine headW_nil (fun _ w8 hB1 => ?_)
  have HW := Lib.hid hB1.1
  have cx := cells_of hB1.1.x
  have cz := cells_of hB1.1.z
  have fz := free_of hB1.1.z
  clear hB1
  have hix := two_ix0 1 2
  go_wp2_with (first | (go_at_call 65; refine (Lacks_ref M rr 8 x0 1 _ HW.out.f H0.out.1 H0.out.2 (by decide) (by decide) (by decide)).mono ?_; rintro e w9 ⟨rfl, hu⟩; rw [HK.out, HZ.out]; unfold Flt.val Flt.zero; have HW9 := Lib.hid (HW.out.step hu); clear hu cx cz fz; have cx := fun (O : Obj) (o : Nat) => cells_of (heap_alloc_keep O HW9.out.x) o) | (have _t := HW9; clear _t; go_at_call 67; refine (Get_ref M rr 8 x0 _ (HW9.out.f.keep ((Upd.refl [] _).alloc _) (by simp)) H0.out.1 H0.out.2 (by decide) HX.out).mono ?_; rintro e w10 ⟨rfl, rfl⟩; rw [HG.out]))
  have HD := Lib.hid (heap_alloc_new w9 (.cells #[.int .i64 0, .int .u32 0, .int .u32 0, .int .i64 0] 49))
  have HW0 := HW9
  clear HW HW9
  have HW := Lib.hid (HW0.out.step ((Upd.refl [] _).alloc (.cells #[.int .i64 0, .int .u32 0, .int .u32 0, .int .i64 0] 49)))
  clear HW0
  refine wp_draw 8 (fun w1 => WtS w rr (M) #[.int .u32 x0, .int .u32 x1, .int .u32 x2, .int .u32 x3] w1 ∧ w1.heap[w9.heap.size]? = some (.cells #[.int .i64 0, .int .u32 0, .int .u32 0, .int .i64 0] 49 (0, 0))) (fun _ _ => False) (by kernel_rfl) (by kernel_rfl) ⟨HW.out.step (Upd.refl [] _).drew, HD.out⟩ (fun _ _ _ h => h.elim) ?_
  simp only [List.take_succ_cons, List.take_zero, List.drop_succ_cons, List.drop_zero]
  repeat
    apply headW_val rfl rfl
    · intro K hK w1 hB1
      have cx := cells_of hB1.1.x
      have cd := cells_of hB1.2
      have HB := Lib.hid hB1
      clear hB1
      go_wp2_with fail
      first
      | exact hK _ HB.out
      | exact HB.out
    · exact ⟨_, rfl⟩
  clear HW
  refine headW_nil (fun _ w8 hB1 => ?_)
  have HW := Lib.hid hB1.1
  have cx := cells_of hB1.1.x
  have cz := cells_of hB1.1.z
  have fz := free_of hB1.1.z
  clear hB1
  go_wp2_with fail
  have hE := HW.out.fin (Flt.zero) HW.out
  refine bodyPost_ret (v := .tuple #[.int .u32 (V % 4294967296), .int .u32 (V / 4294967296), (Flt.zero).val, .bool true]) (results_four' rfl (res_tmp 6 rfl) (res_tmp 7 rfl) (res_flt 8 (w.heap.size + 1) (Flt.zero) rfl hE.1) (res_tmp 9 rfl)) rfl ⟨by rw [HG.out], hE.2.1, hE.2.2⟩

set_option maxRecDepth 100000 in
set_option maxHeartbeats 4000000 in
theorem want8_true (M : Mem) (rr : Nat) (x0 x1 x2 x3 : Int) (w : World) (hM : IsRef w rr M) (h0 : 0 ≤ x0 ∧ x0 < 4294967296) (h1 : 0 ≤ x1 ∧ x1 < 4294967296) (h2 : 0 ≤ x2 ∧ x2 < 4294967296) (h3 : 0 ≤ x3 ∧ x3 < 4294967296) (hk : M.canK x0 8 2 = true) :
    Calls Try.prog 24 #[.pointer (some ⟨rr, 0, none⟩), .agg #[.int .u32 x0, .int .u32 x1, .int .u32 x2, .int .u32 x3], .int .u32 8] w fun e w' => e = .returned (.tuple #[.int .u32 (x0), .int .u32 (x1), (Flt.zero).val, .bool true]) ∧ IsRef w' rr (M.putN x0 (x2 * 4294967296 + x1) 8) ∧ Upd [rr] w w' := by
  have hmo : Try.prog.follows .mixedOrders = true := by kernel_rfl
  have j1 := or_join x0 x1 h0 h1
  have j2 := or_join x2 x3 h2 h3
  obtain ⟨A, hA⟩ : ∃ A, x1 * 4294967296 + x0 = A := ⟨_, rfl⟩
  obtain ⟨C, hC⟩ : ∃ C, x3 * 4294967296 + x2 = C := ⟨_, rfl⟩
  rw [hA] at j1
  rw [hC] at j2
  have v0 := u64_id x0 (by omega) (by omega)
  have v1 := u64_id x1 (by omega) (by omega)
  have v2 := u64_id x2 (by omega) (by omega)
  have v3 := u64_id x3 (by omega) (by omega)
  have q1 : x1 * 4294967296 % 18446744073709551616 = x1 * 4294967296 := by omega
  have q2 : x3 * 4294967296 % 18446744073709551616 = x3 * 4294967296 := by omega
  have HA := Lib.hid (And.intro hA hC)
  have H0 := Lib.hid h0
  have H1 := Lib.hid h1
  have H2 := Lib.hid h2
  have H3 := Lib.hid h3
  have HW := Lib.hid (WtS.start hM #[.int .u32 x0, .int .u32 x1, .int .u32 x2, .int .u32 x3])
  have HK := Lib.hid hk
  have HZ := Lib.hid (show M.canF x0 8 2 = Flt.zero by
    rw [Mem.canK] at hk
    rw [Mem.canF, Option.isNone_iff_eq_none.1 hk])
  have HX := Lib.hid (show ∀ t, t < 8 → plus x0 t < 16384 from fun t ht => by
    have := can8_lt hM.ok x0 2 (by simp) h0.1 h0.2 hk
    unfold plus; omega)
  obtain ⟨D, hD⟩ : ∃ D, x2 * 4294967296 + x1 = D := ⟨_, rfl⟩
  have j3 := or_join x1 x2 h1 h2
  rw [hD] at j3
  have q3 : x2 * 4294967296 % 18446744073709551616 = x2 * 4294967296 := by omega
  have HDb := Lib.hid (show 0 ≤ D ∧ D < 18446744073709551616 by omega)
  have HDe := Lib.hid hD
  clear hk hD
  clear hM hA hC h0 h1 h2 h3
  go_enter Try.func24, Try.ntmps24
  go_wp2_with fail
  refine wp_draw 18 (fun w1 => WtS w rr (M) #[.int .u32 x0, .int .u32 x1, .int .u32 x2, .int .u32 x3] w1 ∧ True) (fun _ _ => False) (by kernel_rfl) (by kernel_rfl) ⟨HW.out.step (Upd.refl [] _).drew, trivial⟩ (fun _ _ _ h => h.elim) ?_
  simp only [List.take_succ_cons, List.take_zero, List.drop_succ_cons, List.drop_zero]
  repeat
    apply headW_val rfl rfl
    · intro K hK w1 hB1
      have cx := cells_of hB1.1.x
      have HB := Lib.hid hB1
      clear hB1
      go_wp2_with fail
      first
      | exact hK _ HB.out
      | exact HB.out
    · exact ⟨_, rfl⟩
  clear HW
  refine headW_nil (fun _ w8 hB1 => ?_)
  have HW := Lib.hid hB1.1
  have cx := cells_of hB1.1.x
  have cz := cells_of hB1.1.z
  have fz := free_of hB1.1.z
  clear hB1
  have hix := two_ix1 1 2
  go_wp2_with (first | (go_at_call 65; refine (Lacks_ref M rr 8 x0 2 _ HW.out.f H0.out.1 H0.out.2 (by decide) (by decide) (by decide)).mono ?_; rintro e w9 ⟨rfl, hu⟩; rw [HK.out, HZ.out]; unfold Flt.val Flt.zero; have HW9 := Lib.hid (HW.out.step hu); clear hu cx cz fz; have cx := fun (O : Obj) (o : Nat) => cells_of (heap_alloc_keep O HW9.out.x) o) | (have _t := HW9; clear _t; go_at_call 66; refine (Put_ref M rr 8 x0 D _ (HW9.out.f.keep ((Upd.refl [] _).alloc _) (by simp)) H0.out.1 H0.out.2 (by decide) HX.out HDb.out.1 HDb.out.2).mono ?_; rintro e w10 ⟨rfl, hm, hu⟩; have HD := Lib.hid (hu.get (heap_alloc_new w9 (.cells #[.int .i64 0, .int .u32 0, .int .u32 0, .int .i64 0] 49)) (by have := HW9.out.f.lt; simp; omega)); have HW10 := Lib.hid ((HW9.out.step ((Upd.refl [] _).alloc (.cells #[.int .i64 0, .int .u32 0, .int .u32 0, .int .i64 0] 49))).ref hu hm); clear hm hu))
  clear HW
  have HW := HW10
  refine wp_draw 7 (fun w1 => WtS w rr (M.putN x0 D 8) #[.int .u32 x0, .int .u32 x1, .int .u32 x2, .int .u32 x3] w1 ∧ w1.heap[w9.heap.size]? = some (.cells #[.int .i64 0, .int .u32 0, .int .u32 0, .int .i64 0] 49 (0, 0))) (fun _ _ => False) (by kernel_rfl) (by kernel_rfl) ⟨HW.out.step (Upd.refl [] _).drew, HD.out⟩ (fun _ _ _ h => h.elim) ?_
  simp only [List.take_succ_cons, List.take_zero, List.drop_succ_cons, List.drop_zero]
  repeat
    apply headW_val rfl rfl
    · intro K hK w1 hB1
      have cx := cells_of hB1.1.x
      have cd := cells_of hB1.2
      have HB := Lib.hid hB1
      clear hB1
      go_wp2_with fail
      first
      | exact hK _ HB.out
      | exact HB.out
    · exact ⟨_, rfl⟩
  clear HW
  refine headW_nil (fun _ w8 hB1 => ?_)
  have HW := Lib.hid hB1.1
  have cx := cells_of hB1.1.x
  have cz := cells_of hB1.1.z
  have fz := free_of hB1.1.z
  clear hB1
  go_wp2_with fail
  have hE := HW.out.fin (Flt.zero) HW.out
  refine bodyPost_ret (v := .tuple #[.int .u32 (x0), .int .u32 (x1), (Flt.zero).val, .bool true]) (results_four' rfl (res_tmp 6 rfl) (res_tmp 7 rfl) (res_flt 8 (w.heap.size + 1) (Flt.zero) rfl hE.1) (res_tmp 9 rfl)) rfl ⟨rfl, by rw [HDe.out]; exact hE.2.1, hE.2.2⟩

end Go.Proofs.Ytoplekfnghkkdaa


namespace Go.Proofs.Ytoplekfnghkkdaa
open Go Go.RowKit
set_option linter.unusedVariables false
set_option linter.unusedSimpArgs false

set_option maxRecDepth 100000 in
set_option maxHeartbeats 4000000 in
theorem want9 (M : Mem) (rr : Nat) (x0 x1 x2 x3 : Int) (w : World) (hM : IsRef w rr M) (h0 : 0 ≤ x0 ∧ x0 < 4294967296) (h1 : 0 ≤ x1 ∧ x1 < 4294967296) (h2 : 0 ≤ x2 ∧ x2 < 4294967296) (h3 : 0 ≤ x3 ∧ x3 < 4294967296)  :
    Calls Try.prog 24 #[.pointer (some ⟨rr, 0, none⟩), .agg #[.int .u32 x0, .int .u32 x1, .int .u32 x2, .int .u32 x3], .int .u32 9] w fun e w' => e = .returned (.tuple #[.int .u32 (flDo .add (x1 * 4294967296 + x0).toNat (x3 * 4294967296 + x2).toNat % 4294967296), .int .u32 (flDo .add (x1 * 4294967296 + x0).toNat (x3 * 4294967296 + x2).toNat / 4294967296), (Flt.zero).val, .bool true]) ∧ IsRef w' rr (M) ∧ Upd [rr] w w' := by
  have hmo : Try.prog.follows .mixedOrders = true := by kernel_rfl
  have j1 := or_join x0 x1 h0 h1
  have j2 := or_join x2 x3 h2 h3
  obtain ⟨A, hA⟩ : ∃ A, x1 * 4294967296 + x0 = A := ⟨_, rfl⟩
  obtain ⟨C, hC⟩ : ∃ C, x3 * 4294967296 + x2 = C := ⟨_, rfl⟩
  rw [hA] at j1
  rw [hC] at j2
  have v0 := u64_id x0 (by omega) (by omega)
  have v1 := u64_id x1 (by omega) (by omega)
  have v2 := u64_id x2 (by omega) (by omega)
  have v3 := u64_id x3 (by omega) (by omega)
  have q1 : x1 * 4294967296 % 18446744073709551616 = x1 * 4294967296 := by omega
  have q2 : x3 * 4294967296 % 18446744073709551616 = x3 * 4294967296 := by omega
  have HA := Lib.hid (And.intro hA hC)
  have H0 := Lib.hid h0
  have H1 := Lib.hid h1
  have H2 := Lib.hid h2
  have H3 := Lib.hid h3
  have HW := Lib.hid (WtS.start hM #[.int .u32 x0, .int .u32 x1, .int .u32 x2, .int .u32 x3])
  obtain ⟨V, hV⟩ : ∃ V, flDo .add A.toNat C.toNat = V := ⟨_, rfl⟩
  have hVb := flDo_range .add A.toNat C.toNat
  rw [hV] at hVb
  have hV0 : 0 ≤ V := hVb.1
  have hV1 : V / 4294967296 % 4294967296 = V / 4294967296 := by omega
  have HV := Lib.hid hV
  clear hV hVb
  clear hM hA hC h0 h1 h2 h3
  go_enter Try.func24, Try.ntmps24
  go_wp2_with fail
  refine wp_draw 18 (fun w1 => WtS w rr (M) #[.int .u32 x0, .int .u32 x1, .int .u32 x2, .int .u32 x3] w1 ∧ True) (fun _ _ => False) (by kernel_rfl) (by kernel_rfl) ⟨HW.out.step (Upd.refl [] _).drew, trivial⟩ (fun _ _ _ h => h.elim) ?_
  simp only [List.take_succ_cons, List.take_zero, List.drop_succ_cons, List.drop_zero]
  repeat
    apply headW_val rfl rfl
    · intro K hK w1 hB1
      have cx := cells_of hB1.1.x
      have HB := Lib.hid hB1
      clear hB1
      go_wp2_with fail
      first
      | exact hK _ HB.out
      | exact HB.out
    · exact ⟨_, rfl⟩
  clear HW
  refine headW_nil (fun _ w8 hB1 => ?_)
  have HW := Lib.hid hB1.1
  have cx := cells_of hB1.1.x
  have cz := cells_of hB1.1.z
  have fz := free_of hB1.1.z
  clear hB1
  go_wp2_with (go_at_call 68; refine (rf_Do0 A C _).mono ?_; rintro e w9 ⟨rfl, hu⟩; rw [HV.out]; have HW9 := Lib.hid (HW.out.step hu); clear hu cx cz fz; have cz := cells_of HW9.out.z; have fz := free_of HW9.out.z)
  clear HW
  have HW := HW9
  have hE := HW.out.fin (Flt.zero) HW.out
  refine bodyPost_ret (v := .tuple #[.int .u32 (V % 4294967296), .int .u32 (V / 4294967296), (Flt.zero).val, .bool true]) (results_four' rfl (res_tmp 6 rfl) (res_tmp 7 rfl) (res_flt 8 (w.heap.size + 1) (Flt.zero) rfl hE.1) (res_tmp 9 rfl)) rfl ⟨by rw [HA.out.1, HA.out.2, HV.out], hE.2.1, hE.2.2⟩

set_option maxRecDepth 100000 in
set_option maxHeartbeats 4000000 in
theorem want10 (M : Mem) (rr : Nat) (x0 x1 x2 x3 : Int) (w : World) (hM : IsRef w rr M) (h0 : 0 ≤ x0 ∧ x0 < 4294967296) (h1 : 0 ≤ x1 ∧ x1 < 4294967296) (h2 : 0 ≤ x2 ∧ x2 < 4294967296) (h3 : 0 ≤ x3 ∧ x3 < 4294967296)  :
    Calls Try.prog 24 #[.pointer (some ⟨rr, 0, none⟩), .agg #[.int .u32 x0, .int .u32 x1, .int .u32 x2, .int .u32 x3], .int .u32 10] w fun e w' => e = .returned (.tuple #[.int .u32 (flDo .sub (x1 * 4294967296 + x0).toNat (x3 * 4294967296 + x2).toNat % 4294967296), .int .u32 (flDo .sub (x1 * 4294967296 + x0).toNat (x3 * 4294967296 + x2).toNat / 4294967296), (Flt.zero).val, .bool true]) ∧ IsRef w' rr (M) ∧ Upd [rr] w w' := by
  have hmo : Try.prog.follows .mixedOrders = true := by kernel_rfl
  have j1 := or_join x0 x1 h0 h1
  have j2 := or_join x2 x3 h2 h3
  obtain ⟨A, hA⟩ : ∃ A, x1 * 4294967296 + x0 = A := ⟨_, rfl⟩
  obtain ⟨C, hC⟩ : ∃ C, x3 * 4294967296 + x2 = C := ⟨_, rfl⟩
  rw [hA] at j1
  rw [hC] at j2
  have v0 := u64_id x0 (by omega) (by omega)
  have v1 := u64_id x1 (by omega) (by omega)
  have v2 := u64_id x2 (by omega) (by omega)
  have v3 := u64_id x3 (by omega) (by omega)
  have q1 : x1 * 4294967296 % 18446744073709551616 = x1 * 4294967296 := by omega
  have q2 : x3 * 4294967296 % 18446744073709551616 = x3 * 4294967296 := by omega
  have HA := Lib.hid (And.intro hA hC)
  have H0 := Lib.hid h0
  have H1 := Lib.hid h1
  have H2 := Lib.hid h2
  have H3 := Lib.hid h3
  have HW := Lib.hid (WtS.start hM #[.int .u32 x0, .int .u32 x1, .int .u32 x2, .int .u32 x3])
  obtain ⟨V, hV⟩ : ∃ V, flDo .sub A.toNat C.toNat = V := ⟨_, rfl⟩
  have hVb := flDo_range .sub A.toNat C.toNat
  rw [hV] at hVb
  have hV0 : 0 ≤ V := hVb.1
  have hV1 : V / 4294967296 % 4294967296 = V / 4294967296 := by omega
  have HV := Lib.hid hV
  clear hV hVb
  clear hM hA hC h0 h1 h2 h3
  go_enter Try.func24, Try.ntmps24
  go_wp2_with fail
  refine wp_draw 18 (fun w1 => WtS w rr (M) #[.int .u32 x0, .int .u32 x1, .int .u32 x2, .int .u32 x3] w1 ∧ True) (fun _ _ => False) (by kernel_rfl) (by kernel_rfl) ⟨HW.out.step (Upd.refl [] _).drew, trivial⟩ (fun _ _ _ h => h.elim) ?_
  simp only [List.take_succ_cons, List.take_zero, List.drop_succ_cons, List.drop_zero]
  repeat
    apply headW_val rfl rfl
    · intro K hK w1 hB1
      have cx := cells_of hB1.1.x
      have HB := Lib.hid hB1
      clear hB1
      go_wp2_with fail
      first
      | exact hK _ HB.out
      | exact HB.out
    · exact ⟨_, rfl⟩
  clear HW
  refine headW_nil (fun _ w8 hB1 => ?_)
  have HW := Lib.hid hB1.1
  have cx := cells_of hB1.1.x
  have cz := cells_of hB1.1.z
  have fz := free_of hB1.1.z
  clear hB1
  go_wp2_with (go_at_call 68; refine (rf_Do1 A C _).mono ?_; rintro e w9 ⟨rfl, hu⟩; rw [HV.out]; have HW9 := Lib.hid (HW.out.step hu); clear hu cx cz fz; have cz := cells_of HW9.out.z; have fz := free_of HW9.out.z)
  clear HW
  have HW := HW9
  have hE := HW.out.fin (Flt.zero) HW.out
  refine bodyPost_ret (v := .tuple #[.int .u32 (V % 4294967296), .int .u32 (V / 4294967296), (Flt.zero).val, .bool true]) (results_four' rfl (res_tmp 6 rfl) (res_tmp 7 rfl) (res_flt 8 (w.heap.size + 1) (Flt.zero) rfl hE.1) (res_tmp 9 rfl)) rfl ⟨by rw [HA.out.1, HA.out.2, HV.out], hE.2.1, hE.2.2⟩

set_option maxRecDepth 100000 in
set_option maxHeartbeats 4000000 in
theorem want11 (M : Mem) (rr : Nat) (x0 x1 x2 x3 : Int) (w : World) (hM : IsRef w rr M) (h0 : 0 ≤ x0 ∧ x0 < 4294967296) (h1 : 0 ≤ x1 ∧ x1 < 4294967296) (h2 : 0 ≤ x2 ∧ x2 < 4294967296) (h3 : 0 ≤ x3 ∧ x3 < 4294967296)  :
    Calls Try.prog 24 #[.pointer (some ⟨rr, 0, none⟩), .agg #[.int .u32 x0, .int .u32 x1, .int .u32 x2, .int .u32 x3], .int .u32 11] w fun e w' => e = .returned (.tuple #[.int .u32 (flDo .mul (x1 * 4294967296 + x0).toNat (x3 * 4294967296 + x2).toNat % 4294967296), .int .u32 (flDo .mul (x1 * 4294967296 + x0).toNat (x3 * 4294967296 + x2).toNat / 4294967296), (Flt.zero).val, .bool true]) ∧ IsRef w' rr (M) ∧ Upd [rr] w w' := by
  have hmo : Try.prog.follows .mixedOrders = true := by kernel_rfl
  have j1 := or_join x0 x1 h0 h1
  have j2 := or_join x2 x3 h2 h3
  obtain ⟨A, hA⟩ : ∃ A, x1 * 4294967296 + x0 = A := ⟨_, rfl⟩
  obtain ⟨C, hC⟩ : ∃ C, x3 * 4294967296 + x2 = C := ⟨_, rfl⟩
  rw [hA] at j1
  rw [hC] at j2
  have v0 := u64_id x0 (by omega) (by omega)
  have v1 := u64_id x1 (by omega) (by omega)
  have v2 := u64_id x2 (by omega) (by omega)
  have v3 := u64_id x3 (by omega) (by omega)
  have q1 : x1 * 4294967296 % 18446744073709551616 = x1 * 4294967296 := by omega
  have q2 : x3 * 4294967296 % 18446744073709551616 = x3 * 4294967296 := by omega
  have HA := Lib.hid (And.intro hA hC)
  have H0 := Lib.hid h0
  have H1 := Lib.hid h1
  have H2 := Lib.hid h2
  have H3 := Lib.hid h3
  have HW := Lib.hid (WtS.start hM #[.int .u32 x0, .int .u32 x1, .int .u32 x2, .int .u32 x3])
  obtain ⟨V, hV⟩ : ∃ V, flDo .mul A.toNat C.toNat = V := ⟨_, rfl⟩
  have hVb := flDo_range .mul A.toNat C.toNat
  rw [hV] at hVb
  have hV0 : 0 ≤ V := hVb.1
  have hV1 : V / 4294967296 % 4294967296 = V / 4294967296 := by omega
  have HV := Lib.hid hV
  clear hV hVb
  clear hM hA hC h0 h1 h2 h3
  go_enter Try.func24, Try.ntmps24
  go_wp2_with fail
  refine wp_draw 18 (fun w1 => WtS w rr (M) #[.int .u32 x0, .int .u32 x1, .int .u32 x2, .int .u32 x3] w1 ∧ True) (fun _ _ => False) (by kernel_rfl) (by kernel_rfl) ⟨HW.out.step (Upd.refl [] _).drew, trivial⟩ (fun _ _ _ h => h.elim) ?_
  simp only [List.take_succ_cons, List.take_zero, List.drop_succ_cons, List.drop_zero]
  repeat
    apply headW_val rfl rfl
    · intro K hK w1 hB1
      have cx := cells_of hB1.1.x
      have HB := Lib.hid hB1
      clear hB1
      go_wp2_with fail
      first
      | exact hK _ HB.out
      | exact HB.out
    · exact ⟨_, rfl⟩
  clear HW
  refine headW_nil (fun _ w8 hB1 => ?_)
  have HW := Lib.hid hB1.1
  have cx := cells_of hB1.1.x
  have cz := cells_of hB1.1.z
  have fz := free_of hB1.1.z
  clear hB1
  go_wp2_with (go_at_call 68; refine (rf_Do2 A C _).mono ?_; rintro e w9 ⟨rfl, hu⟩; rw [HV.out]; have HW9 := Lib.hid (HW.out.step hu); clear hu cx cz fz; have cz := cells_of HW9.out.z; have fz := free_of HW9.out.z)
  clear HW
  have HW := HW9
  have hE := HW.out.fin (Flt.zero) HW.out
  refine bodyPost_ret (v := .tuple #[.int .u32 (V % 4294967296), .int .u32 (V / 4294967296), (Flt.zero).val, .bool true]) (results_four' rfl (res_tmp 6 rfl) (res_tmp 7 rfl) (res_flt 8 (w.heap.size + 1) (Flt.zero) rfl hE.1) (res_tmp 9 rfl)) rfl ⟨by rw [HA.out.1, HA.out.2, HV.out], hE.2.1, hE.2.2⟩

set_option maxRecDepth 100000 in
set_option maxHeartbeats 4000000 in
theorem want12 (M : Mem) (rr : Nat) (x0 x1 x2 x3 : Int) (w : World) (hM : IsRef w rr M) (h0 : 0 ≤ x0 ∧ x0 < 4294967296) (h1 : 0 ≤ x1 ∧ x1 < 4294967296) (h2 : 0 ≤ x2 ∧ x2 < 4294967296) (h3 : 0 ≤ x3 ∧ x3 < 4294967296)  :
    Calls Try.prog 24 #[.pointer (some ⟨rr, 0, none⟩), .agg #[.int .u32 x0, .int .u32 x1, .int .u32 x2, .int .u32 x3], .int .u32 12] w fun e w' => e = .returned (.tuple #[.int .u32 (flDo .quo (x1 * 4294967296 + x0).toNat (x3 * 4294967296 + x2).toNat % 4294967296), .int .u32 (flDo .quo (x1 * 4294967296 + x0).toNat (x3 * 4294967296 + x2).toNat / 4294967296), (Flt.zero).val, .bool true]) ∧ IsRef w' rr (M) ∧ Upd [rr] w w' := by
  have hmo : Try.prog.follows .mixedOrders = true := by kernel_rfl
  have j1 := or_join x0 x1 h0 h1
  have j2 := or_join x2 x3 h2 h3
  obtain ⟨A, hA⟩ : ∃ A, x1 * 4294967296 + x0 = A := ⟨_, rfl⟩
  obtain ⟨C, hC⟩ : ∃ C, x3 * 4294967296 + x2 = C := ⟨_, rfl⟩
  rw [hA] at j1
  rw [hC] at j2
  have v0 := u64_id x0 (by omega) (by omega)
  have v1 := u64_id x1 (by omega) (by omega)
  have v2 := u64_id x2 (by omega) (by omega)
  have v3 := u64_id x3 (by omega) (by omega)
  have q1 : x1 * 4294967296 % 18446744073709551616 = x1 * 4294967296 := by omega
  have q2 : x3 * 4294967296 % 18446744073709551616 = x3 * 4294967296 := by omega
  have HA := Lib.hid (And.intro hA hC)
  have H0 := Lib.hid h0
  have H1 := Lib.hid h1
  have H2 := Lib.hid h2
  have H3 := Lib.hid h3
  have HW := Lib.hid (WtS.start hM #[.int .u32 x0, .int .u32 x1, .int .u32 x2, .int .u32 x3])
  obtain ⟨V, hV⟩ : ∃ V, flDo .quo A.toNat C.toNat = V := ⟨_, rfl⟩
  have hVb := flDo_range .quo A.toNat C.toNat
  rw [hV] at hVb
  have hV0 : 0 ≤ V := hVb.1
  have hV1 : V / 4294967296 % 4294967296 = V / 4294967296 := by omega
  have HV := Lib.hid hV
  clear hV hVb
  clear hM hA hC h0 h1 h2 h3
  go_enter Try.func24, Try.ntmps24
  go_wp2_with fail
  refine wp_draw 18 (fun w1 => WtS w rr (M) #[.int .u32 x0, .int .u32 x1, .int .u32 x2, .int .u32 x3] w1 ∧ True) (fun _ _ => False) (by kernel_rfl) (by kernel_rfl) ⟨HW.out.step (Upd.refl [] _).drew, trivial⟩ (fun _ _ _ h => h.elim) ?_
  simp only [List.take_succ_cons, List.take_zero, List.drop_succ_cons, List.drop_zero]
  repeat
    apply headW_val rfl rfl
    · intro K hK w1 hB1
      have cx := cells_of hB1.1.x
      have HB := Lib.hid hB1
      clear hB1
      go_wp2_with fail
      first
      | exact hK _ HB.out
      | exact HB.out
    · exact ⟨_, rfl⟩
  clear HW
  refine headW_nil (fun _ w8 hB1 => ?_)
  have HW := Lib.hid hB1.1
  have cx := cells_of hB1.1.x
  have cz := cells_of hB1.1.z
  have fz := free_of hB1.1.z
  clear hB1
  go_wp2_with (go_at_call 68; refine (rf_Do3 A C _).mono ?_; rintro e w9 ⟨rfl, hu⟩; rw [HV.out]; have HW9 := Lib.hid (HW.out.step hu); clear hu cx cz fz; have cz := cells_of HW9.out.z; have fz := free_of HW9.out.z)
  clear HW
  have HW := HW9
  have hE := HW.out.fin (Flt.zero) HW.out
  refine bodyPost_ret (v := .tuple #[.int .u32 (V % 4294967296), .int .u32 (V / 4294967296), (Flt.zero).val, .bool true]) (results_four' rfl (res_tmp 6 rfl) (res_tmp 7 rfl) (res_flt 8 (w.heap.size + 1) (Flt.zero) rfl hE.1) (res_tmp 9 rfl)) rfl ⟨by rw [HA.out.1, HA.out.2, HV.out], hE.2.1, hE.2.2⟩

end Go.Proofs.Ytoplekfnghkkdaa


namespace Go.Proofs.Ytoplekfnghkkdaa
open Go Go.RowKit
set_option linter.unusedVariables false
set_option linter.unusedSimpArgs false

set_option maxRecDepth 100000 in
theorem one_any (b : Bool) (w : World) : Calls Try.prog 70 #[.bool b] w fun e w' => e = .returned (.int .u32 (if b then 1 else 0)) ∧ w = w' := by
  cases b
  all_goals
    go_enter Try.func70, Try.ntmps70
    go_wp2_with fail
    go_ret
    exact ⟨rfl, rfl⟩

set_option maxRecDepth 100000 in
set_option maxHeartbeats 4000000 in
theorem want13 (M : Mem) (rr : Nat) (x0 x1 x2 x3 : Int) (w : World) (hM : IsRef w rr M) (h0 : 0 ≤ x0 ∧ x0 < 4294967296) (h1 : 0 ≤ x1 ∧ x1 < 4294967296) (h2 : 0 ≤ x2 ∧ x2 < 4294967296) (h3 : 0 ≤ x3 ∧ x3 < 4294967296)  :
    Calls Try.prog 24 #[.pointer (some ⟨rr, 0, none⟩), .agg #[.int .u32 x0, .int .u32 x1, .int .u32 x2, .int .u32 x3], .int .u32 13] w fun e w' => e = .returned (.tuple #[.int .u32 (cmpT (cmpZ (x1 * 4294967296 + x0).toNat (x3 * 4294967296 + x2).toNat) (cmpP (x1 * 4294967296 + x0).toNat (x3 * 4294967296 + x2).toNat) (cmpC (x1 * 4294967296 + x0).toNat (x3 * 4294967296 + x2).toNat) 4), .int .u32 (x1), (Flt.zero).val, .bool true]) ∧ IsRef w' rr (M) ∧ Upd [rr] w w' := by
  have hmo : Try.prog.follows .mixedOrders = true := by kernel_rfl
  have j1 := or_join x0 x1 h0 h1
  have j2 := or_join x2 x3 h2 h3
  obtain ⟨A, hA⟩ : ∃ A, x1 * 4294967296 + x0 = A := ⟨_, rfl⟩
  obtain ⟨C, hC⟩ : ∃ C, x3 * 4294967296 + x2 = C := ⟨_, rfl⟩
  rw [hA] at j1
  rw [hC] at j2
  have v0 := u64_id x0 (by omega) (by omega)
  have v1 := u64_id x1 (by omega) (by omega)
  have v2 := u64_id x2 (by omega) (by omega)
  have v3 := u64_id x3 (by omega) (by omega)
  have q1 : x1 * 4294967296 % 18446744073709551616 = x1 * 4294967296 := by omega
  have q2 : x3 * 4294967296 % 18446744073709551616 = x3 * 4294967296 := by omega
  have HA := Lib.hid (And.intro hA hC)
  have H0 := Lib.hid h0
  have H1 := Lib.hid h1
  have H2 := Lib.hid h2
  have H3 := Lib.hid h3
  have HW := Lib.hid (WtS.start hM #[.int .u32 x0, .int .u32 x1, .int .u32 x2, .int .u32 x3])
  have HAb := Lib.hid (show (0 ≤ A ∧ A < 18446744073709551616) ∧ (0 ≤ C ∧ C < 18446744073709551616) by omega)
  obtain ⟨z, hz⟩ : ∃ z, cmpZ A.toNat C.toNat = z := ⟨_, rfl⟩
  obtain ⟨p, hp⟩ : ∃ p, cmpP A.toNat C.toNat = p := ⟨_, rfl⟩
  obtain ⟨c, hc⟩ : ∃ c, cmpC A.toNat C.toNat = c := ⟨_, rfl⟩
  have HZ := Lib.hid (And.intro hz (And.intro hp hc))
  clear hz hp hc
  cases z <;> cases p <;> cases c
  all_goals
    clear hM hA hC h0 h1 h2 h3
    go_enter Try.func24, Try.ntmps24
    go_wp2_with fail
    refine wp_draw 18 (fun w1 => WtS w rr (M) #[.int .u32 x0, .int .u32 x1, .int .u32 x2, .int .u32 x3] w1 ∧ True) (fun _ _ => False) (by kernel_rfl) (by kernel_rfl) ⟨HW.out.step (Upd.refl [] _).drew, trivial⟩ (fun _ _ _ h => h.elim) ?_
    simp only [List.take_succ_cons, List.take_zero, List.drop_succ_cons, List.drop_zero]
    repeat
      apply headW_val rfl rfl
      · intro K hK w1 hB1
        have cx := cells_of hB1.1.x
        have HB := Lib.hid hB1
        clear hB1
        go_wp2_with fail
        first
        | exact hK _ HB.out
        | exact HB.out
      · exact ⟨_, rfl⟩
    clear HW
    refine headW_nil (fun _ w8 hB1 => ?_)
    have HW := Lib.hid hB1.1
    have cx := cells_of hB1.1.x
    have cz := cells_of hB1.1.z
    have fz := free_of hB1.1.z
    clear hB1
    go_wp2_with (go_at_call 69; refine (rf_Compare A C HAb.out.1 HAb.out.2 _).mono ?_; rintro e w9 ⟨rfl, hu⟩; rw [HZ.out.1, HZ.out.2.1, HZ.out.2.2]; have HW9 := Lib.hid (HW.out.step hu); clear hu cx cz fz)
    clear HW
    have HW := HW9
    clear HW9
    refine wp_draw 15 (fun w1 => WtS w rr M #[.int .u32 x0, .int .u32 x1, .int .u32 x2, .int .u32 x3] w1) (fun _ _ => False) (by kernel_rfl) (by kernel_rfl) (HW.out.step (Upd.refl [] _).drew) (fun _ _ _ h => h.elim) ?_
    simp only [List.take_succ_cons, List.take_zero, List.drop_succ_cons, List.drop_zero]
    iterate 1
      apply headW_val rfl rfl
      · intro K hK w1 hB1
        have cx := cells_of hB1.x
        have HB := Lib.hid hB1
        clear hB1
        go_wp2_with fail
        first
        | exact hK _ HB.out
        | exact HB.out
      · exact ⟨_, rfl⟩
    iterate 1
      apply headW_val rfl rfl
      · intro K hK w1 hB1
        have cx := cells_of hB1.x
        have HB := Lib.hid hB1
        clear hB1
        go_wp2_with (go_at_call 70; refine (one_any _ _).mono ?_; rintro e w9 ⟨rfl, rfl⟩)
        first
        | exact hK _ HB.out
        | exact HB.out
      · exact ⟨_, rfl⟩
    iterate 2
      apply headW_val rfl rfl
      · intro K hK w1 hB1
        have cx := cells_of hB1.x
        have HB := Lib.hid hB1
        clear hB1
        go_wp2_with fail
        first
        | exact hK _ HB.out
        | exact HB.out
      · exact ⟨_, rfl⟩
    iterate 1
      apply headW_val rfl rfl
      · intro K hK w1 hB1
        have cx := cells_of hB1.x
        have HB := Lib.hid hB1
        clear hB1
        go_wp2_with (go_at_call 70; refine (one_any _ _).mono ?_; rintro e w9 ⟨rfl, rfl⟩)
        first
        | exact hK _ HB.out
        | exact HB.out
      · exact ⟨_, rfl⟩
    iterate 3
      apply headW_val rfl rfl
      · intro K hK w1 hB1
        have cx := cells_of hB1.x
        have HB := Lib.hid hB1
        clear hB1
        go_wp2_with fail
        first
        | exact hK _ HB.out
        | exact HB.out
      · exact ⟨_, rfl⟩
    iterate 1
      apply headW_val rfl rfl
      · intro K hK w1 hB1
        have cx := cells_of hB1.x
        have HB := Lib.hid hB1
        clear hB1
        go_wp2_with (go_at_call 70; refine (one_any _ _).mono ?_; rintro e w9 ⟨rfl, rfl⟩)
        first
        | exact hK _ HB.out
        | exact HB.out
      · exact ⟨_, rfl⟩
    iterate 6
      apply headW_val rfl rfl
      · intro K hK w1 hB1
        have cx := cells_of hB1.x
        have HB := Lib.hid hB1
        clear hB1
        go_wp2_with fail
        first
        | exact hK _ HB.out
        | exact HB.out
      · exact ⟨_, rfl⟩
    clear HW
    refine headW_nil (fun _ w8 hB1 => ?_)
    have HW := Lib.hid hB1
    clear hB1
    have cz := cells_of HW.out.z
    have fz := free_of HW.out.z
    go_wp2_with fail
    have hE := HW.out.fin (Flt.zero) HW.out
    refine bodyPost_ret (v := .tuple #[.int .u32 (_), .int .u32 (x1), (Flt.zero).val, .bool true]) (results_four' rfl (res_tmp 6 rfl) (res_tmp 7 rfl) (res_flt 8 (w.heap.size + 1) (Flt.zero) rfl hE.1) (res_tmp 9 rfl)) rfl ⟨by first | (rw [HA.out.1, HA.out.2, HZ.out.1, HZ.out.2.1, HZ.out.2.2]; done) | (rw [HA.out.1, HA.out.2, HZ.out.1, HZ.out.2.1, HZ.out.2.2]; rfl), hE.2.1, hE.2.2⟩

end Go.Proofs.Ytoplekfnghkkdaa


namespace Go.Proofs.Ytoplekfnghkkdaa
open Go Go.RowKit
set_option linter.unusedVariables false
set_option linter.unusedSimpArgs false

set_option maxRecDepth 100000 in
set_option maxHeartbeats 4000000 in
theorem want14l_true (M : Mem) (rr : Nat) (n : Nat) (x0 x2 x3 : Int) (w : World) (hM : IsRef w rr M) (h0 : 0 ≤ x0 ∧ x0 < 4294967296) (h1 : 0 ≤ (n : Int) ∧ (n : Int) < 4294967296) (h2 : 0 ≤ x2 ∧ x2 < 4294967296) (h3 : 0 ≤ x3 ∧ x3 < 4294967296) (hn : n ≤ 16) (hk : M.canK x0 n 3 = true) :
    Calls Try.prog 24 #[.pointer (some ⟨rr, 0, none⟩), .agg #[.int .u32 x0, .int .u32 (n : Int), .int .u32 x2, .int .u32 x3], .int .u32 14] w fun e w' => e = .returned (.tuple #[.int .u32 (0), .int .u32 ((n : Int)), (Flt.zero).val, .bool true]) ∧ IsRef w' rr (M) ∧ Upd [rr] w w' := by
  have hmo : Try.prog.follows .mixedOrders = true := by kernel_rfl
  have j1 := or_join x0 (n : Int) h0 h1
  have j2 := or_join x2 x3 h2 h3
  obtain ⟨A, hA⟩ : ∃ A, (n : Int) * 4294967296 + x0 = A := ⟨_, rfl⟩
  obtain ⟨C, hC⟩ : ∃ C, x3 * 4294967296 + x2 = C := ⟨_, rfl⟩
  rw [hA] at j1
  rw [hC] at j2
  have v0 := u64_id x0 (by omega) (by omega)
  have v1 := u64_id (n : Int) (by omega) (by omega)
  have v2 := u64_id x2 (by omega) (by omega)
  have v3 := u64_id x3 (by omega) (by omega)
  have q1 : (n : Int) * 4294967296 % 18446744073709551616 = (n : Int) * 4294967296 := by omega
  have q2 : x3 * 4294967296 % 18446744073709551616 = x3 * 4294967296 := by omega
  have HA := Lib.hid (And.intro hA hC)
  have H0 := Lib.hid h0
  have H1 := Lib.hid h1
  have H2 := Lib.hid h2
  have H3 := Lib.hid h3
  have HW := Lib.hid (WtS.start hM #[.int .u32 x0, .int .u32 (n : Int), .int .u32 x2, .int .u32 x3])
  have HK := Lib.hid hk
  have HZ := Lib.hid (show M.canF x0 n 3 = Flt.zero by
    rw [Mem.canK] at hk
    rw [Mem.canF, Option.isNone_iff_eq_none.1 hk])
  clear hk
  have HN := Lib.hid (show n ≤ 16 by omega)
  have vn : IntKind.i64.wrap (n : Int) = n := by simp [IntKind.wrap, IntKind.signed, IntKind.bits]; omega
  clear hM hA hC h0 h1 h2 h3
  go_enter Try.func24, Try.ntmps24
  go_wp2_with fail
  refine wp_draw 18 (fun w1 => WtS w rr (M) #[.int .u32 x0, .int .u32 (n : Int), .int .u32 x2, .int .u32 x3] w1 ∧ True) (fun _ _ => False) (by kernel_rfl) (by kernel_rfl) ⟨HW.out.step (Upd.refl [] _).drew, trivial⟩ (fun _ _ _ h => h.elim) ?_
  simp only [List.take_succ_cons, List.take_zero, List.drop_succ_cons, List.drop_zero]
  repeat
    apply headW_val rfl rfl
    · intro K hK w1 hB1
      have cx := cells_of hB1.1.x
      have HB := Lib.hid hB1
      clear hB1
      go_wp2_with fail
      first
      | exact hK _ HB.out
      | exact HB.out
    · exact ⟨_, rfl⟩
  clear HW
  refine headW_nil (fun _ w8 hB1 => ?_)
  have HW := Lib.hid hB1.1
  have cx := cells_of hB1.1.x
  have cz := cells_of hB1.1.z
  have fz := free_of hB1.1.z
  clear hB1
  go_wp2_with (go_at_call 65; refine (Lacks_ref M rr n x0 3 _ HW.out.f H0.out.1 H0.out.2 HN.out (by decide) (by decide)).mono ?_; rintro e w9 ⟨rfl, hu⟩; rw [HK.out, HZ.out]; unfold Flt.val Flt.zero; have HW9 := Lib.hid (HW.out.step hu); clear hu cx cz fz)
  have HD := Lib.hid (heap_alloc_new w9 (.cells #[.int .i64 0, .int .u32 0, .int .u32 0, .int .i64 0] 49))
  have HW0 := HW9
  clear HW HW9
  have HW := Lib.hid (HW0.out.step ((Upd.refl [] _).alloc (.cells #[.int .i64 0, .int .u32 0, .int .u32 0, .int .i64 0] 49)))
  clear HW0
  refine wp_draw 5 (fun w1 => WtS w rr (M) #[.int .u32 x0, .int .u32 (n : Int), .int .u32 x2, .int .u32 x3] w1 ∧ w1.heap[w9.heap.size]? = some (.cells #[.int .i64 0, .int .u32 0, .int .u32 0, .int .i64 0] 49 (0, 0))) (fun _ _ => False) (by kernel_rfl) (by kernel_rfl) ⟨HW.out.step (Upd.refl [] _).drew, HD.out⟩ (fun _ _ _ h => h.elim) ?_
  simp only [List.take_succ_cons, List.take_zero, List.drop_succ_cons, List.drop_zero]
  repeat
    apply headW_val rfl rfl
    · intro K hK w1 hB1
      have cx := cells_of hB1.1.x
      have cd := cells_of hB1.2
      have HB := Lib.hid hB1
      clear hB1
      go_wp2_with fail
      first
      | exact hK _ HB.out
      | exact HB.out
    · exact ⟨_, rfl⟩
  clear HW
  refine headW_nil (fun _ w8 hB1 => ?_)
  have HW := Lib.hid hB1.1
  have cx := cells_of hB1.1.x
  have cz := cells_of hB1.1.z
  have fz := free_of hB1.1.z
  clear hB1
  go_wp2_with fail
  have hE := HW.out.fin (Flt.zero) HW.out
  refine bodyPost_ret (v := .tuple #[.int .u32 (0), .int .u32 ((n : Int)), (Flt.zero).val, .bool true]) (results_four' rfl (res_tmp 6 rfl) (res_tmp 7 rfl) (res_flt 8 (w.heap.size + 1) (Flt.zero) rfl hE.1) (res_tmp 9 rfl)) rfl ⟨rfl, hE.2.1, hE.2.2⟩

set_option maxRecDepth 100000 in
set_option maxHeartbeats 4000000 in
theorem want14g_true (M : Mem) (rr : Nat) (x0 x1 x2 x3 : Int) (w : World) (hM : IsRef w rr M) (h0 : 0 ≤ x0 ∧ x0 < 4294967296) (h1 : 0 ≤ x1 ∧ x1 < 4294967296) (h2 : 0 ≤ x2 ∧ x2 < 4294967296) (h3 : 0 ≤ x3 ∧ x3 < 4294967296) (hn : ¬ x1 ≤ 16) (hk : M.canK x0 16 3 = true) :
    Calls Try.prog 24 #[.pointer (some ⟨rr, 0, none⟩), .agg #[.int .u32 x0, .int .u32 x1, .int .u32 x2, .int .u32 x3], .int .u32 14] w fun e w' => e = .returned (.tuple #[.int .u32 (0), .int .u32 (x1), (Flt.zero).val, .bool true]) ∧ IsRef w' rr (M) ∧ Upd [rr] w w' := by
  have hmo : Try.prog.follows .mixedOrders = true := by kernel_rfl
  have j1 := or_join x0 x1 h0 h1
  have j2 := or_join x2 x3 h2 h3
  obtain ⟨A, hA⟩ : ∃ A, x1 * 4294967296 + x0 = A := ⟨_, rfl⟩
  obtain ⟨C, hC⟩ : ∃ C, x3 * 4294967296 + x2 = C := ⟨_, rfl⟩
  rw [hA] at j1
  rw [hC] at j2
  have v0 := u64_id x0 (by omega) (by omega)
  have v1 := u64_id x1 (by omega) (by omega)
  have v2 := u64_id x2 (by omega) (by omega)
  have v3 := u64_id x3 (by omega) (by omega)
  have q1 : x1 * 4294967296 % 18446744073709551616 = x1 * 4294967296 := by omega
  have q2 : x3 * 4294967296 % 18446744073709551616 = x3 * 4294967296 := by omega
  have HA := Lib.hid (And.intro hA hC)
  have H0 := Lib.hid h0
  have H1 := Lib.hid h1
  have H2 := Lib.hid h2
  have H3 := Lib.hid h3
  have HW := Lib.hid (WtS.start hM #[.int .u32 x0, .int .u32 x1, .int .u32 x2, .int .u32 x3])
  have HK := Lib.hid hk
  have HZ := Lib.hid (show M.canF x0 16 3 = Flt.zero by
    rw [Mem.canK] at hk
    rw [Mem.canF, Option.isNone_iff_eq_none.1 hk])
  clear hk
  have HN := Lib.hid (show 16 ≤ 16 by omega)
  clear hM hA hC h0 h1 h2 h3
  go_enter Try.func24, Try.ntmps24
  go_wp2_with fail
  refine wp_draw 18 (fun w1 => WtS w rr (M) #[.int .u32 x0, .int .u32 x1, .int .u32 x2, .int .u32 x3] w1 ∧ True) (fun _ _ => False) (by kernel_rfl) (by kernel_rfl) ⟨HW.out.step (Upd.refl [] _).drew, trivial⟩ (fun _ _ _ h => h.elim) ?_
  simp only [List.take_succ_cons, List.take_zero, List.drop_succ_cons, List.drop_zero]
  repeat
    apply headW_val rfl rfl
    · intro K hK w1 hB1
      have cx := cells_of hB1.1.x
      have HB := Lib.hid hB1
      clear hB1
      go_wp2_with fail
      first
      | exact hK _ HB.out
      | exact HB.out
    · exact ⟨_, rfl⟩
  clear HW
  refine headW_nil (fun _ w8 hB1 => ?_)
  have HW := Lib.hid hB1.1
  have cx := cells_of hB1.1.x
  have cz := cells_of hB1.1.z
  have fz := free_of hB1.1.z
  clear hB1
  go_wp2_with (go_at_call 65; refine (Lacks_ref M rr 16 x0 3 _ HW.out.f H0.out.1 H0.out.2 HN.out (by decide) (by decide)).mono ?_; rintro e w9 ⟨rfl, hu⟩; rw [HK.out, HZ.out]; unfold Flt.val Flt.zero; have HW9 := Lib.hid (HW.out.step hu); clear hu cx cz fz)
  have HD := Lib.hid (heap_alloc_new w9 (.cells #[.int .i64 0, .int .u32 0, .int .u32 0, .int .i64 0] 49))
  have HW0 := HW9
  clear HW HW9
  have HW := Lib.hid (HW0.out.step ((Upd.refl [] _).alloc (.cells #[.int .i64 0, .int .u32 0, .int .u32 0, .int .i64 0] 49)))
  clear HW0
  refine wp_draw 5 (fun w1 => WtS w rr (M) #[.int .u32 x0, .int .u32 x1, .int .u32 x2, .int .u32 x3] w1 ∧ w1.heap[w9.heap.size]? = some (.cells #[.int .i64 0, .int .u32 0, .int .u32 0, .int .i64 0] 49 (0, 0))) (fun _ _ => False) (by kernel_rfl) (by kernel_rfl) ⟨HW.out.step (Upd.refl [] _).drew, HD.out⟩ (fun _ _ _ h => h.elim) ?_
  simp only [List.take_succ_cons, List.take_zero, List.drop_succ_cons, List.drop_zero]
  repeat
    apply headW_val rfl rfl
    · intro K hK w1 hB1
      have cx := cells_of hB1.1.x
      have cd := cells_of hB1.2
      have HB := Lib.hid hB1
      clear hB1
      go_wp2_with fail
      first
      | exact hK _ HB.out
      | exact HB.out
    · exact ⟨_, rfl⟩
  clear HW
  refine headW_nil (fun _ w8 hB1 => ?_)
  have HW := Lib.hid hB1.1
  have cx := cells_of hB1.1.x
  have cz := cells_of hB1.1.z
  have fz := free_of hB1.1.z
  clear hB1
  go_wp2_with fail
  have hE := HW.out.fin (Flt.zero) HW.out
  refine bodyPost_ret (v := .tuple #[.int .u32 (0), .int .u32 (x1), (Flt.zero).val, .bool true]) (results_four' rfl (res_tmp 6 rfl) (res_tmp 7 rfl) (res_flt 8 (w.heap.size + 1) (Flt.zero) rfl hE.1) (res_tmp 9 rfl)) rfl ⟨rfl, hE.2.1, hE.2.2⟩

end Go.Proofs.Ytoplekfnghkkdaa


namespace Go.Proofs.Ytoplekfnghkkdaa
open Go Go.RowKit
set_option linter.unusedVariables false
set_option linter.unusedSimpArgs false

set_option maxRecDepth 100000 in
set_option maxHeartbeats 4000000 in
theorem want14l_false (M : Mem) (rr : Nat) (n : Nat) (x0 x2 x3 : Int) (w : World) (hM : IsRef w rr M) (h0 : 0 ≤ x0 ∧ x0 < 4294967296) (h1 : 0 ≤ (n : Int) ∧ (n : Int) < 4294967296) (h2 : 0 ≤ x2 ∧ x2 < 4294967296) (h3 : 0 ≤ x3 ∧ x3 < 4294967296) (hn : n ≤ 16) (hk : M.canK x0 n 3 = false) :
    Calls Try.prog 24 #[.pointer (some ⟨rr, 0, none⟩), .agg #[.int .u32 x0, .int .u32 (n : Int), .int .u32 x2, .int .u32 x3], .int .u32 14] w fun e w' => e = .returned (.tuple #[.int .u32 (x0), .int .u32 ((n : Int)), (M.canF x0 n 3).val, .bool false]) ∧ IsRef w' rr (M) ∧ Upd [rr] w w' := by
  have hmo : Try.prog.follows .mixedOrders = true := by kernel_rfl
  have j1 := or_join x0 (n : Int) h0 h1
  have j2 := or_join x2 x3 h2 h3
  obtain ⟨A, hA⟩ : ∃ A, (n : Int) * 4294967296 + x0 = A := ⟨_, rfl⟩
  obtain ⟨C, hC⟩ : ∃ C, x3 * 4294967296 + x2 = C := ⟨_, rfl⟩
  rw [hA] at j1
  rw [hC] at j2
  have v0 := u64_id x0 (by omega) (by omega)
  have v1 := u64_id (n : Int) (by omega) (by omega)
  have v2 := u64_id x2 (by omega) (by omega)
  have v3 := u64_id x3 (by omega) (by omega)
  have q1 : (n : Int) * 4294967296 % 18446744073709551616 = (n : Int) * 4294967296 := by omega
  have q2 : x3 * 4294967296 % 18446744073709551616 = x3 * 4294967296 := by omega
  have HA := Lib.hid (And.intro hA hC)
  have H0 := Lib.hid h0
  have H1 := Lib.hid h1
  have H2 := Lib.hid h2
  have H3 := Lib.hid h3
  have HW := Lib.hid (WtS.start hM #[.int .u32 x0, .int .u32 (n : Int), .int .u32 x2, .int .u32 x3])
  have HK := Lib.hid hk
  clear hk
  have HN := Lib.hid (show n ≤ 16 by omega)
  have vn : IntKind.i64.wrap (n : Int) = n := by simp [IntKind.wrap, IntKind.signed, IntKind.bits]; omega
  clear hM hA hC h0 h1 h2 h3
  go_enter Try.func24, Try.ntmps24
  go_wp2_with fail
  refine wp_draw 18 (fun w1 => WtS w rr (M) #[.int .u32 x0, .int .u32 (n : Int), .int .u32 x2, .int .u32 x3] w1 ∧ True) (fun _ _ => False) (by kernel_rfl) (by kernel_rfl) ⟨HW.out.step (Upd.refl [] _).drew, trivial⟩ (fun _ _ _ h => h.elim) ?_
  simp only [List.take_succ_cons, List.take_zero, List.drop_succ_cons, List.drop_zero]
  repeat
    apply headW_val rfl rfl
    · intro K hK w1 hB1
      have cx := cells_of hB1.1.x
      have HB := Lib.hid hB1
      clear hB1
      go_wp2_with fail
      first
      | exact hK _ HB.out
      | exact HB.out
    · exact ⟨_, rfl⟩
  clear HW
  refine headW_nil (fun _ w8 hB1 => ?_)
  have HW := Lib.hid hB1.1
  have cx := cells_of hB1.1.x
  have cz := cells_of hB1.1.z
  have fz := free_of hB1.1.z
  clear hB1
  go_wp2_with (go_at_call 65; refine (Lacks_ref M rr n x0 3 _ HW.out.f H0.out.1 H0.out.2 HN.out (by decide) (by decide)).mono ?_; rintro e w9 ⟨rfl, hu⟩; rw [HK.out]; unfold Flt.val; have HW9 := Lib.hid (HW.out.step hu); clear hu cx cz fz)
  have HD := Lib.hid (heap_alloc_new w9 (.cells #[.int .i64 (M.canF x0 n 3).k, .int .u32 (M.canF x0 n 3).pc, .int .u32 (M.canF x0 n 3).a, .int .i64 (M.canF x0 n 3).wt] 49))
  have HW0 := HW9
  clear HW HW9
  have HW := Lib.hid (HW0.out.step ((Upd.refl [] _).alloc (.cells #[.int .i64 (M.canF x0 n 3).k, .int .u32 (M.canF x0 n 3).pc, .int .u32 (M.canF x0 n 3).a, .int .i64 (M.canF x0 n 3).wt] 49)))
  clear HW0
  refine wp_draw 7 (fun w1 => WtS w rr (M) #[.int .u32 x0, .int .u32 (n : Int), .int .u32 x2, .int .u32 x3] w1 ∧ w1.heap[w9.heap.size]? = some (.cells #[.int .i64 (M.canF x0 n 3).k, .int .u32 (M.canF x0 n 3).pc, .int .u32 (M.canF x0 n 3).a, .int .i64 (M.canF x0 n 3).wt] 49 (0, 0))) (fun _ _ => False) (by kernel_rfl) (by kernel_rfl) ⟨HW.out.step (Upd.refl [] _).drew, HD.out⟩ (fun _ _ _ h => h.elim) ?_
  simp only [List.take_succ_cons, List.take_zero, List.drop_succ_cons, List.drop_zero]
  repeat
    apply headW_val rfl rfl
    · intro K hK w1 hB1
      have cx := cells_of hB1.1.x
      have cd := cells_of hB1.2
      have HB := Lib.hid hB1
      clear hB1
      go_wp2_with fail
      first
      | exact hK _ HB.out
      | exact HB.out
    · exact ⟨_, rfl⟩
  clear HW
  refine headW_nil (fun _ w8 hB1 => ?_)
  have HW := Lib.hid hB1.1
  have cx := cells_of hB1.1.x
  have cz := cells_of hB1.1.z
  have fz := free_of hB1.1.z
  clear hB1
  go_wp2_with fail
  have hE := HW.out.fin (M.canF x0 n 3) HW.out
  refine bodyPost_ret (v := .tuple #[.int .u32 (x0), .int .u32 ((n : Int)), (M.canF x0 n 3).val, .bool false]) (results_four' rfl (res_tmp 6 rfl) (res_tmp 7 rfl) (res_flt 8 (w.heap.size + 1) (M.canF x0 n 3) rfl hE.1) (res_tmp 9 rfl)) rfl ⟨rfl, hE.2.1, hE.2.2⟩

set_option maxRecDepth 100000 in
set_option maxHeartbeats 4000000 in
theorem want14g_false (M : Mem) (rr : Nat) (x0 x1 x2 x3 : Int) (w : World) (hM : IsRef w rr M) (h0 : 0 ≤ x0 ∧ x0 < 4294967296) (h1 : 0 ≤ x1 ∧ x1 < 4294967296) (h2 : 0 ≤ x2 ∧ x2 < 4294967296) (h3 : 0 ≤ x3 ∧ x3 < 4294967296) (hn : ¬ x1 ≤ 16) (hk : M.canK x0 16 3 = false) :
    Calls Try.prog 24 #[.pointer (some ⟨rr, 0, none⟩), .agg #[.int .u32 x0, .int .u32 x1, .int .u32 x2, .int .u32 x3], .int .u32 14] w fun e w' => e = .returned (.tuple #[.int .u32 (x0), .int .u32 (x1), (M.canF x0 16 3).val, .bool false]) ∧ IsRef w' rr (M) ∧ Upd [rr] w w' := by
  have hmo : Try.prog.follows .mixedOrders = true := by kernel_rfl
  have j1 := or_join x0 x1 h0 h1
  have j2 := or_join x2 x3 h2 h3
  obtain ⟨A, hA⟩ : ∃ A, x1 * 4294967296 + x0 = A := ⟨_, rfl⟩
  obtain ⟨C, hC⟩ : ∃ C, x3 * 4294967296 + x2 = C := ⟨_, rfl⟩
  rw [hA] at j1
  rw [hC] at j2
  have v0 := u64_id x0 (by omega) (by omega)
  have v1 := u64_id x1 (by omega) (by omega)
  have v2 := u64_id x2 (by omega) (by omega)
  have v3 := u64_id x3 (by omega) (by omega)
  have q1 : x1 * 4294967296 % 18446744073709551616 = x1 * 4294967296 := by omega
  have q2 : x3 * 4294967296 % 18446744073709551616 = x3 * 4294967296 := by omega
  have HA := Lib.hid (And.intro hA hC)
  have H0 := Lib.hid h0
  have H1 := Lib.hid h1
  have H2 := Lib.hid h2
  have H3 := Lib.hid h3
  have HW := Lib.hid (WtS.start hM #[.int .u32 x0, .int .u32 x1, .int .u32 x2, .int .u32 x3])
  have HK := Lib.hid hk
  clear hk
  have HN := Lib.hid (show 16 ≤ 16 by omega)
  clear hM hA hC h0 h1 h2 h3
  go_enter Try.func24, Try.ntmps24
  go_wp2_with fail
  refine wp_draw 18 (fun w1 => WtS w rr (M) #[.int .u32 x0, .int .u32 x1, .int .u32 x2, .int .u32 x3] w1 ∧ True) (fun _ _ => False) (by kernel_rfl) (by kernel_rfl) ⟨HW.out.step (Upd.refl [] _).drew, trivial⟩ (fun _ _ _ h => h.elim) ?_
  simp only [List.take_succ_cons, List.take_zero, List.drop_succ_cons, List.drop_zero]
  repeat
    apply headW_val rfl rfl
    · intro K hK w1 hB1
      have cx := cells_of hB1.1.x
      have HB := Lib.hid hB1
      clear hB1
      go_wp2_with fail
      first
      | exact hK _ HB.out
      | exact HB.out
    · exact ⟨_, rfl⟩
  clear HW
  refine headW_nil (fun _ w8 hB1 => ?_)
  have HW := Lib.hid hB1.1
  have cx := cells_of hB1.1.x
  have cz := cells_of hB1.1.z
  have fz := free_of hB1.1.z
  clear hB1
  go_wp2_with (go_at_call 65; refine (Lacks_ref M rr 16 x0 3 _ HW.out.f H0.out.1 H0.out.2 HN.out (by decide) (by decide)).mono ?_; rintro e w9 ⟨rfl, hu⟩; rw [HK.out]; unfold Flt.val; have HW9 := Lib.hid (HW.out.step hu); clear hu cx cz fz)
  have HD := Lib.hid (heap_alloc_new w9 (.cells #[.int .i64 (M.canF x0 16 3).k, .int .u32 (M.canF x0 16 3).pc, .int .u32 (M.canF x0 16 3).a, .int .i64 (M.canF x0 16 3).wt] 49))
  have HW0 := HW9
  clear HW HW9
  have HW := Lib.hid (HW0.out.step ((Upd.refl [] _).alloc (.cells #[.int .i64 (M.canF x0 16 3).k, .int .u32 (M.canF x0 16 3).pc, .int .u32 (M.canF x0 16 3).a, .int .i64 (M.canF x0 16 3).wt] 49)))
  clear HW0
  refine wp_draw 7 (fun w1 => WtS w rr (M) #[.int .u32 x0, .int .u32 x1, .int .u32 x2, .int .u32 x3] w1 ∧ w1.heap[w9.heap.size]? = some (.cells #[.int .i64 (M.canF x0 16 3).k, .int .u32 (M.canF x0 16 3).pc, .int .u32 (M.canF x0 16 3).a, .int .i64 (M.canF x0 16 3).wt] 49 (0, 0))) (fun _ _ => False) (by kernel_rfl) (by kernel_rfl) ⟨HW.out.step (Upd.refl [] _).drew, HD.out⟩ (fun _ _ _ h => h.elim) ?_
  simp only [List.take_succ_cons, List.take_zero, List.drop_succ_cons, List.drop_zero]
  repeat
    apply headW_val rfl rfl
    · intro K hK w1 hB1
      have cx := cells_of hB1.1.x
      have cd := cells_of hB1.2
      have HB := Lib.hid hB1
      clear hB1
      go_wp2_with fail
      first
      | exact hK _ HB.out
      | exact HB.out
    · exact ⟨_, rfl⟩
  clear HW
  refine headW_nil (fun _ w8 hB1 => ?_)
  have HW := Lib.hid hB1.1
  have cx := cells_of hB1.1.x
  have cz := cells_of hB1.1.z
  have fz := free_of hB1.1.z
  clear hB1
  go_wp2_with fail
  have hE := HW.out.fin (M.canF x0 16 3) HW.out
  refine bodyPost_ret (v := .tuple #[.int .u32 (x0), .int .u32 (x1), (M.canF x0 16 3).val, .bool false]) (results_four' rfl (res_tmp 6 rfl) (res_tmp 7 rfl) (res_flt 8 (w.heap.size + 1) (M.canF x0 16 3) rfl hE.1) (res_tmp 9 rfl)) rfl ⟨rfl, hE.2.1, hE.2.2⟩

end Go.Proofs.Ytoplekfnghkkdaa
