/-
  The reference's memory: Read, Write: each by its contract. No condition.
-/
import Derived.Test.YtncafchgdgmeaaaRfD
namespace Go.Proofs.Ytncafchgdgmeaaa
open Go Go.RowKit
set_option linter.unusedVariables false
set_option linter.unusedSimpArgs false

theorem Upd.over_alloc {w w2 : World} {o : Obj} (hU : Upd [] (w.alloc o) w2) : w2.heap[w.heap.size]? = some o ∧ Upd [] w w2 ∧ w.heap.size < w2.heap.size := by
  have h := hU.size
  have h2 : (w.alloc o).heap.size = w.heap.size + 1 := by simp
  exact ⟨hU.get (heap_alloc_new _ _) (by simp), ((Upd.refl [] w).alloc o).also hU (by simp), by omega⟩

theorem Flt_mk_val (F : Flt) : Value.agg #[.int .i64 F.k, .int .u32 F.pc, .int .u32 F.a, .int .i64 F.wt] = F.val := rfl

set_option maxRecDepth 100000 in
set_option maxHeartbeats 2000000 in
theorem Write_ref (M : Mem) (r : Nat) (x b v : Int) (w : World) (hM : IsRef w r M) (h0 : 0 ≤ x) (h1 : x < 4294967296) (hv0 : 0 ≤ v) (hv1 : v < 4294967296) :
    Calls Try.prog 68 #[.pointer (some ⟨r, 0, none⟩), .int .u32 x, .int .i64 b, .int .u32 v] w fun e w' => e = .returned (.tuple #[(M.wrF x b).val, .bool (M.writeK x b)]) ∧ IsRef w' r (M.writeM x b v) ∧ Upd [r] w w' := by
  obtain ⟨n, hn⟩ : ∃ n : Nat, widthI b = n := ⟨(widthI b).toNat, by have := width_cases b; omega⟩
  have hn4 : n ≤ 4 := by have := width_cases b; omega
  have hnt : (widthI b).toNat = n := by omega
  have HF := Lib.hid (hnt ▸ canF_wrF hM.ok x b)
  have HK := Lib.hid (hnt ▸ canK_writeK hM.ok x b)
  have HN := Lib.hid hn
  have HNT := Lib.hid hnt
  have HM := Lib.hid hM
  have hr := hM.lt
  clear hM hn hnt
  cases hk : M.writeK x b
  · have HW := Lib.hid hk
    have HMW := Lib.hid (show M.writeM x b v = M by
      rw [Mem.writeM]; rw [Mem.writeK] at hk
      cases h : M.bad x 2 (widthI b).toNat with
      | none => rw [h] at hk; cases hk
      | some i => rfl)
    clear hk
    go_enter Try.func68, Try.ntmps68
    go_wp2_with (first | (go_at_call 97; refine (Size_ref b _).mono ?_; rintro e w2 ⟨rfl, rfl⟩; rw [HN.out]) | (go_at_call 37; (refine (Lacks_ref M r n x 2 _ (HM.out.keep ((Upd.refl [] _).alloc _) (by simp)) h0 h1 (by omega) (by decide) (by decide)).mono ?_; rintro e w2 ⟨rfl, hU⟩; rw [HF.out, HK.out, HW.out]; unfold Flt.val; obtain ⟨h8, hu, hs2⟩ := hU.over_alloc; have HU := Lib.hid hu; have H8 := Lib.hid h8; have cf := cells_of h8; have ff := free_of h8; clear hU hu h8)))
    have hF := heap_alloc_keep (.cells #[.int .i64 (M.wrF x b).k, .int .u32 (M.wrF x b).pc, .int .u32 (M.wrF x b).a, .int .i64 (M.wrF x b).wt] 32) (store4 H8.out (.int .i64 (M.wrF x b).k) (.int .u32 (M.wrF x b).pc) (.int .u32 (M.wrF x b).a) (.int .i64 (M.wrF x b).wt))
    have hE := (Upd_store4 (b := w.heap.size) HU.out (.inr (Nat.le_refl _)) (.int .i64 (M.wrF x b).k) (.int .u32 (M.wrF x b).pc) (.int .u32 (M.wrF x b).a) (.int .i64 (M.wrF x b).wt)).alloc (.cells #[.int .i64 (M.wrF x b).k, .int .u32 (M.wrF x b).pc, .int .u32 (M.wrF x b).a, .int .i64 (M.wrF x b).wt] 32)
    refine bodyPost_ret (v := .tuple #[(M.wrF x b).val, .bool false]) (results_two' rfl (res_flt 8 w.heap.size (M.wrF x b) rfl hF) (res_tmp 9 rfl)) rfl ⟨rfl, ?_, hE.mono (by simp)⟩
    rw [HMW.out]
    exact HM.out.keep hE (by simp)
  · have HW := Lib.hid hk
    have hbad : M.bad x 2 n = none := by
      rw [Mem.writeK, HNT.out] at hk
      cases h : M.bad x 2 n with
      | none => rfl
      | some i => rw [h] at hk; cases hk
    have HX := Lib.hid (can_all_lt x 2 n hbad)
    have HMW := Lib.hid (show M.writeM x b v = M.putN x v n by rw [Mem.writeM, HNT.out, hbad])
    have hne : r ≠ w.heap.size := by omega
    clear hk hbad
    go_enter Try.func68, Try.ntmps68
    go_wp2_with (first | (go_at_call 97; refine (Size_ref b _).mono ?_; rintro e w2 ⟨rfl, rfl⟩; rw [HN.out]) | (go_at_call 37; (refine (Lacks_ref M r n x 2 _ (HM.out.keep ((Upd.refl [] _).alloc _) (by simp)) h0 h1 (by omega) (by decide) (by decide)).mono ?_; rintro e w2 ⟨rfl, hU⟩; rw [HF.out, HK.out, HW.out]; unfold Flt.val; obtain ⟨h8, hu, hs2⟩ := hU.over_alloc; have HU := Lib.hid hu; have H8 := Lib.hid h8; have cf := cells_of h8; have ff := free_of h8; clear hU hu h8)) | (go_at_call 87; refine (Put_ref M r n x v _ (HM.out.keep (HU.out.alloc _) (by simp)) h0 h1 (by omega) HX.out hv0 (by omega)).mono ?_; rintro e w3 ⟨rfl, hM3, hU3⟩; have h8 := hU3.get (heap_alloc_keep _ H8.out) (by simpa using hne.symm); have h11 := hU3.get (heap_alloc_new _ _) (by simp; omega); have HU3 := Lib.hid (((HU.out.alloc (Obj.cells #[.int .i64 (M.wrF x b).k, .int .u32 (M.wrF x b).pc, .int .u32 (M.wrF x b).a, .int .i64 (M.wrF x b).wt] 32)).mono (T := [r]) (by simp)).also hU3 (by simp)); have HM3 := Lib.hid hM3; have H83 := Lib.hid h8; clear cf ff hM3 hU3; have cf := cells_of h8; have ff := free_of h8; have cg := cells_of h11; have fg := free_of h11; clear h8 h11))
    have hF := store4 H83.out (.int .i64 (M.wrF x b).k) (.int .u32 (M.wrF x b).pc) (.int .u32 (M.wrF x b).a) (.int .i64 (M.wrF x b).wt)
    have hE := Upd_store4 (b := w.heap.size) HU3.out (.inr (Nat.le_refl _)) (.int .i64 (M.wrF x b).k) (.int .u32 (M.wrF x b).pc) (.int .u32 (M.wrF x b).a) (.int .i64 (M.wrF x b).wt)
    have hE3 := Upd_store4 (S := [w.heap.size]) (b := w.heap.size) (Upd.refl _ w3) (.inl (by simp)) (.int .i64 (M.wrF x b).k) (.int .u32 (M.wrF x b).pc) (.int .u32 (M.wrF x b).a) (.int .i64 (M.wrF x b).wt)
    refine bodyPost_ret (v := .tuple #[(M.wrF x b).val, .bool true]) (results_two' rfl (res_flt 8 w.heap.size (M.wrF x b) rfl hF) (res_tmp 9 rfl)) rfl ⟨rfl, ?_, hE⟩
    rw [HMW.out]
    exact HM3.out.keep hE3 (by simpa using hne)

set_option maxRecDepth 100000 in
set_option maxHeartbeats 2000000 in
theorem Read_ref (M : Mem) (r : Nat) (x b rt : Int) (w : World) (hM : IsRef w r M) (h0 : 0 ≤ x) (h1 : x < 4294967296) :
    Calls Try.prog 69 #[.pointer (some ⟨r, 0, none⟩), .int .u32 x, .int .i64 b, .int .i64 rt] w fun e w' => e = .returned (.tuple #[.int .u32 (M.readV x b rt), (M.rdF x b rt).val, .bool (M.readK x b rt)]) ∧ Upd [] w w' := by
  have hmo : Try.prog.follows .mixedOrders = true := by kernel_rfl
  obtain ⟨n, hn⟩ : ∃ n : Nat, widthI b = n := ⟨(widthI b).toNat, by have := width_cases b; omega⟩
  have hn4 : n ≤ 4 := by have := width_cases b; omega
  have hnt : (widthI b).toNat = n := by omega
  obtain ⟨q, hq⟩ : ∃ q, rightI rt = q := ⟨_, rfl⟩
  have hqm := hq ▸ rightI_mem rt
  have HQ0 := Lib.hid (show 0 ≤ q by omega)
  have HQ7 := Lib.hid (show q ≤ 7 by omega)
  have HF := Lib.hid (hq ▸ hnt ▸ canF_rdF hM.ok x b rt)
  have HK := Lib.hid (hq ▸ hnt ▸ canK_readK hM.ok x b rt)
  have HN := Lib.hid hn
  have HNT := Lib.hid hnt
  have HM := Lib.hid hM
  have hr := hM.lt
  have h3 : (rt = 2 ∧ q = 2) ∨ (rt = 4 ∧ q = 4) ∨ (rt ≠ 2 ∧ rt ≠ 4 ∧ q = 1) := by
    by_cases hr : rt = 2
    · exact .inl ⟨hr, by rw [← hq, hr]; rfl⟩
    · by_cases hr4 : rt = 4
      · exact .inr (.inl ⟨hr4, by rw [← hq, hr4]; rfl⟩)
      · exact .inr (.inr ⟨hr, hr4, by rw [← hq]; simp [rightI, hr, hr4]⟩)
  have HQ := Lib.hid hq
  clear hM hn hnt hq hqm
  cases hk : M.readK x b rt
  · have HW := Lib.hid hk
    have HV := Lib.hid (show M.readV x b rt = 0 by
      rw [Mem.readV]; rw [Mem.readK] at hk
      cases h : M.bad x (rightI rt) (widthI b).toNat with
      | none => rw [h] at hk; cases hk
      | some i => rfl)
    clear hk
    obtain ⟨F, hF⟩ : ∃ F, M.rdF x b rt = F := ⟨_, rfl⟩
    have HF2 := Lib.hid (HF.out.trans hF)
    rw [hF]
    clear HF hF
    rcases h3 with ⟨rfl, rfl⟩ | ⟨rfl, rfl⟩ | ⟨g2, g4, rfl⟩
    · have HF := HF2
      clear HF2
      go_enter Try.func69, Try.ntmps69
      go_wp2_with (first | (go_at_call 97; refine (Size_ref b _).mono ?_; rintro e w2 ⟨rfl, rfl⟩; rw [HN.out]) | (go_at_call 37; (refine (Lacks_ref M r n x 2 _ (HM.out.keep ((Upd.refl [] _).alloc _) (by simp)) h0 h1 (by omega) HQ0.out HQ7.out).mono ?_; rintro e w2 ⟨rfl, hU⟩; rw [HF.out, HK.out, HW.out]; unfold Flt.val; obtain ⟨h8, hu, hs2⟩ := hU.over_alloc; have HU := Lib.hid hu; have H8 := Lib.hid h8; have cf := cells_of h8; have ff := free_of h8; clear hU hu h8)))
      refine wp_draw 2 (fun w1 => Upd [] w w1 ∧ w1.heap[w.heap.size]? = some (.cells #[.int .i64 0, .int .u32 0, .int .u32 0, .int .i64 0] 32 (0, 0)) ∧ w1.heap[w2.heap.size]? = some (.cells #[.int .i64 F.k, .int .u32 F.pc, .int .u32 F.a, .int .i64 F.wt] 32 (0, 0))) (fun _ _ => False) (by kernel_rfl) (by kernel_rfl) ⟨(HU.out.alloc _).drew, heap_alloc_keep _ H8.out, heap_alloc_new _ _⟩ (fun _ _ _ h => h.elim) ?_
      simp only [List.take_succ_cons, List.take_zero, List.drop_succ_cons, List.drop_zero]
      repeat
        apply headW_val rfl rfl
        · intro K hK w1 hB1
          have cg := cells_of hB1.2.2
          have HB1 := Lib.hid hB1
          clear hB1
          go_wp2_with fail
          exact HB1.out
        · exact ⟨_, rfl⟩
      refine headW_nil (fun _ w1 hB1 => ?_)
      have cf := cells_of hB1.2.1
      have ff := free_of hB1.2.1
      have HB1 := Lib.hid hB1
      clear hB1
      go_wp2_with fail
      have hE := Upd_store4 (b := w.heap.size) HB1.out.1 (.inr (Nat.le_refl _)) (.int .i64 F.k) (.int .u32 F.pc) (.int .u32 F.a) (.int .i64 F.wt)
      have hF := store4 HB1.out.2.1 (.int .i64 F.k) (.int .u32 F.pc) (.int .u32 F.a) (.int .i64 F.wt)
      refine bodyPost_ret (v := .tuple #[.int .u32 0, F.val, .bool false]) (results_three' rfl (res_tmp 8 rfl) (res_flt 9 w.heap.size F rfl hF) (res_tmp 10 rfl)) rfl ⟨by rw [HV.out], hE⟩
    · have HF := HF2
      clear HF2
      go_enter Try.func69, Try.ntmps69
      go_wp2_with (first | (go_at_call 97; refine (Size_ref b _).mono ?_; rintro e w2 ⟨rfl, rfl⟩; rw [HN.out]) | (go_at_call 37; (refine (Lacks_ref M r n x 4 _ (HM.out.keep ((Upd.refl [] _).alloc _) (by simp)) h0 h1 (by omega) HQ0.out HQ7.out).mono ?_; rintro e w2 ⟨rfl, hU⟩; rw [HF.out, HK.out, HW.out]; unfold Flt.val; obtain ⟨h8, hu, hs2⟩ := hU.over_alloc; have HU := Lib.hid hu; have H8 := Lib.hid h8; have cf := cells_of h8; have ff := free_of h8; clear hU hu h8)))
      refine wp_draw 2 (fun w1 => Upd [] w w1 ∧ w1.heap[w.heap.size]? = some (.cells #[.int .i64 0, .int .u32 0, .int .u32 0, .int .i64 0] 32 (0, 0)) ∧ w1.heap[w2.heap.size]? = some (.cells #[.int .i64 F.k, .int .u32 F.pc, .int .u32 F.a, .int .i64 F.wt] 32 (0, 0))) (fun _ _ => False) (by kernel_rfl) (by kernel_rfl) ⟨(HU.out.alloc _).drew, heap_alloc_keep _ H8.out, heap_alloc_new _ _⟩ (fun _ _ _ h => h.elim) ?_
      simp only [List.take_succ_cons, List.take_zero, List.drop_succ_cons, List.drop_zero]
      repeat
        apply headW_val rfl rfl
        · intro K hK w1 hB1
          have cg := cells_of hB1.2.2
          have HB1 := Lib.hid hB1
          clear hB1
          go_wp2_with fail
          exact HB1.out
        · exact ⟨_, rfl⟩
      refine headW_nil (fun _ w1 hB1 => ?_)
      have cf := cells_of hB1.2.1
      have ff := free_of hB1.2.1
      have HB1 := Lib.hid hB1
      clear hB1
      go_wp2_with fail
      have hE := Upd_store4 (b := w.heap.size) HB1.out.1 (.inr (Nat.le_refl _)) (.int .i64 F.k) (.int .u32 F.pc) (.int .u32 F.a) (.int .i64 F.wt)
      have hF := store4 HB1.out.2.1 (.int .i64 F.k) (.int .u32 F.pc) (.int .u32 F.a) (.int .i64 F.wt)
      refine bodyPost_ret (v := .tuple #[.int .u32 0, F.val, .bool false]) (results_three' rfl (res_tmp 8 rfl) (res_flt 9 w.heap.size F rfl hF) (res_tmp 10 rfl)) rfl ⟨by rw [HV.out], hE⟩
    · have g2' : (rt == 2) = false := by simpa using g2
      have g4' : (rt == 4) = false := by simpa using g4
      have g2n : (rt != 2) = true := by simpa using g2
      have g4n : (rt != 4) = true := by simpa using g4
      clear g2 g4
      have HF := HF2
      clear HF2
      go_enter Try.func69, Try.ntmps69
      go_wp2_with (first | (go_at_call 97; refine (Size_ref b _).mono ?_; rintro e w2 ⟨rfl, rfl⟩; rw [HN.out]) | (go_at_call 37; (refine (Lacks_ref M r n x 1 _ (HM.out.keep ((Upd.refl [] _).alloc _) (by simp)) h0 h1 (by omega) HQ0.out HQ7.out).mono ?_; rintro e w2 ⟨rfl, hU⟩; rw [HF.out, HK.out, HW.out]; unfold Flt.val; obtain ⟨h8, hu, hs2⟩ := hU.over_alloc; have HU := Lib.hid hu; have H8 := Lib.hid h8; have cf := cells_of h8; have ff := free_of h8; clear hU hu h8)))
      refine wp_draw 2 (fun w1 => Upd [] w w1 ∧ w1.heap[w.heap.size]? = some (.cells #[.int .i64 0, .int .u32 0, .int .u32 0, .int .i64 0] 32 (0, 0)) ∧ w1.heap[w2.heap.size]? = some (.cells #[.int .i64 F.k, .int .u32 F.pc, .int .u32 F.a, .int .i64 F.wt] 32 (0, 0))) (fun _ _ => False) (by kernel_rfl) (by kernel_rfl) ⟨(HU.out.alloc _).drew, heap_alloc_keep _ H8.out, heap_alloc_new _ _⟩ (fun _ _ _ h => h.elim) ?_
      simp only [List.take_succ_cons, List.take_zero, List.drop_succ_cons, List.drop_zero]
      repeat
        apply headW_val rfl rfl
        · intro K hK w1 hB1
          have cg := cells_of hB1.2.2
          have HB1 := Lib.hid hB1
          clear hB1
          go_wp2_with fail
          exact HB1.out
        · exact ⟨_, rfl⟩
      refine headW_nil (fun _ w1 hB1 => ?_)
      have cf := cells_of hB1.2.1
      have ff := free_of hB1.2.1
      have HB1 := Lib.hid hB1
      clear hB1
      go_wp2_with fail
      have hE := Upd_store4 (b := w.heap.size) HB1.out.1 (.inr (Nat.le_refl _)) (.int .i64 F.k) (.int .u32 F.pc) (.int .u32 F.a) (.int .i64 F.wt)
      have hF := store4 HB1.out.2.1 (.int .i64 F.k) (.int .u32 F.pc) (.int .u32 F.a) (.int .i64 F.wt)
      refine bodyPost_ret (v := .tuple #[.int .u32 0, F.val, .bool false]) (results_three' rfl (res_tmp 8 rfl) (res_flt 9 w.heap.size F rfl hF) (res_tmp 10 rfl)) rfl ⟨by rw [HV.out], hE⟩
  · have HW := Lib.hid hk
    have hbad : M.bad x q n = none := by
      rw [Mem.readK, HNT.out, HQ.out] at hk
      cases h : M.bad x q n with
      | none => rfl
      | some i => rw [h] at hk; cases hk
    have HX := Lib.hid (can_all_lt x q n hbad)
    have HV := Lib.hid (show M.readV x b rt = M.get x n by rw [Mem.readV, HNT.out, HQ.out, hbad])
    have HZ := Lib.hid (show M.rdF x b rt = Flt.zero by rw [Mem.rdF, HNT.out, HQ.out, hbad])
    have HF2 := Lib.hid (HF.out.trans HZ.out)
    have hg := get_bound HM.out.ok x n
    have hp : (2 : Int) ^ (8 * n) ≤ 2 ^ 32 := by
      have := Nat.pow_le_pow_right (show 0 < 2 by decide) (show 8 * n ≤ 32 by omega)
      exact_mod_cast this
    have e32 : (2 : Int) ^ 32 = 4294967296 := by decide
    obtain ⟨g, hgd⟩ : ∃ g, M.get x n = g := ⟨_, rfl⟩
    rw [hgd] at hg
    have hg0 := hg.1
    have hg1 : g < 4294967296 := by omega
    have HG := Lib.hid hgd
    clear hk hbad HF hgd hg hp e32
    rcases h3 with ⟨rfl, rfl⟩ | ⟨rfl, rfl⟩ | ⟨g2, g4, rfl⟩
    · go_enter Try.func69, Try.ntmps69
      go_wp2_with (first | (go_at_call 97; refine (Size_ref b _).mono ?_; rintro e w2 ⟨rfl, rfl⟩; rw [HN.out]) | (go_at_call 37; (refine (Lacks_ref M r n x 2 _ (HM.out.keep ((Upd.refl [] _).alloc _) (by simp)) h0 h1 (by omega) HQ0.out HQ7.out).mono ?_; rintro e w2 ⟨rfl, hU⟩; rw [HF2.out, HK.out, HW.out]; unfold Flt.val Flt.zero; obtain ⟨h8, hu, hs2⟩ := hU.over_alloc; have HU := Lib.hid hu; have H8 := Lib.hid h8; have cf := cells_of h8; have ff := free_of h8; clear hU hu h8)) | (go_at_call 88; refine (Get_ref M r n x _ (HM.out.keep (HU.out.alloc _) (by simp)) h0 h1 (by omega) HX.out).mono ?_; rintro e w3 ⟨rfl, rfl⟩; rw [HG.out]))
      have hF := heap_alloc_keep (.cells #[.int .i64 0, .int .u32 0, .int .u32 0, .int .i64 0] 32) (store4 H8.out (.int .i64 0) (.int .u32 0) (.int .u32 0) (.int .i64 0))
      have hE := (Upd_store4 (b := w.heap.size) HU.out (.inr (Nat.le_refl _)) (.int .i64 0) (.int .u32 0) (.int .u32 0) (.int .i64 0)).alloc (.cells #[.int .i64 0, .int .u32 0, .int .u32 0, .int .i64 0] 32)
      refine bodyPost_ret (v := .tuple #[.int .u32 g, Flt.zero.val, .bool true]) (results_three' rfl (res_tmp 8 rfl) (res_flt 9 w.heap.size Flt.zero rfl hF) (res_tmp 10 rfl)) rfl ⟨by rw [HV.out, HG.out, HZ.out], hE⟩
    · go_enter Try.func69, Try.ntmps69
      go_wp2_with (first | (go_at_call 97; refine (Size_ref b _).mono ?_; rintro e w2 ⟨rfl, rfl⟩; rw [HN.out]) | (go_at_call 37; (refine (Lacks_ref M r n x 4 _ (HM.out.keep ((Upd.refl [] _).alloc _) (by simp)) h0 h1 (by omega) HQ0.out HQ7.out).mono ?_; rintro e w2 ⟨rfl, hU⟩; rw [HF2.out, HK.out, HW.out]; unfold Flt.val Flt.zero; obtain ⟨h8, hu, hs2⟩ := hU.over_alloc; have HU := Lib.hid hu; have H8 := Lib.hid h8; have cf := cells_of h8; have ff := free_of h8; clear hU hu h8)) | (go_at_call 88; refine (Get_ref M r n x _ (HM.out.keep (HU.out.alloc _) (by simp)) h0 h1 (by omega) HX.out).mono ?_; rintro e w3 ⟨rfl, rfl⟩; rw [HG.out]))
      have hF := heap_alloc_keep (.cells #[.int .i64 0, .int .u32 0, .int .u32 0, .int .i64 0] 32) (store4 H8.out (.int .i64 0) (.int .u32 0) (.int .u32 0) (.int .i64 0))
      have hE := (Upd_store4 (b := w.heap.size) HU.out (.inr (Nat.le_refl _)) (.int .i64 0) (.int .u32 0) (.int .u32 0) (.int .i64 0)).alloc (.cells #[.int .i64 0, .int .u32 0, .int .u32 0, .int .i64 0] 32)
      refine bodyPost_ret (v := .tuple #[.int .u32 g, Flt.zero.val, .bool true]) (results_three' rfl (res_tmp 8 rfl) (res_flt 9 w.heap.size Flt.zero rfl hF) (res_tmp 10 rfl)) rfl ⟨by rw [HV.out, HG.out, HZ.out], hE⟩
    · have g2' : (rt == 2) = false := by simpa using g2
      have g4' : (rt == 4) = false := by simpa using g4
      have g2n : (rt != 2) = true := by simpa using g2
      have g4n : (rt != 4) = true := by simpa using g4
      clear g2 g4
      go_enter Try.func69, Try.ntmps69
      go_wp2_with (first | (go_at_call 97; refine (Size_ref b _).mono ?_; rintro e w2 ⟨rfl, rfl⟩; rw [HN.out]) | (go_at_call 37; (refine (Lacks_ref M r n x 1 _ (HM.out.keep ((Upd.refl [] _).alloc _) (by simp)) h0 h1 (by omega) HQ0.out HQ7.out).mono ?_; rintro e w2 ⟨rfl, hU⟩; rw [HF2.out, HK.out, HW.out]; unfold Flt.val Flt.zero; obtain ⟨h8, hu, hs2⟩ := hU.over_alloc; have HU := Lib.hid hu; have H8 := Lib.hid h8; have cf := cells_of h8; have ff := free_of h8; clear hU hu h8)) | (go_at_call 88; refine (Get_ref M r n x _ (HM.out.keep (HU.out.alloc _) (by simp)) h0 h1 (by omega) HX.out).mono ?_; rintro e w3 ⟨rfl, rfl⟩; rw [HG.out]))
      have hF := heap_alloc_keep (.cells #[.int .i64 0, .int .u32 0, .int .u32 0, .int .i64 0] 32) (store4 H8.out (.int .i64 0) (.int .u32 0) (.int .u32 0) (.int .i64 0))
      have hE := (Upd_store4 (b := w.heap.size) HU.out (.inr (Nat.le_refl _)) (.int .i64 0) (.int .u32 0) (.int .u32 0) (.int .i64 0)).alloc (.cells #[.int .i64 0, .int .u32 0, .int .u32 0, .int .i64 0] 32)
      refine bodyPost_ret (v := .tuple #[.int .u32 g, Flt.zero.val, .bool true]) (results_three' rfl (res_tmp 8 rfl) (res_flt 9 w.heap.size Flt.zero rfl hF) (res_tmp 10 rfl)) rfl ⟨by rw [HV.out, HG.out, HZ.out], hE⟩

end Go.Proofs.Ytncafchgdgmeaaa
