/-
  Package operand: Read, Write, each by its contract.
-/
import Derived.Test.YtncafchgdgmeaaaStA
import Derived.Test.YtncafchgdgmeaaaPgE
import Derived.Test.YtncafchgdgmeaaaFlt
namespace Go.Proofs.Ytncafchgdgmeaaa
open Go Go.RowKit
set_option linter.unusedVariables false
set_option linter.unusedSimpArgs false

def wd (b : Int) : Int := if b = 1 then 1 else 4

def opV (M : Mem) (s : St) (o : Opd) (b : Int) : Int :=
  if o.k = 1 then (if b = 1 then s.reg8 o.r else s.R (o.r % 8).toNat) else if o.k = 2 then o.imm % 2 ^ (8 * wd b).toNat else if o.k = 3 then M.readV (s.place o) (wd b) 1 else 0
def opF (M : Mem) (s : St) (o : Opd) (b : Int) : Flt := if o.k = 3 then M.rdF (s.place o) (wd b) 1 else Flt.zero
def opK (M : Mem) (s : St) (o : Opd) (b : Int) : Bool := if o.k = 3 then M.readK (s.place o) (wd b) 1 else true

theorem place_range (s : St) (o : Opd) : 0 ≤ s.place o ∧ s.place o < 4294967296 := by
  unfold St.place; split <;> omega

structure RdB (s : St) (o : Opd) (w w1 : World) : Prop where
  s : w1.heap[w.heap.size]? = some (.cells s.cells 65 (0, 0))
  o : w1.heap[w.heap.size + 1]? = some (.cells #[.int .i64 o.k, .int .i64 o.r, .int .u32 o.imm, .int .i64 o.b, .int .i64 o.x, .int .u32 o.sc] 68 (0, 0))
  f : w1.heap[w.heap.size + 1 + 1]? = some (.cells #[.int .i64 0, .int .u32 0, .int .u32 0, .int .i64 0] 32 (0, 0))
  u : Upd [] w w1

theorem RdB.step {s : St} {o : Opd} {w w1 w2 : World} (h : RdB s o w w1) (u : Upd [] w1 w2) : RdB s o w w2 := ⟨u.get h.s (by simp), u.get h.o (by simp), u.get h.f (by simp), h.u.also u (by simp)⟩

theorem RdB.start (s : St) (o : Opd) (w : World) : RdB s o w (((w.alloc (.cells s.cells 65)).alloc (.cells #[.int .i64 o.k, .int .i64 o.r, .int .u32 o.imm, .int .i64 o.b, .int .i64 o.x, .int .u32 o.sc] 68)).alloc (.cells #[.int .i64 0, .int .u32 0, .int .u32 0, .int .i64 0] 32)) := by
  refine ⟨heap_alloc_keep _ (heap_alloc_keep _ (heap_alloc_new _ _)), heap_alloc_keep _ (heap_alloc2_new _ _ _), ?_, (((Upd.refl _ _).alloc _).alloc _).alloc _⟩
  have := heap_alloc2_new (w.alloc (.cells s.cells 65)) (.cells #[.int .i64 o.k, .int .i64 o.r, .int .u32 o.imm, .int .i64 o.b, .int .i64 o.x, .int .u32 o.sc] 68) (.cells #[.int .i64 0, .int .u32 0, .int .u32 0, .int .i64 0] 32)
  rw [World.size_alloc] at this
  exact this

theorem RdB.zero {s : St} {o : Opd} {w w1 : World} (h : RdB s o w w1) : RdB s o w ((((w1.setCell ⟨w.heap.size + 1 + 1, 0, none⟩ (.int .i64 0)).setCell ⟨w.heap.size + 1 + 1, 0 + 1, none⟩ (.int .u32 0)).setCell ⟨w.heap.size + 1 + 1, 0 + 2, none⟩ (.int .u32 0)).setCell ⟨w.heap.size + 1 + 1, 0 + 3, none⟩ (.int .i64 0)) :=
  have U := Upd_store4 (S := [w.heap.size + 1 + 1]) (Upd.refl _ w1) (.inl (by simp)) (.int .i64 0) (.int .u32 0) (.int .u32 0) (.int .i64 0)
  ⟨U.get h.s (by simp <;> omega), U.get h.o (by simp), store4 h.f _ _ _ _, Upd_store4 h.u (.inr (by omega)) _ _ _ _⟩

set_option maxRecDepth 100000 in
set_option maxHeartbeats 2000000 in
theorem opRead_reg1 (M : Mem) (a pb : Nat) (s : St) (o : Opd) (b : Int) (w : World) (hM : IsMem w a pb M) (hs : s.Ok) (ho : o.Ok) (h1 : o.k = 1) (hb : b = 1) :
    Calls Try.prog 31 #[.pointer (some ⟨a, 0, none⟩), .agg s.cells, o.val, .int .i64 b] w fun e w' => e = .returned (.tuple #[.int .u32 (opV M s o b), (opF M s o b).val, .bool (opK M s o b)]) ∧ Upd [] w w' := by
  have hmo : Try.prog.follows .mixedOrders = true := by kernel_rfl
  have HB := Lib.hid (RdB.start s o w)
  have HM := Lib.hid hM
  have HS := Lib.hid hs
  have HO := Lib.hid ho
  clear hM hs ho
  unfold Opd.val
  have e1 : (o.k == 1) = true := by simpa using h1
  subst hb
  have HV := Lib.hid (show opV M s o 1 = s.reg8 o.r by rw [opV, if_pos h1, if_pos rfl])
  have HF := Lib.hid (show opF M s o 1 = Flt.zero by rw [opF, if_neg (by omega)])
  have HK := Lib.hid (show opK M s o 1 = true by rw [opK, if_neg (by omega)])
  clear h1
  go_enter Try.func31, Try.ntmps31
  go_wp2_with (first | (refine wpList_load_state s w.heap.size rfl _ rfl rfl HB.out.s ?_) | (go_at_call 75; refine (Reg8_any s _ _ HS.out).mono ?_; rintro e w2 ⟨rfl, hu⟩; have H2 := Lib.hid (HB.out.step hu); have ff := free_of H2.out.f; have cf := cells_of H2.out.f; clear hu))
  refine bodyPost_ret (results_three' rfl (res_tmp _ rfl) (res_row 9 32 (w.heap.size + 1 + 1) _ _ rfl H2.out.zero.f Try.underlying32 rfl fault_info) (res_tmp _ rfl)) rfl ⟨?_, H2.out.zero.u⟩
  rw [HV.out, HF.out, HK.out]
  rfl

set_option maxRecDepth 100000 in
set_option maxHeartbeats 2000000 in
theorem opRead_reg4 (M : Mem) (a pb : Nat) (s : St) (o : Opd) (b : Int) (w : World) (hM : IsMem w a pb M) (hs : s.Ok) (ho : o.Ok) (h1 : o.k = 1) (hb : b ≠ 1) :
    Calls Try.prog 31 #[.pointer (some ⟨a, 0, none⟩), .agg s.cells, o.val, .int .i64 b] w fun e w' => e = .returned (.tuple #[.int .u32 (opV M s o b), (opF M s o b).val, .bool (opK M s o b)]) ∧ Upd [] w w' := by
  have hmo : Try.prog.follows .mixedOrders = true := by kernel_rfl
  have HB := Lib.hid (RdB.start s o w)
  have HM := Lib.hid hM
  have HS := Lib.hid hs
  have HO := Lib.hid ho
  clear hM hs ho
  unfold Opd.val
  have e1 : (o.k == 1) = true := by simpa using h1
  have hb1 : (b == 1) = false := by simpa using hb
  have hb2 : (b != 1) = true := by simpa using hb
  have HV := Lib.hid (show opV M s o b = s.R (o.r % 8).toNat by rw [opV, if_pos h1, if_neg hb])
  have HF := Lib.hid (show opF M s o b = Flt.zero by rw [opF, if_neg (by omega)])
  have HK := Lib.hid (show opK M s o b = true by rw [opK, if_neg (by omega)])
  have HR := Lib.hid (show s.reg (o.r % 8) = s.R (o.r % 8).toNat by rw [St.reg, if_neg (by omega)]; congr 2; omega)
  clear h1 hb
  go_enter Try.func31, Try.ntmps31
  go_wp2_with fail
  refine wp_draw 9 (RdB s o w) (fun _ _ => False) (by kernel_rfl) (by kernel_rfl) ⟨HB.out.s, HB.out.o, HB.out.f, HB.out.u.drew⟩ (fun _ _ _ h => h.elim) ?_
  simp only [List.take_succ_cons, List.take_zero, List.drop_succ_cons, List.drop_zero]
  iterate 9
    apply headW_val rfl rfl
    · intro K hK w1 hB1
      have co := cells_of hB1.o
      have ff := free_of hB1.f
      have cf := cells_of hB1.f
      have H1 := Lib.hid hB1
      clear hB1
      first
      | (refine wp_load_state s w.heap.size _ rfl rfl H1.out.s ?_; go_simp; exact hK _ H1.out)
      | (go_wp2_with (first | (go_at_call 74; refine (omod_any _ _).mono ?_; rintro e w2 ⟨rfl, rfl⟩) | (go_at_call 76; refine (register_any s _ _).mono ?_; rintro e w2 ⟨rfl, hu⟩; rw [HR.out]))
         first
         | exact hK _ H1.out
         | exact hK _ (H1.out.step hu)
         | exact H1.out
         | exact H1.out.step hu
         | exact H1.out.zero
         | exact hK _ H1.out.zero)
    · first | exact ⟨_, rfl⟩ | exact ⟨undef, rfl⟩
  refine headW_nil (fun _ w1 hB1 => ?_)
  have H2 := Lib.hid hB1
  clear hB1
  go_wp2_with fail
  refine bodyPost_ret (results_three' rfl (res_tmp _ rfl) (res_row 9 32 (w.heap.size + 1 + 1) _ _ rfl H2.out.f Try.underlying32 rfl fault_info) (res_tmp _ rfl)) rfl ⟨?_, H2.out.u⟩
  rw [HV.out, HF.out, HK.out]
  rfl

set_option maxRecDepth 100000 in
set_option maxHeartbeats 2000000 in
theorem opRead_imm1 (M : Mem) (a pb : Nat) (s : St) (o : Opd) (b : Int) (w : World) (hM : IsMem w a pb M) (hs : s.Ok) (ho : o.Ok) (h1 : o.k ≠ 1) (h2 : o.k = 2) (hb : b = 1) :
    Calls Try.prog 31 #[.pointer (some ⟨a, 0, none⟩), .agg s.cells, o.val, .int .i64 b] w fun e w' => e = .returned (.tuple #[.int .u32 (opV M s o b), (opF M s o b).val, .bool (opK M s o b)]) ∧ Upd [] w w' := by
  have hmo : Try.prog.follows .mixedOrders = true := by kernel_rfl
  have HB := Lib.hid (RdB.start s o w)
  have HM := Lib.hid hM
  have HS := Lib.hid hs
  have HO := Lib.hid ho
  clear hM hs ho
  unfold Opd.val
  have e1 : (o.k == 1) = false := by simpa using h1
  have e2 : (o.k == 2) = true := by simpa using h2
  have HF := Lib.hid (show opF M s o b = Flt.zero by rw [opF, if_neg (by omega)])
  have HK := Lib.hid (show opK M s o b = true by rw [opK, if_neg (by omega)])
  subst hb
  have HV := Lib.hid (show opV M s o 1 = o.imm % 256 by rw [opV, if_neg h1, if_pos h2]; simp [wd])
  clear h1 h2
  go_enter Try.func31, Try.ntmps31
  go_wp2_with (go_at_call 77; refine (Field_any o.imm 0 8 _ HO.out.imm.1 HO.out.imm.2 (by decide) (by decide)).mono ?_; rintro e w2 ⟨rfl, rfl⟩)
  refine bodyPost_ret (results_three' rfl (res_tmp _ rfl) (res_row 9 32 (w.heap.size + 1 + 1) _ _ rfl HB.out.f Try.underlying32 rfl fault_info) (res_tmp _ rfl)) rfl ⟨?_, HB.out.u⟩
  rw [HV.out, HF.out, HK.out]
  rfl

set_option maxRecDepth 100000 in
set_option maxHeartbeats 2000000 in
theorem opRead_imm4 (M : Mem) (a pb : Nat) (s : St) (o : Opd) (b : Int) (w : World) (hM : IsMem w a pb M) (hs : s.Ok) (ho : o.Ok) (h1 : o.k ≠ 1) (h2 : o.k = 2) (hb : b ≠ 1) :
    Calls Try.prog 31 #[.pointer (some ⟨a, 0, none⟩), .agg s.cells, o.val, .int .i64 b] w fun e w' => e = .returned (.tuple #[.int .u32 (opV M s o b), (opF M s o b).val, .bool (opK M s o b)]) ∧ Upd [] w w' := by
  have hmo : Try.prog.follows .mixedOrders = true := by kernel_rfl
  have HB := Lib.hid (RdB.start s o w)
  have HM := Lib.hid hM
  have HS := Lib.hid hs
  have HO := Lib.hid ho
  clear hM hs ho
  unfold Opd.val
  have e1 : (o.k == 1) = false := by simpa using h1
  have e2 : (o.k == 2) = true := by simpa using h2
  have HF := Lib.hid (show opF M s o b = Flt.zero by rw [opF, if_neg (by omega)])
  have HK := Lib.hid (show opK M s o b = true by rw [opK, if_neg (by omega)])
  have hb1 : (b == 1) = false := by simpa using hb
  have hb2 : (b != 1) = true := by simpa using hb
  have HV := Lib.hid (show opV M s o b = o.imm % 4294967296 by rw [opV, if_neg h1, if_pos h2, wd, if_neg hb]; simp)
  clear h1 h2 hb
  go_enter Try.func31, Try.ntmps31
  go_wp2_with (go_at_call 77; refine (Field_any o.imm 0 32 _ HO.out.imm.1 HO.out.imm.2 (by decide) (by decide)).mono ?_; rintro e w2 ⟨rfl, rfl⟩)
  refine bodyPost_ret (results_three' rfl (res_tmp _ rfl) (res_row 9 32 (w.heap.size + 1 + 1) _ _ rfl HB.out.f Try.underlying32 rfl fault_info) (res_tmp _ rfl)) rfl ⟨?_, HB.out.u⟩
  rw [HV.out, HF.out, HK.out]
  rfl

set_option maxRecDepth 100000 in
set_option maxHeartbeats 2000000 in
theorem opRead_mem1 (M : Mem) (a pb : Nat) (s : St) (o : Opd) (b : Int) (w : World) (hM : IsMem w a pb M) (hs : s.Ok) (ho : o.Ok) (h3 : o.k = 3) (hb : b = 1) :
    Calls Try.prog 31 #[.pointer (some ⟨a, 0, none⟩), .agg s.cells, o.val, .int .i64 b] w fun e w' => e = .returned (.tuple #[.int .u32 (opV M s o b), (opF M s o b).val, .bool (opK M s o b)]) ∧ Upd [] w w' := by
  have hmo : Try.prog.follows .mixedOrders = true := by kernel_rfl
  have HB := Lib.hid (RdB.start s o w)
  have HM := Lib.hid hM
  have HS := Lib.hid hs
  have HO := Lib.hid ho
  clear hM hs ho
  unfold Opd.val
  subst hb
  have e1 : (o.k == 1) = false := by rw [h3]; rfl
  have e2 : (o.k == 2) = false := by rw [h3]; rfl
  have e3 : (o.k == 3) = true := by rw [h3]; rfl
  have HF := Lib.hid (show opF M s o 1 = M.rdF (s.place o) 1 1 by rw [opF, if_pos h3]; rfl)
  have HK := Lib.hid (show opK M s o 1 = M.readK (s.place o) 1 1 by rw [opK, if_pos h3]; rfl)
  have HV := Lib.hid (show opV M s o 1 = M.readV (s.place o) 1 1 by rw [opV, if_neg (by omega), if_neg (by omega), if_pos h3]; rfl)
  have hp := place_range s o
  clear h3
  go_enter Try.func31, Try.ntmps31
  go_wp2_with (first | (refine wpList_load_state s w.heap.size rfl _ rfl rfl HB.out.s ?_) | (go_at_call 32; refine (Place_any s o _).mono ?_; rintro e w2 ⟨rfl, hu⟩; have H2 := Lib.hid (HB.out.step hu); clear hu) | (go_at_call 20; refine (Read_any M a pb (s.place o) 1 1 _ (HM.out.keep H2.out.u (by simp) (by simp)) hp.1 hp.2).mono ?_; rintro e w3 ⟨rfl, hu⟩; rw [Mem.readF_val]; unfold Flt.val; have H3 := Lib.hid (H2.out.step hu); clear hu H2; have ff := free_of H3.out.f; have cf := cells_of H3.out.f))
  refine bodyPost_ret (results_three' rfl (res_tmp _ rfl) (res_row 9 32 (w.heap.size + 1 + 1) _ _ rfl (store4 H3.out.f _ _ _ _) Try.underlying32 rfl fault_info) (res_tmp _ rfl)) rfl ⟨?_, Upd_store4 H3.out.u (.inr (by omega)) _ _ _ _⟩
  rw [HV.out, HF.out, HK.out]
  rfl

set_option maxRecDepth 100000 in
set_option maxHeartbeats 2000000 in
theorem opRead_mem4 (M : Mem) (a pb : Nat) (s : St) (o : Opd) (b : Int) (w : World) (hM : IsMem w a pb M) (hs : s.Ok) (ho : o.Ok) (h3 : o.k = 3) (hb : b ≠ 1) :
    Calls Try.prog 31 #[.pointer (some ⟨a, 0, none⟩), .agg s.cells, o.val, .int .i64 b] w fun e w' => e = .returned (.tuple #[.int .u32 (opV M s o b), (opF M s o b).val, .bool (opK M s o b)]) ∧ Upd [] w w' := by
  have hmo : Try.prog.follows .mixedOrders = true := by kernel_rfl
  have HB := Lib.hid (RdB.start s o w)
  have HM := Lib.hid hM
  have HS := Lib.hid hs
  have HO := Lib.hid ho
  clear hM hs ho
  unfold Opd.val
  have hb1 : (b == 1) = false := by simpa using hb
  have hb2 : (b != 1) = true := by simpa using hb
  have e1 : (o.k == 1) = false := by rw [h3]; rfl
  have e2 : (o.k == 2) = false := by rw [h3]; rfl
  have e3 : (o.k == 3) = true := by rw [h3]; rfl
  have HF := Lib.hid (show opF M s o b = M.rdF (s.place o) 4 1 by rw [opF, if_pos h3]; rw [wd, if_neg hb])
  have HK := Lib.hid (show opK M s o b = M.readK (s.place o) 4 1 by rw [opK, if_pos h3]; rw [wd, if_neg hb])
  have HV := Lib.hid (show opV M s o b = M.readV (s.place o) 4 1 by rw [opV, if_neg (by omega), if_neg (by omega), if_pos h3]; rw [wd, if_neg hb])
  have hp := place_range s o
  clear h3 hb
  go_enter Try.func31, Try.ntmps31
  go_wp2_with (first | (refine wpList_load_state s w.heap.size rfl _ rfl rfl HB.out.s ?_) | (go_at_call 32; refine (Place_any s o _).mono ?_; rintro e w2 ⟨rfl, hu⟩; have H2 := Lib.hid (HB.out.step hu); clear hu) | (go_at_call 20; refine (Read_any M a pb (s.place o) 4 1 _ (HM.out.keep H2.out.u (by simp) (by simp)) hp.1 hp.2).mono ?_; rintro e w3 ⟨rfl, hu⟩; rw [Mem.readF_val]; unfold Flt.val; have H3 := Lib.hid (H2.out.step hu); clear hu H2; have ff := free_of H3.out.f; have cf := cells_of H3.out.f))
  refine bodyPost_ret (results_three' rfl (res_tmp _ rfl) (res_row 9 32 (w.heap.size + 1 + 1) _ _ rfl (store4 H3.out.f _ _ _ _) Try.underlying32 rfl fault_info) (res_tmp _ rfl)) rfl ⟨?_, Upd_store4 H3.out.u (.inr (by omega)) _ _ _ _⟩
  rw [HV.out, HF.out, HK.out]
  rfl

set_option maxRecDepth 100000 in
set_option maxHeartbeats 2000000 in
theorem opRead_none (M : Mem) (a pb : Nat) (s : St) (o : Opd) (b : Int) (w : World) (hM : IsMem w a pb M) (hs : s.Ok) (ho : o.Ok) (h1 : o.k ≠ 1) (h2 : o.k ≠ 2) (h3 : o.k ≠ 3) :
    Calls Try.prog 31 #[.pointer (some ⟨a, 0, none⟩), .agg s.cells, o.val, .int .i64 b] w fun e w' => e = .returned (.tuple #[.int .u32 (opV M s o b), (opF M s o b).val, .bool (opK M s o b)]) ∧ Upd [] w w' := by
  have hmo : Try.prog.follows .mixedOrders = true := by kernel_rfl
  have HB := Lib.hid (RdB.start s o w)
  have HM := Lib.hid hM
  have HS := Lib.hid hs
  have HO := Lib.hid ho
  clear hM hs ho
  unfold Opd.val
  have e1 : (o.k == 1) = false := by simpa using h1
  have e2 : (o.k == 2) = false := by simpa using h2
  have e3 : (o.k == 3) = false := by simpa using h3
  have HV := Lib.hid (show opV M s o b = 0 by rw [opV, if_neg h1, if_neg h2, if_neg h3])
  have HF := Lib.hid (show opF M s o b = Flt.zero by rw [opF, if_neg h3])
  have HK := Lib.hid (show opK M s o b = true by rw [opK, if_neg h3])
  clear h1 h2 h3
  go_enter Try.func31, Try.ntmps31
  go_wp2_with fail
  all_goals
    refine bodyPost_ret (results_three' rfl (res_tmp _ rfl) (res_row 9 32 (w.heap.size + 1 + 1) _ _ rfl HB.out.f Try.underlying32 rfl fault_info) (res_tmp _ rfl)) rfl ⟨?_, HB.out.u⟩
    rw [HV.out, HF.out, HK.out]
    rfl

theorem opRead_any (M : Mem) (a pb : Nat) (s : St) (o : Opd) (b : Int) (w : World) (hM : IsMem w a pb M) (hs : s.Ok) (ho : o.Ok) :
    Calls Try.prog 31 #[.pointer (some ⟨a, 0, none⟩), .agg s.cells, o.val, .int .i64 b] w fun e w' => e = .returned (.tuple #[.int .u32 (opV M s o b), (opF M s o b).val, .bool (opK M s o b)]) ∧ Upd [] w w' := by
  by_cases h1 : o.k = 1
  · by_cases hb : b = 1
    · exact opRead_reg1 M a pb s o b w hM hs ho h1 hb
    · exact opRead_reg4 M a pb s o b w hM hs ho h1 hb
  · by_cases h2 : o.k = 2
    · by_cases hb : b = 1
      · exact opRead_imm1 M a pb s o b w hM hs ho h1 h2 hb
      · exact opRead_imm4 M a pb s o b w hM hs ho h1 h2 hb
    · by_cases h3 : o.k = 3
      · by_cases hb : b = 1
        · exact opRead_mem1 M a pb s o b w hM hs ho h3 hb
        · exact opRead_mem4 M a pb s o b w hM hs ho h3 hb
      · exact opRead_none M a pb s o b w hM hs ho h1 h2 h3

end Go.Proofs.Ytncafchgdgmeaaa
