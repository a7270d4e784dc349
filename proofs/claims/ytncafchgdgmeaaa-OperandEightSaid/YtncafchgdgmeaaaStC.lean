/-
  Package operand: Write, by its contract.
-/
import Derived.Test.YtncafchgdgmeaaaStB
import Derived.Test.YtncafchgdgmeaaaDraw2
namespace Go.Proofs.Ytncafchgdgmeaaa
open Go Go.RowKit
set_option linter.unusedVariables false
set_option linter.unusedSimpArgs false

def opS (s : St) (o : Opd) (b v : Int) : St := if o.k = 1 then (if b = 1 then s.setReg8 o.r v else s.setR (o.r % 8).toNat v) else s
def opWF (M : Mem) (s : St) (o : Opd) (b : Int) : Flt := if o.k = 3 then M.wrF (s.place o) (wd b) else Flt.zero
def opWK (M : Mem) (s : St) (o : Opd) (b : Int) : Bool := if o.k = 3 then M.writeK (s.place o) (wd b) else true
def opM (M : Mem) (s : St) (o : Opd) (b v : Int) : Mem := if o.k = 3 then M.writeM (s.place o) (wd b) v else M

structure WrB (S : List Nat) (s : St) (o : Opd) (X : St) (w w1 : World) : Prop where
  s : w1.heap[w.heap.size]? = some (.cells s.cells 65 (0, 0))
  o : w1.heap[w.heap.size + 1]? = some (.cells #[.int .i64 o.k, .int .i64 o.r, .int .u32 o.imm, .int .i64 o.b, .int .i64 o.x, .int .u32 o.sc] 68 (0, 0))
  r : w1.heap[w.heap.size + 1 + 1]? = some (.cells X.cells 65 (0, 0))
  f : w1.heap[w.heap.size + 1 + 1 + 1]? = some (.cells #[.int .i64 0, .int .u32 0, .int .u32 0, .int .i64 0] 32 (0, 0))
  u : Upd S w w1

theorem WrB.step {s X : St} {o : Opd} {w w1 w2 : World} {S S' T : List Nat} (h : WrB T s o X w w1) (u : Upd S w1 w2) (hS : ∀ x, x ∈ S → x < w.heap.size) (hu : Upd S' w w2) : WrB S' s o X w w2 :=
  ⟨u.get h.s (fun hh => by have := hS _ hh; omega), u.get h.o (fun hh => by have := hS _ hh; omega), u.get h.r (fun hh => by have := hS _ hh; omega), u.get h.f (fun hh => by have := hS _ hh; omega), hu⟩

theorem WrB.start (s : St) (o : Opd) (w : World) : WrB [] s o St.zero w ((((w.alloc (.cells s.cells 65)).alloc (.cells #[.int .i64 o.k, .int .i64 o.r, .int .u32 o.imm, .int .i64 o.b, .int .i64 o.x, .int .u32 o.sc] 68)).alloc (.cells #[.int .u32 0, .int .u32 0, .int .u32 0, .int .u32 0, .int .u32 0, .int .u32 0, .int .u32 0, .int .u32 0, .int .u32 0, .bool false, .bool false, .bool false, .bool false, .bool false, .bool false, .bool false, .int .u64 0] 65)).alloc (.cells #[.int .i64 0, .int .u32 0, .int .u32 0, .int .i64 0] 32)) := by
  have h2 := heap_alloc2_new (w.alloc (.cells s.cells 65)) (.cells #[.int .i64 o.k, .int .i64 o.r, .int .u32 o.imm, .int .i64 o.b, .int .i64 o.x, .int .u32 o.sc] 68) (.cells #[.int .u32 0, .int .u32 0, .int .u32 0, .int .u32 0, .int .u32 0, .int .u32 0, .int .u32 0, .int .u32 0, .int .u32 0, .bool false, .bool false, .bool false, .bool false, .bool false, .bool false, .bool false, .int .u64 0] 65)
  have h3 := heap_alloc2_new ((w.alloc (.cells s.cells 65)).alloc (.cells #[.int .i64 o.k, .int .i64 o.r, .int .u32 o.imm, .int .i64 o.b, .int .i64 o.x, .int .u32 o.sc] 68)) (.cells #[.int .u32 0, .int .u32 0, .int .u32 0, .int .u32 0, .int .u32 0, .int .u32 0, .int .u32 0, .int .u32 0, .int .u32 0, .bool false, .bool false, .bool false, .bool false, .bool false, .bool false, .bool false, .int .u64 0] 65) (.cells #[.int .i64 0, .int .u32 0, .int .u32 0, .int .i64 0] 32)
  rw [World.size_alloc] at h2
  rw [World.size_alloc, World.size_alloc] at h3
  exact ⟨heap_alloc_keep _ (heap_alloc_keep _ (heap_alloc_keep _ (heap_alloc_new _ _))), heap_alloc_keep _ (heap_alloc_keep _ (heap_alloc2_new _ _ _)), heap_alloc_keep _ h2, h3, ((((Upd.refl _ _).alloc _).alloc _).alloc _).alloc _⟩

theorem WrB.setr {s X : St} {o : Opd} {w w1 : World} {S : List Nat} (h : WrB S s o X w w1) (Y : St) : WrB S s o Y w (w1.setCells (w.heap.size + 1 + 1) 0 Y.cells.toList) :=
  have U : Upd [w.heap.size + 1 + 1] w1 (w1.setCells (w.heap.size + 1 + 1) 0 Y.cells.toList) := (Upd.refl _ _).setCells (by simp) _ _
  ⟨U.get h.s (by simp <;> omega), U.get h.o (by simp <;> omega), heap_store_state Y h.r rfl, U.get h.f (by simp <;> omega), h.u.setCells (.inr (by omega)) _ _⟩

theorem WrB.zero {s X : St} {o : Opd} {w w1 : World} {S : List Nat} (h : WrB S s o X w w1) : WrB S s o X w ((((w1.setCell ⟨w.heap.size + 1 + 1 + 1, 0, none⟩ (.int .i64 0)).setCell ⟨w.heap.size + 1 + 1 + 1, 0 + 1, none⟩ (.int .u32 0)).setCell ⟨w.heap.size + 1 + 1 + 1, 0 + 2, none⟩ (.int .u32 0)).setCell ⟨w.heap.size + 1 + 1 + 1, 0 + 3, none⟩ (.int .i64 0)) :=
  have U := Upd_store4 (S := [w.heap.size + 1 + 1 + 1]) (Upd.refl _ w1) (.inl (by simp)) (.int .i64 0) (.int .u32 0) (.int .u32 0) (.int .i64 0)
  ⟨U.get h.s (by simp <;> omega), U.get h.o (by simp <;> omega), U.get h.r (by simp <;> omega), store4 h.f _ _ _ _, Upd_store4 h.u (.inr (by omega)) _ _ _ _⟩

theorem WrB.reg {s X : St} {o : Opd} {w w1 : World} {S : List Nat} (h : WrB S s o X w w1) (i : Nat) (v : Int) (hi : i < 8) : WrB S (s.setR i v) o X w (w1.setCell ⟨w.heap.size, i, none⟩ (.int .u32 v)) :=
  have U : Upd [w.heap.size] w1 (w1.setCell ⟨w.heap.size, i, none⟩ (.int .u32 v)) := (Upd.refl _ _).setCell (by simp) _
  ⟨by rw [← St.cells_setR s i v hi]; exact heap_set_same h.s i _, U.get h.o (by simp <;> omega), U.get h.r (by simp <;> omega), U.get h.f (by simp <;> omega), h.u.setCell (.inr (by simp)) _⟩

/-- Where the region of the last results stands: which of its stores are done. -/
structure WrD (S : List Nat) (s : St) (o : Opd) (F : Flt) (gb : Nat) (w : World) (d : Nat → Bool) (w1 : World) : Prop where
  sb : w1.heap[w.heap.size]? = some (.cells s.cells 65 (0, 0))
  g : w1.heap[gb]? = some (.cells #[.int .i64 F.k, .int .u32 F.pc, .int .u32 F.a, .int .i64 F.wt] 32 (0, 0))
  r : ∃ X : St, w1.heap[w.heap.size + 1 + 1]? = some (.cells X.cells 65 (0, 0)) ∧ (d 3 = true → X = s)
  f : ∃ Y : Flt, w1.heap[w.heap.size + 1 + 1 + 1]? = some (.cells #[.int .i64 Y.k, .int .u32 Y.pc, .int .u32 Y.a, .int .i64 Y.wt] 32 (0, 0)) ∧ (d 4 = true → Y = F)
  gb : w.heap.size + 1 + 1 + 1 < gb
  u : Upd S w w1

theorem WrD.skip {S : List Nat} {s : St} {o : Opd} {F : Flt} {gb : Nat} {w w1 : World} {d : Nat → Bool} {i : Nat} (h : WrD S s o F gb w d w1) (h3 : i ≠ 3) (h4 : i ≠ 4) : WrD S s o F gb w (updD d i) w1 := by
  have e3 : updD d i 3 = d 3 := by simp only [updD]; rw [if_neg (fun e => h3 e.symm)]
  have e4 : updD d i 4 = d 4 := by simp only [updD]; rw [if_neg (fun e => h4 e.symm)]
  exact ⟨h.sb, h.g, by rw [e3]; exact h.r, by rw [e4]; exact h.f, h.gb, h.u⟩

theorem WrD.st3 {S : List Nat} {s : St} {o : Opd} {F : Flt} {gb : Nat} {w w1 : World} {d : Nat → Bool} (h : WrD S s o F gb w d w1) : WrD S s o F gb w (updD d 3) (w1.setCells (w.heap.size + 1 + 1) 0 s.cells.toList) := by
  have U : Upd [w.heap.size + 1 + 1] w1 (w1.setCells (w.heap.size + 1 + 1) 0 s.cells.toList) := (Upd.refl _ _).setCells (by simp) _ _
  have hg := h.gb
  obtain ⟨X, hX, _⟩ := h.r
  obtain ⟨Y, hY, hd⟩ := h.f
  exact ⟨U.get h.sb (by simp <;> omega), U.get h.g (by simp <;> omega), ⟨s, heap_store_state s hX rfl, fun _ => rfl⟩, ⟨Y, U.get hY (by simp <;> omega), by simpa [updD] using hd⟩, hg, h.u.setCells (.inr (by omega)) _ _⟩

theorem WrD.st4 {S : List Nat} {s : St} {o : Opd} {F : Flt} {gb : Nat} {w w1 : World} {d : Nat → Bool} (h : WrD S s o F gb w d w1) : WrD S s o F gb w (updD d 4)
    ((((w1.setCell ⟨w.heap.size + 1 + 1 + 1, 0, none⟩ (.int .i64 F.k)).setCell ⟨w.heap.size + 1 + 1 + 1, 0 + 1, none⟩ (.int .u32 F.pc)).setCell ⟨w.heap.size + 1 + 1 + 1, 0 + 2, none⟩ (.int .u32 F.a)).setCell ⟨w.heap.size + 1 + 1 + 1, 0 + 3, none⟩ (.int .i64 F.wt)) := by
  have U := Upd_store4 (S := [w.heap.size + 1 + 1 + 1]) (b := w.heap.size + 1 + 1 + 1) (Upd.refl _ w1) (.inl (by simp)) (.int .i64 F.k) (.int .u32 F.pc) (.int .u32 F.a) (.int .i64 F.wt)
  have hg := h.gb
  obtain ⟨X, hX, hd⟩ := h.r
  obtain ⟨Y, hY, _⟩ := h.f
  exact ⟨U.get h.sb (by simp <;> omega), U.get h.g (by simp <;> omega), ⟨X, U.get hX (by simp <;> omega), by simpa [updD] using hd⟩, ⟨F, store4 hY _ _ _ _, fun _ => rfl⟩, hg, Upd_store4 h.u (.inr (by omega)) _ _ _ _⟩

theorem wp_store_state' {op : Oper} {a : Act} {w : World} {K : Act → World → Prop} {Q : Exit → Act → World → Prop} (s : St) (b : Nat) (x y : Operand) (ho : op.op = .store 65 x y) (hx : a.eval x = .pointer (some ⟨b, 0, none⟩)) (hy : a.eval y = .agg s.cells)
    {c : Array Value} (hb : w.heap[b]? = some (.cells c 65 (0, 0))) (hc : c.size = 17) (hK : ∀ w', w.setCells b 0 s.cells.toList = w' → K (a.put op.dst undef) w') : op.wp Try.prog a w K Q := by
  refine wp_store_mid 65 x y ho b 0 s.cells hx hy (there_of hb 0 s.cells.size (by rw [hc, St.size]; exact Nat.le_refl _)) (by rw [St.size]; exact state_info) s.one ?_
  exact hK _ rfl

set_option maxRecDepth 100000 in
set_option maxHeartbeats 2000000 in
theorem opWrite_reg1 (M : Mem) (a pb : Nat) (s : St) (o : Opd) (b v : Int) (w : World) (hM : IsMem w a pb M) (hs : s.Ok) (ho : o.Ok) (hv0 : 0 ≤ v) (hv1 : v < 4294967296) (h1 : o.k = 1) (hb : b = 1) :
    Calls Try.prog 30 #[.pointer (some ⟨a, 0, none⟩), .agg s.cells, o.val, .int .i64 b, .int .u32 v] w fun e w' => e = .returned (.tuple #[.agg (opS s o b v).cells, (opWF M s o b).val, .bool (opWK M s o b)]) ∧ IsMem w' a pb (opM M s o b v) ∧ Upd [pb] w w' := by
  have hmo : Try.prog.follows .mixedOrders = true := by kernel_rfl
  have HB := Lib.hid (WrB.start s o w)
  have HM := Lib.hid hM
  have HS := Lib.hid hs
  have HO := Lib.hid ho
  clear hM hs ho
  unfold Opd.val
  have e1 : (o.k == 1) = true := by simpa using h1
  subst hb
  have HV := Lib.hid (show opS s o 1 v = s.setReg8 o.r v by rw [opS, if_pos h1, if_pos rfl])
  have HF := Lib.hid (show opWF M s o 1 = Flt.zero by rw [opWF, if_neg (by omega)])
  have HK := Lib.hid (show opWK M s o 1 = true by rw [opWK, if_neg (by omega)])
  have HW := Lib.hid (show opM M s o 1 v = M by rw [opM, if_neg (by omega)])
  clear h1
  go_enter Try.func30, Try.ntmps30
  go_wp2_with (first | (refine wpList_load_state s w.heap.size rfl _ rfl rfl HB.out.s ?_) | (go_at_call 73; refine (SetReg8_any s _ _ _ HS.out hv0 hv1).mono ?_; rintro e w2 ⟨rfl, hu⟩; have H2 := Lib.hid (HB.out.step hu (by simp) (HB.out.u.also hu (by simp))); clear hu) | (refine wpList_store_state' (s.setReg8 o.r v) (w.heap.size + 1 + 1) rfl _ _ rfl rfl rfl H2.out.r rfl ?_; intro w3 hw3; have H3 := Lib.hid (hw3 ▸ H2.out.setr (s.setReg8 o.r v)); clear hw3; have ff := free_of H3.out.f; have cf := cells_of H3.out.f))
  refine bodyPost_ret (results_three' rfl (res_row 10 65 (w.heap.size + 1 + 1) _ _ rfl H3.out.zero.r Try.underlying65 rfl (by rw [St.size]; exact state_info)) (res_row 11 32 (w.heap.size + 1 + 1 + 1) _ _ rfl H3.out.zero.f Try.underlying32 rfl fault_info) (res_tmp _ rfl)) rfl ⟨?_, by rw [HW.out]; exact HM.out.keep H3.out.zero.u (by simp) (by simp), H3.out.zero.u.mono (by simp)⟩
  rw [HV.out, HF.out, HK.out]
  rfl

set_option maxRecDepth 100000 in
set_option maxHeartbeats 2000000 in
theorem opWrite_reg4 (M : Mem) (a pb : Nat) (s : St) (o : Opd) (b v : Int) (w : World) (hM : IsMem w a pb M) (hs : s.Ok) (ho : o.Ok) (hv0 : 0 ≤ v) (hv1 : v < 4294967296) (h1 : o.k = 1) (hb : b ≠ 1) :
    Calls Try.prog 30 #[.pointer (some ⟨a, 0, none⟩), .agg s.cells, o.val, .int .i64 b, .int .u32 v] w fun e w' => e = .returned (.tuple #[.agg (opS s o b v).cells, (opWF M s o b).val, .bool (opWK M s o b)]) ∧ IsMem w' a pb (opM M s o b v) ∧ Upd [pb] w w' := by
  have hmo : Try.prog.follows .mixedOrders = true := by kernel_rfl
  have HB := Lib.hid (WrB.start s o w)
  have HM := Lib.hid hM
  have HS := Lib.hid hs
  have HO := Lib.hid ho
  clear hM hs ho
  unfold Opd.val
  have e1 : (o.k == 1) = true := by simpa using h1
  have hb1 : (b == 1) = false := by simpa using hb
  have hb2 : (b != 1) = true := by simpa using hb
  have HV := Lib.hid (show opS s o b v = s.setR (o.r % 8).toNat v by rw [opS, if_pos h1, if_neg hb])
  have HF := Lib.hid (show opWF M s o b = Flt.zero by rw [opWF, if_neg (by omega)])
  have HK := Lib.hid (show opWK M s o b = true by rw [opWK, if_neg (by omega)])
  have HW := Lib.hid (show opM M s o b v = M by rw [opM, if_neg (by omega)])
  have hr0 : 0 ≤ o.r % 8 := by omega
  have hr1 : o.r % 8 < 8 := by omega
  have hrn : (o.r % 8).toNat < 8 := by omega
  have hcR := s.cR _ hrn
  clear h1 hb
  go_enter Try.func30, Try.ntmps30
  go_wp2_with (first | (go_at_call 74; refine (omod_any _ _).mono ?_; rintro e w2 ⟨rfl, hw⟩; have H2 := Lib.hid (show WrB [] s o St.zero w w2 by rw [← hw]; exact HB.out); clear hw; have fs := free_of H2.out.s; have cs := cells_of H2.out.s) | (refine wpList_load_state (s.setR (o.r % 8).toNat v) w.heap.size rfl _ rfl rfl (H2.out.reg _ v hrn).s ?_) | (refine wpList_store_state' (s.setR (o.r % 8).toNat v) (w.heap.size + 1 + 1) rfl _ _ rfl rfl rfl (H2.out.reg _ v hrn).r rfl ?_; intro w3 hw3; have H3 := Lib.hid (hw3 ▸ (H2.out.reg _ v hrn).setr (s.setR (o.r % 8).toNat v)); clear hw3 fs cs; have ff := free_of H3.out.f; have cf := cells_of H3.out.f))
  refine bodyPost_ret (results_three' rfl (res_row 10 65 (w.heap.size + 1 + 1) _ _ rfl H3.out.zero.r Try.underlying65 rfl (by rw [St.size]; exact state_info)) (res_row 11 32 (w.heap.size + 1 + 1 + 1) _ _ rfl H3.out.zero.f Try.underlying32 rfl fault_info) (res_tmp _ rfl)) rfl ⟨?_, by rw [HW.out]; exact HM.out.keep H3.out.zero.u (by simp) (by simp), H3.out.zero.u.mono (by simp)⟩
  rw [HV.out, HF.out, HK.out]
  rfl


set_option maxRecDepth 100000 in
set_option maxHeartbeats 2000000 in
theorem opWrite_none (M : Mem) (a pb : Nat) (s : St) (o : Opd) (b v : Int) (w : World) (hM : IsMem w a pb M) (hs : s.Ok) (ho : o.Ok) (hv0 : 0 ≤ v) (hv1 : v < 4294967296) (h1 : o.k ≠ 1) (h3 : o.k ≠ 3) :
    Calls Try.prog 30 #[.pointer (some ⟨a, 0, none⟩), .agg s.cells, o.val, .int .i64 b, .int .u32 v] w fun e w' => e = .returned (.tuple #[.agg (opS s o b v).cells, (opWF M s o b).val, .bool (opWK M s o b)]) ∧ IsMem w' a pb (opM M s o b v) ∧ Upd [pb] w w' := by
  have hmo : Try.prog.follows .mixedOrders = true := by kernel_rfl
  have HB := Lib.hid (WrB.start s o w)
  have HM := Lib.hid hM
  have HS := Lib.hid hs
  have HO := Lib.hid ho
  clear hM hs ho
  unfold Opd.val
  have e1 : (o.k == 1) = false := by simpa using h1
  have e3 : (o.k == 3) = false := by simpa using h3
  have HV := Lib.hid (show opS s o b v = s by rw [opS, if_neg h1])
  have HF := Lib.hid (show opWF M s o b = Flt.zero by rw [opWF, if_neg h3])
  have HK := Lib.hid (show opWK M s o b = true by rw [opWK, if_neg h3])
  have HW := Lib.hid (show opM M s o b v = M by rw [opM, if_neg h3])
  clear h1 h3
  go_enter Try.func30, Try.ntmps30
  go_wp2_with (first | (refine wpList_load_state s w.heap.size rfl _ rfl rfl HB.out.s ?_) | (refine wpList_store_state' s (w.heap.size + 1 + 1) rfl _ _ rfl rfl rfl HB.out.r rfl ?_; intro w3 hw3; have H3 := Lib.hid (hw3 ▸ HB.out.setr s); clear hw3; have ff := free_of H3.out.f; have cf := cells_of H3.out.f))
  all_goals
    refine bodyPost_ret (results_three' rfl (res_row 10 65 (w.heap.size + 1 + 1) _ _ rfl H3.out.zero.r Try.underlying65 rfl (by rw [St.size]; exact state_info)) (res_row 11 32 (w.heap.size + 1 + 1 + 1) _ _ rfl H3.out.zero.f Try.underlying32 rfl fault_info) (res_tmp _ rfl)) rfl ⟨?_, by rw [HW.out]; exact HM.out.keep H3.out.zero.u (by simp) (by simp), H3.out.zero.u.mono (by simp)⟩
    rw [HV.out, HF.out, HK.out]
    rfl

set_option maxRecDepth 100000 in
set_option maxHeartbeats 2000000 in
theorem opWrite_mem1 (M : Mem) (a pb : Nat) (s : St) (o : Opd) (b v : Int) (w : World) (hM : IsMem w a pb M) (hs : s.Ok) (ho : o.Ok) (hv0 : 0 ≤ v) (hv1 : v < 4294967296) (h3 : o.k = 3) (hb : b = 1) :
    Calls Try.prog 30 #[.pointer (some ⟨a, 0, none⟩), .agg s.cells, o.val, .int .i64 b, .int .u32 v] w fun e w' => e = .returned (.tuple #[.agg (opS s o b v).cells, (opWF M s o b).val, .bool (opWK M s o b)]) ∧ IsMem w' a pb (opM M s o b v) ∧ Upd [pb] w w' := by
  have hmo : Try.prog.follows .mixedOrders = true := by kernel_rfl
  have HB := Lib.hid (WrB.start s o w)
  have HM := Lib.hid hM
  have HS := Lib.hid hs
  have HO := Lib.hid ho
  clear hM hs ho
  unfold Opd.val
  subst hb
  have e1 : (o.k == 1) = false := by rw [h3]; rfl
  have e3 : (o.k == 3) = true := by rw [h3]; rfl
  have HV := Lib.hid (show opS s o 1 v = s by rw [opS, if_neg (by omega)])
  have HF := Lib.hid (show opWF M s o 1 = M.wrF (s.place o) 1 by rw [opWF, if_pos h3]; rfl)
  have HK := Lib.hid (show opWK M s o 1 = M.writeK (s.place o) 1 by rw [opWK, if_pos h3]; rfl)
  have HW := Lib.hid (show opM M s o 1 v = M.writeM (s.place o) 1 v by rw [opM, if_pos h3]; rfl)
  have hp := place_range s o
  clear h3
  go_enter Try.func30, Try.ntmps30
  go_wp2_with (first | (refine wpList_load_state s w.heap.size rfl _ rfl rfl HB.out.s ?_) | (go_at_call 32; refine (Place_any s o _).mono ?_; rintro e w2 ⟨rfl, hu⟩; have H2 := Lib.hid (HB.out.step hu (by simp) (HB.out.u.also hu (by simp))); clear hu) | (go_at_call 18; refine (Write_any M a pb (s.place o) 1 v _ (HM.out.keep H2.out.u (by simp) (by simp)) hp.1 hp.2 hv0 hv1).mono ?_; rintro e w3 ⟨rfl, hM3, hu⟩; rw [Mem.writeF_val]; unfold Flt.val; have H3 := Lib.hid (H2.out.step (S' := [pb]) hu (by have := HM.out.pl; simp; omega) ((H2.out.u.mono (by simp)).also hu (by simp))); have HM3 := Lib.hid hM3; clear hu hM3 H2))
  have hgb : w.heap.size + 1 + 1 + 1 < w3.heap.size := lt_of_heap H3.out.f
  have hB0 : WrD [pb] s o (M.wrF (s.place o) 1) w3.heap.size w (fun _ => false) (w3.alloc (.cells #[.int .i64 (M.wrF (s.place o) 1).k, .int .u32 (M.wrF (s.place o) 1).pc, .int .u32 (M.wrF (s.place o) 1).a, .int .i64 (M.wrF (s.place o) 1).wt] 32)).drew := ⟨heap_alloc_keep _ H3.out.s, heap_alloc_new _ _, ⟨_, heap_alloc_keep _ H3.out.r, by simp⟩, ⟨Flt.zero, heap_alloc_keep _ H3.out.f, by simp⟩, hgb, (H3.out.u.alloc _).drew⟩
  refine wp_drawD 6 (fun d w1 => WrD [pb] s o (M.wrF (s.place o) 1) w3.heap.size w d w1 ∧ IsMem w1 a pb (M.writeM (s.place o) 1 v)) (fun _ _ => False) (by kernel_rfl) (by kernel_rfl) ⟨hB0, HM3.out.keep (((Upd.refl [] _).alloc _).drew) (by simp) (by simp)⟩ (fun _ _ _ h => h.elim) ?_
  clear hB0
  simp only [List.take_succ_cons, List.take_zero, List.drop_succ_cons, List.drop_zero]
  apply headD_val rfl rfl
  · intro d K hd hK w1 hB1
    refine wp_load_state s w.heap.size _ rfl rfl hB1.1.sb ?_
    go_simp
    first
    | exact hK _ ⟨hB1.1.skip (by decide) (by decide), hB1.2⟩
    | exact ⟨hB1.1.skip (by decide) (by decide), hB1.2⟩
  · exact ⟨_, rfl⟩
  apply headD_val rfl rfl
  · intro d K hd hK w1 hB1
    have cg := cells_of hB1.1.g
    have HB1 := Lib.hid hB1
    clear hB1
    go_wp2_with fail
    first
    | exact hK _ ⟨HB1.out.1.skip (by decide) (by decide), HB1.out.2⟩
    | exact ⟨HB1.out.1.skip (by decide) (by decide), HB1.out.2⟩
  · exact ⟨_, rfl⟩
  apply headD_val rfl rfl
  · intro d K hd hK w1 hB1
    have HB1 := Lib.hid hB1
    clear hB1
    go_wp2_with fail
    first
    | exact hK _ ⟨HB1.out.1.skip (by decide) (by decide), HB1.out.2⟩
    | exact ⟨HB1.out.1.skip (by decide) (by decide), HB1.out.2⟩
  · exact ⟨_, rfl⟩
  apply headD_val rfl rfl
  · intro d K hd hK w1 hB1
    obtain ⟨X, hX, _⟩ := hB1.1.r
    refine wp_store_state' s (w.heap.size + 1 + 1) _ _ rfl rfl rfl hX rfl ?_
    intro w' hw'
    exact hK _ ⟨hw' ▸ hB1.1.st3, hw' ▸ hB1.2.keep (S := [w.heap.size + 1 + 1]) ((Upd.refl _ _).setCells (by simp) _ _) (by have := HM.out.al; simp; omega) (by have := HM.out.pl; simp; omega)⟩
  · exact ⟨undef, rfl⟩
  apply headD_val rfl rfl
  · intro d K hd hK w1 hB1
    obtain ⟨Y, hY, _⟩ := hB1.1.f
    have cf := cells_of hY
    have ff := free_of hY
    have HB1 := Lib.hid hB1
    clear hB1 hY
    go_wp2_with fail
    have hq := HB1.out.2.keep (S := [w.heap.size + 1 + 1 + 1]) (Upd_store4 (b := w.heap.size + 1 + 1 + 1) (Upd.refl _ w1) (.inl (by simp)) (.int .i64 (M.wrF (s.place o) 1).k) (.int .u32 (M.wrF (s.place o) 1).pc) (.int .u32 (M.wrF (s.place o) 1).a) (.int .i64 (M.wrF (s.place o) 1).wt)) (by have := HM.out.al; simp; omega) (by have := HM.out.pl; simp; omega)
    first
    | exact hK _ ⟨HB1.out.1.st4, hq⟩
    | exact ⟨HB1.out.1.st4, hq⟩
  · exact ⟨undef, rfl⟩
  apply headD_val rfl rfl
  · intro d K hd hK w1 hB1
    have HB1 := Lib.hid hB1
    clear hB1
    go_wp2_with fail
    first
    | exact hK _ ⟨HB1.out.1.skip (by decide) (by decide), HB1.out.2⟩
    | exact ⟨HB1.out.1.skip (by decide) (by decide), HB1.out.2⟩
  · exact ⟨_, rfl⟩
  refine headD_nil (fun _ w1 d hd hB1 => ?_)
  have HB1 := Lib.hid hB1
  obtain ⟨X, hX, hXs⟩ := hB1.1.r
  obtain ⟨Y, hY, hYF⟩ := hB1.1.f
  rw [hXs (hd 3 (by decide))] at hX
  rw [hYF (hd 4 (by decide))] at hY
  have HX := Lib.hid hX
  have HY := Lib.hid hY
  clear hB1 hX hY hXs hYF hd
  go_wp2_with fail
  refine bodyPost_ret (results_three' rfl (res_row 10 65 (w.heap.size + 1 + 1) _ _ rfl HX.out Try.underlying65 rfl (by rw [St.size]; exact state_info)) (res_row 11 32 (w.heap.size + 1 + 1 + 1) _ _ rfl HY.out Try.underlying32 rfl fault_info) (res_tmp _ rfl)) rfl ⟨?_, by rw [HW.out]; exact HB1.out.2, HB1.out.1.u⟩
  rw [HV.out, HF.out, HK.out]
  rfl

set_option maxRecDepth 100000 in
set_option maxHeartbeats 2000000 in
theorem opWrite_mem4 (M : Mem) (a pb : Nat) (s : St) (o : Opd) (b v : Int) (w : World) (hM : IsMem w a pb M) (hs : s.Ok) (ho : o.Ok) (hv0 : 0 ≤ v) (hv1 : v < 4294967296) (h3 : o.k = 3) (hb : b ≠ 1) :
    Calls Try.prog 30 #[.pointer (some ⟨a, 0, none⟩), .agg s.cells, o.val, .int .i64 b, .int .u32 v] w fun e w' => e = .returned (.tuple #[.agg (opS s o b v).cells, (opWF M s o b).val, .bool (opWK M s o b)]) ∧ IsMem w' a pb (opM M s o b v) ∧ Upd [pb] w w' := by
  have hmo : Try.prog.follows .mixedOrders = true := by kernel_rfl
  have HB := Lib.hid (WrB.start s o w)
  have HM := Lib.hid hM
  have HS := Lib.hid hs
  have HO := Lib.hid ho
  clear hM hs ho
  unfold Opd.val
  have hb1 : (b == 1) = false := by simpa using hb
  have hb2 : (b != 1) = true := by simpa using hb
  have e1 : (o.k == 1) = false := by rw [h3]; rfl
  have e3 : (o.k == 3) = true := by rw [h3]; rfl
  have HV := Lib.hid (show opS s o b v = s by rw [opS, if_neg (by omega)])
  have HF := Lib.hid (show opWF M s o b = M.wrF (s.place o) 4 by rw [opWF, if_pos h3]; rw [wd, if_neg hb])
  have HK := Lib.hid (show opWK M s o b = M.writeK (s.place o) 4 by rw [opWK, if_pos h3]; rw [wd, if_neg hb])
  have HW := Lib.hid (show opM M s o b v = M.writeM (s.place o) 4 v by rw [opM, if_pos h3]; rw [wd, if_neg hb])
  have hp := place_range s o
  clear h3 hb
  go_enter Try.func30, Try.ntmps30
  go_wp2_with (first | (refine wpList_load_state s w.heap.size rfl _ rfl rfl HB.out.s ?_) | (go_at_call 32; refine (Place_any s o _).mono ?_; rintro e w2 ⟨rfl, hu⟩; have H2 := Lib.hid (HB.out.step hu (by simp) (HB.out.u.also hu (by simp))); clear hu) | (go_at_call 18; refine (Write_any M a pb (s.place o) 4 v _ (HM.out.keep H2.out.u (by simp) (by simp)) hp.1 hp.2 hv0 hv1).mono ?_; rintro e w3 ⟨rfl, hM3, hu⟩; rw [Mem.writeF_val]; unfold Flt.val; have H3 := Lib.hid (H2.out.step (S' := [pb]) hu (by have := HM.out.pl; simp; omega) ((H2.out.u.mono (by simp)).also hu (by simp))); have HM3 := Lib.hid hM3; clear hu hM3 H2))
  have hgb : w.heap.size + 1 + 1 + 1 < w3.heap.size := lt_of_heap H3.out.f
  have hB0 : WrD [pb] s o (M.wrF (s.place o) 4) w3.heap.size w (fun _ => false) (w3.alloc (.cells #[.int .i64 (M.wrF (s.place o) 4).k, .int .u32 (M.wrF (s.place o) 4).pc, .int .u32 (M.wrF (s.place o) 4).a, .int .i64 (M.wrF (s.place o) 4).wt] 32)).drew := ⟨heap_alloc_keep _ H3.out.s, heap_alloc_new _ _, ⟨_, heap_alloc_keep _ H3.out.r, by simp⟩, ⟨Flt.zero, heap_alloc_keep _ H3.out.f, by simp⟩, hgb, (H3.out.u.alloc _).drew⟩
  refine wp_drawD 6 (fun d w1 => WrD [pb] s o (M.wrF (s.place o) 4) w3.heap.size w d w1 ∧ IsMem w1 a pb (M.writeM (s.place o) 4 v)) (fun _ _ => False) (by kernel_rfl) (by kernel_rfl) ⟨hB0, HM3.out.keep (((Upd.refl [] _).alloc _).drew) (by simp) (by simp)⟩ (fun _ _ _ h => h.elim) ?_
  clear hB0
  simp only [List.take_succ_cons, List.take_zero, List.drop_succ_cons, List.drop_zero]
  apply headD_val rfl rfl
  · intro d K hd hK w1 hB1
    refine wp_load_state s w.heap.size _ rfl rfl hB1.1.sb ?_
    go_simp
    first
    | exact hK _ ⟨hB1.1.skip (by decide) (by decide), hB1.2⟩
    | exact ⟨hB1.1.skip (by decide) (by decide), hB1.2⟩
  · exact ⟨_, rfl⟩
  apply headD_val rfl rfl
  · intro d K hd hK w1 hB1
    have cg := cells_of hB1.1.g
    have HB1 := Lib.hid hB1
    clear hB1
    go_wp2_with fail
    first
    | exact hK _ ⟨HB1.out.1.skip (by decide) (by decide), HB1.out.2⟩
    | exact ⟨HB1.out.1.skip (by decide) (by decide), HB1.out.2⟩
  · exact ⟨_, rfl⟩
  apply headD_val rfl rfl
  · intro d K hd hK w1 hB1
    have HB1 := Lib.hid hB1
    clear hB1
    go_wp2_with fail
    first
    | exact hK _ ⟨HB1.out.1.skip (by decide) (by decide), HB1.out.2⟩
    | exact ⟨HB1.out.1.skip (by decide) (by decide), HB1.out.2⟩
  · exact ⟨_, rfl⟩
  apply headD_val rfl rfl
  · intro d K hd hK w1 hB1
    obtain ⟨X, hX, _⟩ := hB1.1.r
    refine wp_store_state' s (w.heap.size + 1 + 1) _ _ rfl rfl rfl hX rfl ?_
    intro w' hw'
    exact hK _ ⟨hw' ▸ hB1.1.st3, hw' ▸ hB1.2.keep (S := [w.heap.size + 1 + 1]) ((Upd.refl _ _).setCells (by simp) _ _) (by have := HM.out.al; simp; omega) (by have := HM.out.pl; simp; omega)⟩
  · exact ⟨undef, rfl⟩
  apply headD_val rfl rfl
  · intro d K hd hK w1 hB1
    obtain ⟨Y, hY, _⟩ := hB1.1.f
    have cf := cells_of hY
    have ff := free_of hY
    have HB1 := Lib.hid hB1
    clear hB1 hY
    go_wp2_with fail
    have hq := HB1.out.2.keep (S := [w.heap.size + 1 + 1 + 1]) (Upd_store4 (b := w.heap.size + 1 + 1 + 1) (Upd.refl _ w1) (.inl (by simp)) (.int .i64 (M.wrF (s.place o) 4).k) (.int .u32 (M.wrF (s.place o) 4).pc) (.int .u32 (M.wrF (s.place o) 4).a) (.int .i64 (M.wrF (s.place o) 4).wt)) (by have := HM.out.al; simp; omega) (by have := HM.out.pl; simp; omega)
    first
    | exact hK _ ⟨HB1.out.1.st4, hq⟩
    | exact ⟨HB1.out.1.st4, hq⟩
  · exact ⟨undef, rfl⟩
  apply headD_val rfl rfl
  · intro d K hd hK w1 hB1
    have HB1 := Lib.hid hB1
    clear hB1
    go_wp2_with fail
    first
    | exact hK _ ⟨HB1.out.1.skip (by decide) (by decide), HB1.out.2⟩
    | exact ⟨HB1.out.1.skip (by decide) (by decide), HB1.out.2⟩
  · exact ⟨_, rfl⟩
  refine headD_nil (fun _ w1 d hd hB1 => ?_)
  have HB1 := Lib.hid hB1
  obtain ⟨X, hX, hXs⟩ := hB1.1.r
  obtain ⟨Y, hY, hYF⟩ := hB1.1.f
  rw [hXs (hd 3 (by decide))] at hX
  rw [hYF (hd 4 (by decide))] at hY
  have HX := Lib.hid hX
  have HY := Lib.hid hY
  clear hB1 hX hY hXs hYF hd
  go_wp2_with fail
  refine bodyPost_ret (results_three' rfl (res_row 10 65 (w.heap.size + 1 + 1) _ _ rfl HX.out Try.underlying65 rfl (by rw [St.size]; exact state_info)) (res_row 11 32 (w.heap.size + 1 + 1 + 1) _ _ rfl HY.out Try.underlying32 rfl fault_info) (res_tmp _ rfl)) rfl ⟨?_, by rw [HW.out]; exact HB1.out.2, HB1.out.1.u⟩
  rw [HV.out, HF.out, HK.out]
  rfl

theorem opWrite_any (M : Mem) (a pb : Nat) (s : St) (o : Opd) (b v : Int) (w : World) (hM : IsMem w a pb M) (hs : s.Ok) (ho : o.Ok) (hv0 : 0 ≤ v) (hv1 : v < 4294967296) :
    Calls Try.prog 30 #[.pointer (some ⟨a, 0, none⟩), .agg s.cells, o.val, .int .i64 b, .int .u32 v] w fun e w' => e = .returned (.tuple #[.agg (opS s o b v).cells, (opWF M s o b).val, .bool (opWK M s o b)]) ∧ IsMem w' a pb (opM M s o b v) ∧ Upd [pb] w w' := by
  by_cases h1 : o.k = 1
  · by_cases hb : b = 1
    · exact opWrite_reg1 M a pb s o b v w hM hs ho hv0 hv1 h1 hb
    · exact opWrite_reg4 M a pb s o b v w hM hs ho hv0 hv1 h1 hb
  · by_cases h3 : o.k = 3
    · by_cases hb : b = 1
      · exact opWrite_mem1 M a pb s o b v w hM hs ho hv0 hv1 h3 hb
      · exact opWrite_mem4 M a pb s o b v w hM hs ho hv0 hv1 h3 hb
    · exact opWrite_none M a pb s o b v w hM hs ho hv0 hv1 h1 h3

theorem opS_ok {s : St} (h : s.Ok) (o : Opd) (b : Int) {v : Int} (h0 : 0 ≤ v) (h1 : v < 4294967296) : (opS s o b v).Ok := by
  unfold opS
  split
  · split
    · exact St.setReg8_ok h _ _
    · exact St.setR_ok h _ h0 h1
  · exact h

end Go.Proofs.Ytncafchgdgmeaaa
