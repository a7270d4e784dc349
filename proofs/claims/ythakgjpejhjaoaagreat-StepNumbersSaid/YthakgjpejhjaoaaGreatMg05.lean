/-
  Parts of the proof (their names shortened by a program). No condition.
-/
import Derived.Test.YthakgjpejhjaoaaGreatMg01
import Derived.Test.YthakgjpejhjaoaaGreatMg04
import Derived.Test.YthakgjpejhjaoaaGreatMg02
import Derived.Outline
namespace Go.Proofs.YthakgjpejhjaoaaGreat
open Go Go.RowKit
set_option linter.unusedVariables false
set_option linter.unusedSimpArgs false
set_option maxRecDepth 100000
set_option maxHeartbeats 16000000
def opS (s : St) (o : Opd) (b v : Int) : St := if o.k = 1 then (if b = 1 then s.setReg8 o.r v else s.setR (o.r % 8).toNat v) else s
def Ydg (M : Mem) (s : St) (o : Opd) (b : Int) : Flt := if o.k = 3 then M.wrF (s.place o) (wd b) else Flt.zero
def Yde (M : Mem) (s : St) (o : Opd) (b : Int) : Bool := if o.k = 3 then M.writeK (s.place o) (wd b) else true
def opM (M : Mem) (s : St) (o : Opd) (b v : Int) : Mem := if o.k = 3 then M.writeM (s.place o) (wd b) v else M
structure WrB (S : List Nat) (s : St) (o : Opd) (X : St) (w w1 : World) : Prop where
 s : w1.heap[w.heap.size]? = some (.cells s.cells 28 (0, 0))
 o : w1.heap[w.heap.size + 1]? = some (.cells #[.int .i64 o.k, .int .i64 o.r, .int .u32 o.imm, .int .i64 o.b, .int .i64 o.x, .int .u32 o.sc] 39 (0, 0))
 r : w1.heap[w.heap.size + 1 + 1]? = some (.cells X.cells 28 (0, 0))
 f : w1.heap[w.heap.size + 1 + 1 + 1]? = some (.cells #[.int .i64 0, .int .u32 0, .int .u32 0, .int .i64 0] 35 (0, 0))
 u : Upd S w w1
theorem WrB.step {s X : St} {o : Opd} {w w1 w2 : World} {S S' T : List Nat} (h : WrB T s o X w w1) (u : Upd S w1 w2) (hS : ∀ x, x ∈ S → x < w.heap.size) (hu : Upd S' w w2) : WrB S' s o X w w2 :=
 ⟨u.get h.s (fun hh => by have := hS _ hh; omega), u.get h.o (fun hh => by have := hS _ hh; omega), u.get h.r (fun hh => by have := hS _ hh; omega), u.get h.f (fun hh => by have := hS _ hh; omega), hu⟩
theorem WrB.start (s : St) (o : Opd) (w : World) : WrB [] s o St.zero w ((((w.alloc (.cells s.cells 28)).alloc (.cells #[.int .i64 o.k, .int .i64 o.r, .int .u32 o.imm, .int .i64 o.b, .int .i64 o.x, .int .u32 o.sc] 39)).alloc (.cells #[.int .u32 0, .int .u32 0, .int .u32 0, .int .u32 0, .int .u32 0, .int .u32 0, .int .u32 0, .int .u32 0, .int .u32 0, .bool false, .bool false, .bool false, .bool false, .bool false, .bool false, .bool false, .int .u64 0] 28)).alloc (.cells #[.int .i64 0, .int .u32 0, .int .u32 0, .int .i64 0] 35)) := by
 have h2 := heap_alloc2_new (w.alloc (.cells s.cells 28)) (.cells #[.int .i64 o.k, .int .i64 o.r, .int .u32 o.imm, .int .i64 o.b, .int .i64 o.x, .int .u32 o.sc] 39) (.cells #[.int .u32 0, .int .u32 0, .int .u32 0, .int .u32 0, .int .u32 0, .int .u32 0, .int .u32 0, .int .u32 0, .int .u32 0, .bool false, .bool false, .bool false, .bool false, .bool false, .bool false, .bool false, .int .u64 0] 28)
 have h3 := heap_alloc2_new ((w.alloc (.cells s.cells 28)).alloc (.cells #[.int .i64 o.k, .int .i64 o.r, .int .u32 o.imm, .int .i64 o.b, .int .i64 o.x, .int .u32 o.sc] 39)) (.cells #[.int .u32 0, .int .u32 0, .int .u32 0, .int .u32 0, .int .u32 0, .int .u32 0, .int .u32 0, .int .u32 0, .int .u32 0, .bool false, .bool false, .bool false, .bool false, .bool false, .bool false, .bool false, .int .u64 0] 28) (.cells #[.int .i64 0, .int .u32 0, .int .u32 0, .int .i64 0] 35)
 rw [World.size_alloc] at h2
 rw [World.size_alloc, World.size_alloc] at h3
 exact ⟨Yj _ (Yj _ (Yj _ (heap_alloc_new _ _))), Yj _ (Yj _ (heap_alloc2_new _ _ _)), Yj _ h2, h3, ((((Upd.refl _ _).alloc _).alloc _).alloc _).alloc _⟩
theorem WrB.setr {s X : St} {o : Opd} {w w1 : World} {S : List Nat} (h : WrB S s o X w w1) (Y : St) : WrB S s o Y w (w1.setCells (w.heap.size + 1 + 1) 0 Y.cells.toList) :=
 have U : Upd [w.heap.size + 1 + 1] w1 (w1.setCells (w.heap.size + 1 + 1) 0 Y.cells.toList) := (Upd.refl _ _).setCells (by simp) _ _
 ⟨U.get h.s (by simp <;> omega), U.get h.o (by simp <;> omega), Ya5 Y h.r rfl, U.get h.f (by simp <;> omega), h.u.setCells (.inr (by omega)) _ _⟩
theorem WrB.zero {s X : St} {o : Opd} {w w1 : World} {S : List Nat} (h : WrB S s o X w w1) : WrB S s o X w ((((w1.setCell ⟨w.heap.size + 1 + 1 + 1, 0, none⟩ (.int .i64 0)).setCell ⟨w.heap.size + 1 + 1 + 1, 0 + 1, none⟩ (.int .u32 0)).setCell ⟨w.heap.size + 1 + 1 + 1, 0 + 2, none⟩ (.int .u32 0)).setCell ⟨w.heap.size + 1 + 1 + 1, 0 + 3, none⟩ (.int .i64 0)) :=
 have U := Yas (S := [w.heap.size + 1 + 1 + 1]) (Upd.refl _ w1) (.inl (by simp)) (.int .i64 0) (.int .u32 0) (.int .u32 0) (.int .i64 0)
 ⟨U.get h.s (by simp <;> omega), U.get h.o (by simp <;> omega), U.get h.r (by simp <;> omega), Ycy h.f _ _ _ _, Yas h.u (.inr (by omega)) _ _ _ _⟩
theorem WrB.reg {s X : St} {o : Opd} {w w1 : World} {S : List Nat} (h : WrB S s o X w w1) (i : Nat) (v : Int) (hi : i < 8) : WrB S (s.setR i v) o X w (w1.setCell ⟨w.heap.size, i, none⟩ (.int .u32 v)) :=
 have U : Upd [w.heap.size] w1 (w1.setCell ⟨w.heap.size, i, none⟩ (.int .u32 v)) := (Upd.refl _ _).setCell (by simp) _
 ⟨by rw [← St.cells_setR s i v hi]; exact Yi h.s i _, U.get h.o (by simp <;> omega), U.get h.r (by simp <;> omega), U.get h.f (by simp <;> omega), h.u.setCell (.inr (by simp)) _⟩
structure WrD (S : List Nat) (s : St) (o : Opd) (F : Flt) (gb : Nat) (w : World) (d : Nat → Bool) (w1 : World) : Prop where
 sb : w1.heap[w.heap.size]? = some (.cells s.cells 28 (0, 0))
 g : w1.heap[gb]? = some (.cells #[.int .i64 F.k, .int .u32 F.pc, .int .u32 F.a, .int .i64 F.wt] 35 (0, 0))
 r : ∃ X : St, w1.heap[w.heap.size + 1 + 1]? = some (.cells X.cells 28 (0, 0)) ∧ (d 3 = true → X = s)
 f : ∃ Y : Flt, w1.heap[w.heap.size + 1 + 1 + 1]? = some (.cells #[.int .i64 Y.k, .int .u32 Y.pc, .int .u32 Y.a, .int .i64 Y.wt] 35 (0, 0)) ∧ (d 4 = true → Y = F)
 gb : w.heap.size + 1 + 1 + 1 < gb
 u : Upd S w w1
theorem WrD.skip {S : List Nat} {s : St} {o : Opd} {F : Flt} {gb : Nat} {w w1 : World} {d : Nat → Bool} {i : Nat} (h : WrD S s o F gb w d w1) (h3 : i ≠ 3) (h4 : i ≠ 4) : WrD S s o F gb w (Yah d i) w1 := by
 have e3 : Yah d i 3 = d 3 := by simp only [Yah]; rw [if_neg (fun e => h3 e.symm)]
 have e4 : Yah d i 4 = d 4 := by simp only [Yah]; rw [if_neg (fun e => h4 e.symm)]
 exact ⟨h.sb, h.g, by rw [e3]; exact h.r, by rw [e4]; exact h.f, h.gb, h.u⟩
theorem WrD.st3 {S : List Nat} {s : St} {o : Opd} {F : Flt} {gb : Nat} {w w1 : World} {d : Nat → Bool} (h : WrD S s o F gb w d w1) : WrD S s o F gb w (Yah d 3) (w1.setCells (w.heap.size + 1 + 1) 0 s.cells.toList) := by
 have U : Upd [w.heap.size + 1 + 1] w1 (w1.setCells (w.heap.size + 1 + 1) 0 s.cells.toList) := (Upd.refl _ _).setCells (by simp) _ _
 have hg := h.gb
 obtain ⟨X, hX, _⟩ := h.r
 obtain ⟨Y, hY, hd⟩ := h.f
 exact ⟨U.get h.sb (by simp <;> omega), U.get h.g (by simp <;> omega), ⟨s, Ya5 s hX rfl, fun _ => rfl⟩, ⟨Y, U.get hY (by simp <;> omega), by simpa [Yah] using hd⟩, hg, h.u.setCells (.inr (by omega)) _ _⟩
theorem WrD.st4 {S : List Nat} {s : St} {o : Opd} {F : Flt} {gb : Nat} {w w1 : World} {d : Nat → Bool} (h : WrD S s o F gb w d w1) : WrD S s o F gb w (Yah d 4)
  ((((w1.setCell ⟨w.heap.size + 1 + 1 + 1, 0, none⟩ (.int .i64 F.k)).setCell ⟨w.heap.size + 1 + 1 + 1, 0 + 1, none⟩ (.int .u32 F.pc)).setCell ⟨w.heap.size + 1 + 1 + 1, 0 + 2, none⟩ (.int .u32 F.a)).setCell ⟨w.heap.size + 1 + 1 + 1, 0 + 3, none⟩ (.int .i64 F.wt)) := by
 have U := Yas (S := [w.heap.size + 1 + 1 + 1]) (b := w.heap.size + 1 + 1 + 1) (Upd.refl _ w1) (.inl (by simp)) (.int .i64 F.k) (.int .u32 F.pc) (.int .u32 F.a) (.int .i64 F.wt)
 have hg := h.gb
 obtain ⟨X, hX, hd⟩ := h.r
 obtain ⟨Y, hY, _⟩ := h.f
 exact ⟨U.get h.sb (by simp <;> omega), U.get h.g (by simp <;> omega), ⟨X, U.get hX (by simp <;> omega), by simpa [Yah] using hd⟩, ⟨F, Ycy hY _ _ _ _, fun _ => rfl⟩, hg, Yas h.u (.inr (by omega)) _ _ _ _⟩
theorem Yc1 {op : Oper} {a : Act} {w : World} {K : Act → World → Prop} {Q : Exit → Act → World → Prop} (s : St) (b : Nat) (x y : Operand) (ho : op.op = .store 28 x y) (hx : a.eval x = .pointer (some ⟨b, 0, none⟩)) (hy : a.eval y = .agg s.cells)
  {c : Array Value} (hb : w.heap[b]? = some (.cells c 28 (0, 0))) (hc : c.size = 17) (hK : ∀ w', w.setCells b 0 s.cells.toList = w' → K (a.put op.dst undef) w') : op.wp Tryz.prog a w K Q := by
 refine wp_store_mid 28 x y ho b 0 s.cells hx hy (Yd0 hb 0 s.cells.size (by rw [hc, St.size]; exact Nat.le_refl _)) (by rw [St.size]; exact Ya2) s.one ?_
 exact hK _ rfl
theorem Ykg (M : Mem) (a pb : Nat) (s : St) (o : Opd) (b v : Int) (w : World) (hM : Ym w a pb M) (hs : s.Ok) (ho : o.Ok) (hv0 : 0 ≤ v) (hv1 : v < 4294967296) (h1 : o.k = 1) (hb : b = 1) :
  Calls Tryz.prog 65 #[.pointer (some ⟨a, 0, none⟩), .agg s.cells, o.val, .int .i64 b, .int .u32 v] w fun e w' => e = .returned (.tuple #[.agg (opS s o b v).cells, (Ydg M s o b).val, .bool (Yde M s o b)]) ∧ Ym w' a pb (opM M s o b v) ∧ Upd [pb] w w' := by
 have hmo : Tryz.prog.follows .mixedOrders = true := by kernel_rfl
 have HB := Yh_ (WrB.start s o w)
 have HM := Yh_ hM
 have HS := Yh_ hs
 have HO := Yh_ ho
 clear hM hs ho
 unfold Opd.val
 have e1 : (o.k == 1) = true := by simpa using h1
 subst hb
 have HV := Yh_ (show opS s o 1 v = s.setReg8 o.r v by rw [opS, if_pos h1, if_pos rfl])
 have HF := Yh_ (show Ydg M s o 1 = Flt.zero by rw [Ydg, if_neg (by omega)])
 have HK := Yh_ (show Yde M s o 1 = true by rw [Yde, if_neg (by omega)])
 have HW := Yh_ (show opM M s o 1 v = M by rw [opM, if_neg (by omega)])
 clear h1
 go_enter Tryz.func65, Tryz.ntmps65
 go_wp2_with (first | (refine Yq s w.heap.size rfl _ rfl rfl HB.out.s ?_) | (go_at_call 105; refine (Yml s _ _ _ HS.out hv0 hv1).mono ?_; rintro e w2 ⟨rfl, hu⟩; have H2 := Yh_ (HB.out.step hu (by simp) (HB.out.u.also hu (by simp))); clear hu) | (refine Yy (s.setReg8 o.r v) (w.heap.size + 1 + 1) rfl _ _ rfl rfl rfl H2.out.r rfl ?_; intro w3 hw3; have H3 := Yh_ (hw3 ▸ H2.out.setr (s.setReg8 o.r v)); clear hw3; have ff := Yg H3.out.f; have cf := Ya H3.out.f))
 refine bodyPost_ret (Yaf rfl (Ybe 10 28 (w.heap.size + 1 + 1) _ _ rfl H3.out.zero.r Tryz.underlying28 rfl (by rw [St.size]; exact Ya2)) (Ybe 11 35 (w.heap.size + 1 + 1 + 1) _ _ rfl H3.out.zero.f Tryz.underlying35 rfl Ybr) (Yad _ rfl)) rfl ⟨?_, by rw [HW.out]; exact HM.out.keep H3.out.zero.u (by simp) (by simp), H3.out.zero.u.mono (by simp)⟩
 rw [HV.out, HF.out, HK.out]
 rfl
theorem Yj8 (M : Mem) (a pb : Nat) (s : St) (o : Opd) (b v : Int) (w : World) (hM : Ym w a pb M) (hs : s.Ok) (ho : o.Ok) (hv0 : 0 ≤ v) (hv1 : v < 4294967296) (h1 : o.k = 1) (hb : b ≠ 1) :
  Calls Tryz.prog 65 #[.pointer (some ⟨a, 0, none⟩), .agg s.cells, o.val, .int .i64 b, .int .u32 v] w fun e w' => e = .returned (.tuple #[.agg (opS s o b v).cells, (Ydg M s o b).val, .bool (Yde M s o b)]) ∧ Ym w' a pb (opM M s o b v) ∧ Upd [pb] w w' := by
 have hmo : Tryz.prog.follows .mixedOrders = true := by kernel_rfl
 have HB := Yh_ (WrB.start s o w)
 have HM := Yh_ hM
 have HS := Yh_ hs
 have HO := Yh_ ho
 clear hM hs ho
 unfold Opd.val
 have e1 : (o.k == 1) = true := by simpa using h1
 have hb1 : (b == 1) = false := by simpa using hb
 have hb2 : (b != 1) = true := by simpa using hb
 have HV := Yh_ (show opS s o b v = s.setR (o.r % 8).toNat v by rw [opS, if_pos h1, if_neg hb])
 have HF := Yh_ (show Ydg M s o b = Flt.zero by rw [Ydg, if_neg (by omega)])
 have HK := Yh_ (show Yde M s o b = true by rw [Yde, if_neg (by omega)])
 have HW := Yh_ (show opM M s o b v = M by rw [opM, if_neg (by omega)])
 have hr0 : 0 ≤ o.r % 8 := by omega
 have hr1 : o.r % 8 < 8 := by omega
 have hrn : (o.r % 8).toNat < 8 := by omega
 have hcR := s.cR _ hrn
 clear h1 hb
 go_enter Tryz.func65, Tryz.ntmps65
 go_wp2_with (first | (go_at_call 103; refine (Yhr _ _).mono ?_; rintro e w2 ⟨rfl, hw⟩; have H2 := Yh_ (show WrB [] s o St.zero w w2 by rw [← hw]; exact HB.out); clear hw; have fs := Yg H2.out.s; have cs := Ya H2.out.s) | (refine Yq (s.setR (o.r % 8).toNat v) w.heap.size rfl _ rfl rfl (H2.out.reg _ v hrn).s ?_) | (refine Yy (s.setR (o.r % 8).toNat v) (w.heap.size + 1 + 1) rfl _ _ rfl rfl rfl (H2.out.reg _ v hrn).r rfl ?_; intro w3 hw3; have H3 := Yh_ (hw3 ▸ (H2.out.reg _ v hrn).setr (s.setR (o.r % 8).toNat v)); clear hw3 fs cs; have ff := Yg H3.out.f; have cf := Ya H3.out.f))
 refine bodyPost_ret (Yaf rfl (Ybe 10 28 (w.heap.size + 1 + 1) _ _ rfl H3.out.zero.r Tryz.underlying28 rfl (by rw [St.size]; exact Ya2)) (Ybe 11 35 (w.heap.size + 1 + 1 + 1) _ _ rfl H3.out.zero.f Tryz.underlying35 rfl Ybr) (Yad _ rfl)) rfl ⟨?_, by rw [HW.out]; exact HM.out.keep H3.out.zero.u (by simp) (by simp), H3.out.zero.u.mono (by simp)⟩
 rw [HV.out, HF.out, HK.out]
 rfl
theorem Yj7 (M : Mem) (a pb : Nat) (s : St) (o : Opd) (b v : Int) (w : World) (hM : Ym w a pb M) (hs : s.Ok) (ho : o.Ok) (hv0 : 0 ≤ v) (hv1 : v < 4294967296) (h1 : o.k ≠ 1) (h3 : o.k ≠ 3) :
  Calls Tryz.prog 65 #[.pointer (some ⟨a, 0, none⟩), .agg s.cells, o.val, .int .i64 b, .int .u32 v] w fun e w' => e = .returned (.tuple #[.agg (opS s o b v).cells, (Ydg M s o b).val, .bool (Yde M s o b)]) ∧ Ym w' a pb (opM M s o b v) ∧ Upd [pb] w w' := by
 have hmo : Tryz.prog.follows .mixedOrders = true := by kernel_rfl
 have HB := Yh_ (WrB.start s o w)
 have HM := Yh_ hM
 have HS := Yh_ hs
 have HO := Yh_ ho
 clear hM hs ho
 unfold Opd.val
 have e1 : (o.k == 1) = false := by simpa using h1
 have e3 : (o.k == 3) = false := by simpa using h3
 have HV := Yh_ (show opS s o b v = s by rw [opS, if_neg h1])
 have HF := Yh_ (show Ydg M s o b = Flt.zero by rw [Ydg, if_neg h3])
 have HK := Yh_ (show Yde M s o b = true by rw [Yde, if_neg h3])
 have HW := Yh_ (show opM M s o b v = M by rw [opM, if_neg h3])
 clear h1 h3
 go_enter Tryz.func65, Tryz.ntmps65
 go_wp2_with (first | (refine Yq s w.heap.size rfl _ rfl rfl HB.out.s ?_) | (refine Yy s (w.heap.size + 1 + 1) rfl _ _ rfl rfl rfl HB.out.r rfl ?_; intro w3 hw3; have H3 := Yh_ (hw3 ▸ HB.out.setr s); clear hw3; have ff := Yg H3.out.f; have cf := Ya H3.out.f))
 all_goals
  refine bodyPost_ret (Yaf rfl (Ybe 10 28 (w.heap.size + 1 + 1) _ _ rfl H3.out.zero.r Tryz.underlying28 rfl (by rw [St.size]; exact Ya2)) (Ybe 11 35 (w.heap.size + 1 + 1 + 1) _ _ rfl H3.out.zero.f Tryz.underlying35 rfl Ybr) (Yad _ rfl)) rfl ⟨?_, by rw [HW.out]; exact HM.out.keep H3.out.zero.u (by simp) (by simp), H3.out.zero.u.mono (by simp)⟩
  rw [HV.out, HF.out, HK.out]
  rfl
theorem Ylh (M : Mem) (a pb : Nat) (s : St) (o : Opd) (b v : Int) (w : World) (hM : Ym w a pb M) (hs : s.Ok) (ho : o.Ok) (hv0 : 0 ≤ v) (hv1 : v < 4294967296) (h3 : o.k = 3) (hb : b = 1) :
  Calls Tryz.prog 65 #[.pointer (some ⟨a, 0, none⟩), .agg s.cells, o.val, .int .i64 b, .int .u32 v] w fun e w' => e = .returned (.tuple #[.agg (opS s o b v).cells, (Ydg M s o b).val, .bool (Yde M s o b)]) ∧ Ym w' a pb (opM M s o b v) ∧ Upd [pb] w w' := by
 have hmo : Tryz.prog.follows .mixedOrders = true := by kernel_rfl
 have HB := Yh_ (WrB.start s o w)
 have HM := Yh_ hM
 have HS := Yh_ hs
 have HO := Yh_ ho
 clear hM hs ho
 unfold Opd.val
 subst hb
 have e1 : (o.k == 1) = false := by rw [h3]; rfl
 have e3 : (o.k == 3) = true := by rw [h3]; rfl
 have HV := Yh_ (show opS s o 1 v = s by rw [opS, if_neg (by omega)])
 have HF := Yh_ (show Ydg M s o 1 = M.wrF (s.place o) 1 by rw [Ydg, if_pos h3]; rfl)
 have HK := Yh_ (show Yde M s o 1 = M.writeK (s.place o) 1 by rw [Yde, if_pos h3]; rfl)
 have HW := Yh_ (show opM M s o 1 v = M.writeM (s.place o) 1 v by rw [opM, if_pos h3]; rfl)
 have hp := Ycc s o
 clear h3
 go_enter Tryz.func65, Tryz.ntmps65
 go_wp2_with (first | (refine Yq s w.heap.size rfl _ rfl rfl HB.out.s ?_) | (go_at_call 71; refine (Ycj s o _).mono ?_; rintro e w2 ⟨rfl, hu⟩; have H2 := Yh_ (HB.out.step hu (by simp) (HB.out.u.also hu (by simp))); clear hu) | (go_at_call 16; refine (Yd5 M a pb (s.place o) 1 v _ (HM.out.keep H2.out.u (by simp) (by simp)) hp.1 hp.2 hv0 hv1).mono ?_; rintro e w3 ⟨rfl, hM3, hu⟩; rw [Mem.writeF_val]; unfold Flt.val; have H3 := Yh_ (H2.out.step (S' := [pb]) hu (by have := HM.out.pl; simp; omega) ((H2.out.u.mono (by simp)).also hu (by simp))); have HM3 := Yh_ hM3; clear hu hM3 H2))
 have hgb : w.heap.size + 1 + 1 + 1 < w3.heap.size := Yk H3.out.f
 have hB0 : WrD [pb] s o (M.wrF (s.place o) 1) w3.heap.size w (fun _ => false) (w3.alloc (.cells #[.int .i64 (M.wrF (s.place o) 1).k, .int .u32 (M.wrF (s.place o) 1).pc, .int .u32 (M.wrF (s.place o) 1).a, .int .i64 (M.wrF (s.place o) 1).wt] 35)).drew := ⟨Yj _ H3.out.s, heap_alloc_new _ _, ⟨_, Yj _ H3.out.r, by simp⟩, ⟨Flt.zero, Yj _ H3.out.f, by simp⟩, hgb, (H3.out.u.alloc _).drew⟩
 refine Yf9 6 (fun d w1 => WrD [pb] s o (M.wrF (s.place o) 1) w3.heap.size w d w1 ∧ Ym w1 a pb (M.writeM (s.place o) 1 v)) (fun _ _ => False) (by kernel_rfl) (by kernel_rfl) ⟨hB0, HM3.out.keep (((Upd.refl [] _).alloc _).drew) (by simp) (by simp)⟩ (fun _ _ _ h => h.elim) ?_
 clear hB0
 simp only [List.take_succ_cons, List.take_zero, List.drop_succ_cons, List.drop_zero]
 apply Yaw rfl rfl
 ·intro d K hd hK w1 hB1
  refine Ycf s w.heap.size _ rfl rfl hB1.1.sb ?_
  go_simp
  first
  |exact hK _ ⟨hB1.1.skip (by decide) (by decide), hB1.2⟩
  |exact ⟨hB1.1.skip (by decide) (by decide), hB1.2⟩
 ·exact ⟨_, rfl⟩
 apply Yaw rfl rfl
 ·intro d K hd hK w1 hB1
  have cg := Ya hB1.1.g
  have HB1 := Yh_ hB1
  clear hB1
  go_wp2_with fail
  first
  |exact hK _ ⟨HB1.out.1.skip (by decide) (by decide), HB1.out.2⟩
  |exact ⟨HB1.out.1.skip (by decide) (by decide), HB1.out.2⟩
 ·exact ⟨_, rfl⟩
 apply Yaw rfl rfl
 ·intro d K hd hK w1 hB1
  have HB1 := Yh_ hB1
  clear hB1
  go_wp2_with fail
  first
  |exact hK _ ⟨HB1.out.1.skip (by decide) (by decide), HB1.out.2⟩
  |exact ⟨HB1.out.1.skip (by decide) (by decide), HB1.out.2⟩
 ·exact ⟨_, rfl⟩
 apply Yaw rfl rfl
 ·intro d K hd hK w1 hB1
  obtain ⟨X, hX, _⟩ := hB1.1.r
  refine Yc1 s (w.heap.size + 1 + 1) _ _ rfl rfl rfl hX rfl ?_
  intro w' hw'
  exact hK _ ⟨hw' ▸ hB1.1.st3, hw' ▸ hB1.2.keep (S := [w.heap.size + 1 + 1]) ((Upd.refl _ _).setCells (by simp) _ _) (by have := HM.out.al; simp; omega) (by have := HM.out.pl; simp; omega)⟩
 ·exact ⟨undef, rfl⟩
 apply Yaw rfl rfl
 ·intro d K hd hK w1 hB1
  obtain ⟨Y, hY, _⟩ := hB1.1.f
  have cf := Ya hY
  have ff := Yg hY
  have HB1 := Yh_ hB1
  clear hB1 hY
  go_wp2_with fail
  have hq := HB1.out.2.keep (S := [w.heap.size + 1 + 1 + 1]) (Yas (b := w.heap.size + 1 + 1 + 1) (Upd.refl _ w1) (.inl (by simp)) (.int .i64 (M.wrF (s.place o) 1).k) (.int .u32 (M.wrF (s.place o) 1).pc) (.int .u32 (M.wrF (s.place o) 1).a) (.int .i64 (M.wrF (s.place o) 1).wt)) (by have := HM.out.al; simp; omega) (by have := HM.out.pl; simp; omega)
  first
  |exact hK _ ⟨HB1.out.1.st4, hq⟩
  |exact ⟨HB1.out.1.st4, hq⟩
 ·exact ⟨undef, rfl⟩
 apply Yaw rfl rfl
 ·intro d K hd hK w1 hB1
  have HB1 := Yh_ hB1
  clear hB1
  go_wp2_with fail
  first
  |exact hK _ ⟨HB1.out.1.skip (by decide) (by decide), HB1.out.2⟩
  |exact ⟨HB1.out.1.skip (by decide) (by decide), HB1.out.2⟩
 ·exact ⟨_, rfl⟩
 refine Yfx (fun _ w1 d hd hB1 => ?_)
 have HB1 := Yh_ hB1
 obtain ⟨X, hX, hXs⟩ := hB1.1.r
 obtain ⟨Y, hY, hYF⟩ := hB1.1.f
 rw [hXs (hd 3 (by decide))] at hX
 rw [hYF (hd 4 (by decide))] at hY
 have HX := Yh_ hX
 have HY := Yh_ hY
 clear hB1 hX hY hXs hYF hd
 go_wp2_with fail
 refine bodyPost_ret (Yaf rfl (Ybe 10 28 (w.heap.size + 1 + 1) _ _ rfl HX.out Tryz.underlying28 rfl (by rw [St.size]; exact Ya2)) (Ybe 11 35 (w.heap.size + 1 + 1 + 1) _ _ rfl HY.out Tryz.underlying35 rfl Ybr) (Yad _ rfl)) rfl ⟨?_, by rw [HW.out]; exact HB1.out.2, HB1.out.1.u⟩
 rw [HV.out, HF.out, HK.out]
 rfl
theorem Ykt (M : Mem) (a pb : Nat) (s : St) (o : Opd) (b v : Int) (w : World) (hM : Ym w a pb M) (hs : s.Ok) (ho : o.Ok) (hv0 : 0 ≤ v) (hv1 : v < 4294967296) (h3 : o.k = 3) (hb : b ≠ 1) :
  Calls Tryz.prog 65 #[.pointer (some ⟨a, 0, none⟩), .agg s.cells, o.val, .int .i64 b, .int .u32 v] w fun e w' => e = .returned (.tuple #[.agg (opS s o b v).cells, (Ydg M s o b).val, .bool (Yde M s o b)]) ∧ Ym w' a pb (opM M s o b v) ∧ Upd [pb] w w' := by
 have hmo : Tryz.prog.follows .mixedOrders = true := by kernel_rfl
 have HB := Yh_ (WrB.start s o w)
 have HM := Yh_ hM
 have HS := Yh_ hs
 have HO := Yh_ ho
 clear hM hs ho
 unfold Opd.val
 have hb1 : (b == 1) = false := by simpa using hb
 have hb2 : (b != 1) = true := by simpa using hb
 have e1 : (o.k == 1) = false := by rw [h3]; rfl
 have e3 : (o.k == 3) = true := by rw [h3]; rfl
 have HV := Yh_ (show opS s o b v = s by rw [opS, if_neg (by omega)])
 have HF := Yh_ (show Ydg M s o b = M.wrF (s.place o) 4 by rw [Ydg, if_pos h3]; rw [wd, if_neg hb])
 have HK := Yh_ (show Yde M s o b = M.writeK (s.place o) 4 by rw [Yde, if_pos h3]; rw [wd, if_neg hb])
 have HW := Yh_ (show opM M s o b v = M.writeM (s.place o) 4 v by rw [opM, if_pos h3]; rw [wd, if_neg hb])
 have hp := Ycc s o
 clear h3 hb
 go_enter Tryz.func65, Tryz.ntmps65
 go_wp2_with (first | (refine Yq s w.heap.size rfl _ rfl rfl HB.out.s ?_) | (go_at_call 71; refine (Ycj s o _).mono ?_; rintro e w2 ⟨rfl, hu⟩; have H2 := Yh_ (HB.out.step hu (by simp) (HB.out.u.also hu (by simp))); clear hu) | (go_at_call 16; refine (Yd5 M a pb (s.place o) 4 v _ (HM.out.keep H2.out.u (by simp) (by simp)) hp.1 hp.2 hv0 hv1).mono ?_; rintro e w3 ⟨rfl, hM3, hu⟩; rw [Mem.writeF_val]; unfold Flt.val; have H3 := Yh_ (H2.out.step (S' := [pb]) hu (by have := HM.out.pl; simp; omega) ((H2.out.u.mono (by simp)).also hu (by simp))); have HM3 := Yh_ hM3; clear hu hM3 H2))
 have hgb : w.heap.size + 1 + 1 + 1 < w3.heap.size := Yk H3.out.f
 have hB0 : WrD [pb] s o (M.wrF (s.place o) 4) w3.heap.size w (fun _ => false) (w3.alloc (.cells #[.int .i64 (M.wrF (s.place o) 4).k, .int .u32 (M.wrF (s.place o) 4).pc, .int .u32 (M.wrF (s.place o) 4).a, .int .i64 (M.wrF (s.place o) 4).wt] 35)).drew := ⟨Yj _ H3.out.s, heap_alloc_new _ _, ⟨_, Yj _ H3.out.r, by simp⟩, ⟨Flt.zero, Yj _ H3.out.f, by simp⟩, hgb, (H3.out.u.alloc _).drew⟩
 refine Yf9 6 (fun d w1 => WrD [pb] s o (M.wrF (s.place o) 4) w3.heap.size w d w1 ∧ Ym w1 a pb (M.writeM (s.place o) 4 v)) (fun _ _ => False) (by kernel_rfl) (by kernel_rfl) ⟨hB0, HM3.out.keep (((Upd.refl [] _).alloc _).drew) (by simp) (by simp)⟩ (fun _ _ _ h => h.elim) ?_
 clear hB0
 simp only [List.take_succ_cons, List.take_zero, List.drop_succ_cons, List.drop_zero]
 apply Yaw rfl rfl
 ·intro d K hd hK w1 hB1
  refine Ycf s w.heap.size _ rfl rfl hB1.1.sb ?_
  go_simp
  first
  |exact hK _ ⟨hB1.1.skip (by decide) (by decide), hB1.2⟩
  |exact ⟨hB1.1.skip (by decide) (by decide), hB1.2⟩
 ·exact ⟨_, rfl⟩
 apply Yaw rfl rfl
 ·intro d K hd hK w1 hB1
  have cg := Ya hB1.1.g
  have HB1 := Yh_ hB1
  clear hB1
  go_wp2_with fail
  first
  |exact hK _ ⟨HB1.out.1.skip (by decide) (by decide), HB1.out.2⟩
  |exact ⟨HB1.out.1.skip (by decide) (by decide), HB1.out.2⟩
 ·exact ⟨_, rfl⟩
 apply Yaw rfl rfl
 ·intro d K hd hK w1 hB1
  have HB1 := Yh_ hB1
  clear hB1
  go_wp2_with fail
  first
  |exact hK _ ⟨HB1.out.1.skip (by decide) (by decide), HB1.out.2⟩
  |exact ⟨HB1.out.1.skip (by decide) (by decide), HB1.out.2⟩
 ·exact ⟨_, rfl⟩
 apply Yaw rfl rfl
 ·intro d K hd hK w1 hB1
  obtain ⟨X, hX, _⟩ := hB1.1.r
  refine Yc1 s (w.heap.size + 1 + 1) _ _ rfl rfl rfl hX rfl ?_
  intro w' hw'
  exact hK _ ⟨hw' ▸ hB1.1.st3, hw' ▸ hB1.2.keep (S := [w.heap.size + 1 + 1]) ((Upd.refl _ _).setCells (by simp) _ _) (by have := HM.out.al; simp; omega) (by have := HM.out.pl; simp; omega)⟩
 ·exact ⟨undef, rfl⟩
 apply Yaw rfl rfl
 ·intro d K hd hK w1 hB1
  obtain ⟨Y, hY, _⟩ := hB1.1.f
  have cf := Ya hY
  have ff := Yg hY
  have HB1 := Yh_ hB1
  clear hB1 hY
  go_wp2_with fail
  have hq := HB1.out.2.keep (S := [w.heap.size + 1 + 1 + 1]) (Yas (b := w.heap.size + 1 + 1 + 1) (Upd.refl _ w1) (.inl (by simp)) (.int .i64 (M.wrF (s.place o) 4).k) (.int .u32 (M.wrF (s.place o) 4).pc) (.int .u32 (M.wrF (s.place o) 4).a) (.int .i64 (M.wrF (s.place o) 4).wt)) (by have := HM.out.al; simp; omega) (by have := HM.out.pl; simp; omega)
  first
  |exact hK _ ⟨HB1.out.1.st4, hq⟩
  |exact ⟨HB1.out.1.st4, hq⟩
 ·exact ⟨undef, rfl⟩
 apply Yaw rfl rfl
 ·intro d K hd hK w1 hB1
  have HB1 := Yh_ hB1
  clear hB1
  go_wp2_with fail
  first
  |exact hK _ ⟨HB1.out.1.skip (by decide) (by decide), HB1.out.2⟩
  |exact ⟨HB1.out.1.skip (by decide) (by decide), HB1.out.2⟩
 ·exact ⟨_, rfl⟩
 refine Yfx (fun _ w1 d hd hB1 => ?_)
 have HB1 := Yh_ hB1
 obtain ⟨X, hX, hXs⟩ := hB1.1.r
 obtain ⟨Y, hY, hYF⟩ := hB1.1.f
 rw [hXs (hd 3 (by decide))] at hX
 rw [hYF (hd 4 (by decide))] at hY
 have HX := Yh_ hX
 have HY := Yh_ hY
 clear hB1 hX hY hXs hYF hd
 go_wp2_with fail
 refine bodyPost_ret (Yaf rfl (Ybe 10 28 (w.heap.size + 1 + 1) _ _ rfl HX.out Tryz.underlying28 rfl (by rw [St.size]; exact Ya2)) (Ybe 11 35 (w.heap.size + 1 + 1 + 1) _ _ rfl HY.out Tryz.underlying35 rfl Ybr) (Yad _ rfl)) rfl ⟨?_, by rw [HW.out]; exact HB1.out.2, HB1.out.1.u⟩
 rw [HV.out, HF.out, HK.out]
 rfl
theorem Ylw (M : Mem) (a pb : Nat) (s : St) (o : Opd) (b v : Int) (w : World) (hM : Ym w a pb M) (hs : s.Ok) (ho : o.Ok) (hv0 : 0 ≤ v) (hv1 : v < 4294967296) :
  Calls Tryz.prog 65 #[.pointer (some ⟨a, 0, none⟩), .agg s.cells, o.val, .int .i64 b, .int .u32 v] w fun e w' => e = .returned (.tuple #[.agg (opS s o b v).cells, (Ydg M s o b).val, .bool (Yde M s o b)]) ∧ Ym w' a pb (opM M s o b v) ∧ Upd [pb] w w' := by
 by_cases h1 : o.k = 1
 ·by_cases hb : b = 1
  ·exact Ykg M a pb s o b v w hM hs ho hv0 hv1 h1 hb
  ·exact Yj8 M a pb s o b v w hM hs ho hv0 hv1 h1 hb
 ·by_cases h3 : o.k = 3
  ·by_cases hb : b = 1
   ·exact Ylh M a pb s o b v w hM hs ho hv0 hv1 h3 hb
   ·exact Ykt M a pb s o b v w hM hs ho hv0 hv1 h3 hb
  ·exact Yj7 M a pb s o b v w hM hs ho hv0 hv1 h1 h3
theorem opS_ok {s : St} (h : s.Ok) (o : Opd) (b : Int) {v : Int} (h0 : 0 ≤ v) (h1 : v < 4294967296) : (opS s o b v).Ok := by
 unfold opS
 split
 ·split
  ·exact St.setReg8_ok h _ _
  ·exact St.setR_ok h _ h0 h1
 ·exact h
theorem Yog (a pb : Nat) (p : Int) (w : World) (M : Mem) (hM : Ym w a pb M) :
  Calls Tryz.prog 138 #[.pointer (some ⟨a, 0, none⟩), .int .i64 p] w fun e w' => e = .returned (.int .i64 (M.rights p)) ∧ w = w' := by
 by_cases h1 : p < 0
 ·clear hM
  go_enter Tryz.func138, Tryz.ntmps138
  go_wp2
  go_ret
  exact ⟨by simp [Mem.rights, h1], rfl⟩
 ·by_cases h2 : 64 ≤ p
  ·clear hM
   go_enter Tryz.func138, Tryz.ntmps138
   go_wp2
   go_ret
   exact ⟨by simp [Mem.rights, h2], rfl⟩
  ·obtain ⟨c, hc, c0⟩ := hM.c0
   have cR := hM.cR p.toNat (by omega)
   clear hM
   have h1' : 0 ≤ p := by omega
   have h2' : p < 64 := by omega
   go_enter Tryz.func138, Tryz.ntmps138
   go_wp2
   go_ret
   refine ⟨?_, rfl⟩
   have : ¬ (p < 0 ∨ 64 ≤ p) := by omega
   simp [Mem.rights, this]
theorem Yhh (fb kb : Nat) (y0 y1 y2 y3 k0 : Value) (x0 x1 x2 x3 : Int) (older : List PanicEntry) (w : World)
  (hf : w.heap[fb]? = some (.cells #[y0, y1, y2, y3] 35 (0, 0))) (hk : w.heap[kb]? = some (.cells #[k0] 4 (0, 0))) (hne : fb ≠ kb) :
  CallsD Tryz.prog 110 #[.pointer (some ⟨fb, 0, none⟩), .pointer (some ⟨kb, 0, none⟩)] (.panicking ({ v := .iface 35 (.agg #[.int .i64 x0, .int .u32 x1, .int .u32 x2, .int .i64 x3]), recovered := false } :: older)) w fun e u' w' =>
   e = .returned (.tuple #[]) ∧ u' = .panicking ({ v := .iface 35 (.agg #[.int .i64 x0, .int .u32 x1, .int .u32 x2, .int .i64 x3]), recovered := true } :: older) ∧
    w'.heap[fb]? = some (.cells #[.int .i64 x0, .int .u32 x1, .int .u32 x2, .int .i64 x3] 35 (0, 0)) ∧ w'.heap[kb]? = some (.cells #[.bool false] 4 (0, 0)) ∧ Upd [fb, kb] w w' := by
 refine callsD_of_wpS Tryz.func110 rfl fun c₀ cs hu => ?_
 simp only [Tryz.ntmps110, List.size_toArray, List.length_cons, List.length_nil, Nat.reduceAdd, Nat.reduceSub, Array.replicate_succ, Array.replicate_zero, List.push_toArray, List.append_toArray, List.nil_append, List.cons_append]
 apply wpS_seq
 apply wpS_region
 simp [wpOpsS, go_sem, recoverD, hu, Tryz.ntmps110, Exit.thenS]
 refine wpS_of_wp ?_
 clear hu
 have hfl := Yk hf
 have hkl := Yk hk
 have hcf : ∀ o, w.cell? ⟨fb, o, none⟩ = #[y0, y1, y2, y3][o]? := Ya hf
 have hck : ∀ o, w.cell? ⟨kb, o, none⟩ = #[k0][o]? := Ya hk
 have hff : ∀ o, w.frozen? ⟨fb, o, none⟩ = false := Yg hf
 have hfk : ∀ o, w.frozen? ⟨kb, o, none⟩ = false := Yg hk
 have HF := Yh_ hf
 have HK := Yh_ hk
 clear hf hk
 have hta := Yfm
 go_wp2_with fail
 refine ⟨rfl, _, rfl, _, results_none rfl _ _ _, rfl, rfl, ?_, ?_, ?_⟩
 ·refine Yj _ (Yh _ hne ?_)
  have h := Yi (Yi (Yi (Yi HF.out 0 (.int .i64 x0)) 1 (.int .u32 x1)) 2 (.int .u32 x2)) 3 (.int .i64 x3)
  exact h
 ·refine Yj _ ?_
  have h := Yh (a := ⟨fb, 3, none⟩) (.int .i64 x3) hne.symm (Yh (a := ⟨fb, 2, none⟩) (.int .u32 x2) hne.symm (Yh (a := ⟨fb, 1, none⟩) (.int .u32 x1) hne.symm (Yh (a := ⟨fb, 0, none⟩) (.int .i64 x0) hne.symm HK.out)))
  exact Yi h 0 (.bool false)
 ·exact ((((((Upd.refl _ _).setCell (by simp) _).setCell (by simp) _).setCell (by simp) _).setCell (by simp) _).setCell (by simp) _).alloc _
theorem Ykp (fb kb : Nat) (w : World) :
  CallsD Tryz.prog 110 #[.pointer (some ⟨fb, 0, none⟩), .pointer (some ⟨kb, 0, none⟩)] .returning w fun e u' w' => e = .returned (.tuple #[]) ∧ u' = .returning ∧ w = w' := by
 refine callsD_of_wpS Tryz.func110 rfl fun c₀ cs hu => ?_
 simp only [Tryz.ntmps110, List.size_toArray, List.length_cons, List.length_nil, Nat.reduceAdd, Nat.reduceSub, Array.replicate_succ, Array.replicate_zero, List.push_toArray, List.append_toArray, List.nil_append, List.cons_append]
 apply wpS_seq
 apply wpS_region
 simp [wpOpsS, go_sem, recoverD, hu, Tryz.ntmps110, Exit.thenS]
 refine wpS_of_wp ?_
 have HU := Yh_ hu
 clear hu
 go_wp2_with fail
 refine ⟨rfl, .returning, ?_, _, results_none rfl _ _ _, rfl, rfl, rfl⟩
 rw [← HU.out]
def Ynv (fb kb : Nat) : List Deferred :=
 [{ target := .fn (.func 110) #[], args := #[.pointer (some ⟨fb, 0, none⟩), .pointer (some ⟨kb, 0, none⟩)] }]
theorem Yem {fn : Func} {tmps : Array Value} {R : Ending → World → Prop} {w1 : World} {fb kb : Nat} {y0 y1 y2 y3 k0 : Value} (F : Flt) (V : Value)
  (hres : ∀ w2, w2.heap[fb]? = some (.cells #[.int .i64 F.k, .int .u32 F.pc, .int .u32 F.a, .int .i64 F.wt] 35 (0, 0)) → w2.heap[kb]? = some (.cells #[.bool false] 4 (0, 0)) → Upd [fb, kb] w1 w2 → (results fn tmps).run Tryz.prog w2 = .ok V w2)
  (hf : w1.heap[fb]? = some (.cells #[y0, y1, y2, y3] 35 (0, 0))) (hk : w1.heap[kb]? = some (.cells #[k0] 4 (0, 0))) (hne : fb ≠ kb)
  (hR : ∀ w2, Upd [fb, kb] w1 w2 → R (.returned V) w2) :
  Leaves Tryz.prog fn tmps R (Ynv fb kb) (.panicking [{ v := .iface 35 F.val, recovered := false }]) w1 := by
 refine leaves_cons (f := 110) (args := #[.pointer (some ⟨fb, 0, none⟩), .pointer (some ⟨kb, 0, none⟩)]) (by simp) (by simp [go_sem]) ?_
 refine (Yhh fb kb _ _ _ _ _ _ _ _ _ [] w1 hf hk hne).mono ?_
 rintro e u' w2 ⟨rfl, rfl, hf, hk, hU⟩
 simp only [settle, List.dropWhile_nil]
 exact ⟨_, hres w2 hf hk hU, hR _ hU⟩
theorem Ygx {fn : Func} {tmps : Array Value} {R : Ending → World → Prop} {w1 : World} {fb kb : Nat} (V : Value) (hres : (results fn tmps).run Tryz.prog w1 = .ok V w1) (hR : R (.returned V) w1) :
  Leaves Tryz.prog fn tmps R (Ynv fb kb) .returning w1 := by
 refine leaves_cons (f := 110) (args := #[.pointer (some ⟨fb, 0, none⟩), .pointer (some ⟨kb, 0, none⟩)]) (by simp) (by simp [go_sem]) ?_
 refine (Ykp _ _ w1).mono ?_
 rintro e u' w2 ⟨rfl, rfl, rfl⟩
 simp only [settle]
 exact ⟨_, hres, hR⟩
theorem Yhi (M : Mem) (a pb : Nat) (x r : Int) (w : World) (hM : Ym w a pb M) (h0 : 0 ≤ x) :
  Calls Tryz.prog 128 #[.pointer (some ⟨a, 0, none⟩), .int .u32 x, .int .i64 r] w fun e w' => e = .returned (.int .i64 (M.lack x r)) ∧ w = w' := by
 by_cases h : x < 16384
 ·have HR := Yh_ (show M.rights (x / 256) = M.R (x / 256).toNat by rw [Mem.rights, if_neg (by omega)])
  have HV := Yh_ (show M.lack x r = lowI (bits .andNot .i64 r (M.R (x / 256).toNat)) by rw [Mem.lack, Mem.rightAt, if_pos h])
  go_enter Tryz.func128, Tryz.ntmps128
  go_wp2_with (go_at_call 138; refine (Yog a pb _ _ M hM).mono ?_; rintro e w' ⟨rfl, rfl⟩; rw [HR.out])
  go_ret
  rw [HV.out]
  exact ⟨rfl, rfl⟩
 ·have HV := Yh_ (show M.lack x r = lowI (bits .andNot .i64 r 0) by rw [Mem.lack, Mem.rightAt, if_neg h])
  go_enter Tryz.func128, Tryz.ntmps128
  go_wp2_with fail
  go_ret
  rw [HV.out]
  exact ⟨rfl, rfl⟩
theorem Yfa (F : Flt) (w : World) : Calls Tryz.prog 111 #[F.val, .bool true] w fun e w' => e = .returned (.tuple #[]) ∧ Upd [] w w' := by
 unfold Flt.val
 go_enter Tryz.func111, Tryz.ntmps111
 go_wp2
 go_end0
 exact ⟨rfl, (Upd.refl _ _).alloc _⟩
theorem Yhs (F : Flt) (w : World) : Calls Tryz.prog 111 #[F.val, .bool false] w fun e w' => e = .panicked [{ v := .iface 35 F.val, recovered := false }] ∧ Upd [] w w' := by
 unfold Flt.val
 go_enter Tryz.func111, Tryz.ntmps111
 go_wp2
 exact ⟨rfl, rfl, (Upd.refl _ _).alloc _⟩
structure CanB (w w1 : World) : Prop where
 f : w1.heap[w.heap.size]? = some (.cells #[.int .i64 0, .int .u32 0, .int .u32 0, .int .i64 0] 35 (0, 0))
 k : w1.heap[w.heap.size + 1]? = some (.cells #[.bool false] 4 (0, 0))
 u : Upd [] w w1
theorem CanB.start (w : World) : CanB w ((w.alloc (.cells #[.int .i64 0, .int .u32 0, .int .u32 0, .int .i64 0] 35)).alloc (.cells #[.bool false] 4)) :=
 ⟨heap_alloc2_old _ _ _, heap_alloc2_new _ _ _, ((Upd.refl _ _).alloc _).alloc _⟩
theorem Yhd (M : Mem) (a pb n : Nat) (x r : Int) (w : World) (hM : Ym w a pb M) (h0 : 0 ≤ x) (h1 : x < 4294967296) (hn : n ≤ 16) :
  Calls Tryz.prog 97 #[.pointer (some ⟨a, 0, none⟩), .int .u32 x, .int .i64 n, .int .i64 r] w fun e w' => e = .returned (.tuple #[(M.canF x n r).val, .bool (M.canK x n r)]) ∧ Upd [] w w' := by
 have HS := Yh_ (CanB.start w)
 have HM := Yh_ hM
 clear hM
 go_enter_defers Tryz.func97, Tryz.ntmps97
 go_wp2
 go_loopw [14] (fun i wr => ∃ j : Nat, j ≤ n ∧ i = .int .i64 j ∧ (∀ t, t < j → M.lack (Yn x t) r = 0) ∧ CanB w wr) (fun i _ => n - (intOf i).toNat)
 case atStart => exact ⟨0, Nat.zero_le _, rfl, by simp, HS.out⟩
 case round =>
  obtain ⟨j, hj, rfl, hcan, hB⟩ := hrel
  have HC := Yh_ hcan
  have HB := Yh_ hB
  clear hcan hB
  by_cases hlt : j < n
  ·have hd : decide ((j : Int) < n) = true := by simp; omega
   have q1 : (j : Int) % 4294967296 = j := by omega
   have q2 : (x + j) % 4294967296 = Yn x j := rfl
   by_cases hb : M.lack (Yn x j) r = 0
   ·have HG := Yh_ hb
    clear hb
    go_wp2_with (go_at_call 128; refine (Yhi M a pb (Yn x j) r _ (HM.out.keep HB.out.u (by simp) (by simp)) (Yav x j)).mono ?_; rintro e w2 ⟨rfl, rfl⟩; rw [HG.out])
    go_roundw
    case rel => exact ⟨j + 1, by omega, by go_num, fun t ht => by
      by_cases e : t = j
      ·subst e; exact HG.out
      ·exact HC.out t (by omega), HB.out⟩
    case measure => simp [intOf]; omega
   ·have hb2 : (M.lack (Yn x j) r == 0) = false := by simpa using hb
    have HG := Yh_ hb
    clear hb
    go_wp2_with (go_at_call 128; refine (Yhi M a pb (Yn x j) r _ (HM.out.keep HB.out.u (by simp) (by simp)) (Yav x j)).mono ?_; rintro e w2 ⟨rfl, rfl⟩)
    have hbad := Ync M x n r j hlt HC.out HG.out
    refine Yem (fb := w.heap.size) (kb := w.heap.size + 1) ⟨1, 0, Yn x j, M.lack (Yn x j) r⟩ (.tuple #[(M.canF x n r).val, .bool (M.canK x n r)]) (fun w2 hf hk hU => ?_) HB.out.f HB.out.k (by omega) (fun w2 hU => ⟨rfl, HB.out.u.also hU (by simp <;> omega)⟩)
    rw [Mem.canF, Mem.canK, hbad]
    exact Yap rfl (Yb7 8 w.heap.size _ rfl hf) (Ycr 9 (w.heap.size + 1) _ rfl hk)
  ·obtain rfl : n = j := by omega
   have cf := Ya HB.out.f
   have ff := Yg HB.out.f
   have ck := Ya HB.out.k
   have fk := Yg HB.out.k
   have hbad := Yh_ (Ym0 M x n r HC.out)
   go_wp2_with fail
   have hF := Yh (a := ⟨w.heap.size + 1, 0, none⟩) (.bool true) (by simp) (Ycy HB.out.f (.int .i64 0) (.int .u32 0) (.int .u32 0) (.int .i64 0))
   have UK := Yas (S := [w.heap.size]) (b := w.heap.size) (Upd.refl _ wr) (.inl (by simp)) (.int .i64 0) (.int .u32 0) (.int .u32 0) (.int .i64 0)
   have hK := Yi (UK.get HB.out.k (by simp)) 0 (.bool true)
   refine Ygx (.tuple #[(M.canF x n r).val, .bool (M.canK x n r)]) ?_ ⟨rfl, (Yas (b := w.heap.size) HB.out.u (.inr (Nat.le_refl _)) _ _ _ _).setCell (.inr (by simp)) _⟩
   rw [Mem.canF, Mem.canK, hbad.out]
   exact Yap rfl (Yb7 8 w.heap.size Flt.zero rfl hF) (Ycr 9 (w.heap.size + 1) true rfl hK)
def Yf2 (M : Mem) (s : St) (o : Opd) (b r : Int) : Flt := if o.k = 3 then M.canF (s.place o) (wd b).toNat r else Flt.zero
def Yff (M : Mem) (s : St) (o : Opd) (b r : Int) : Bool := if o.k = 3 then M.canK (s.place o) (wd b).toNat r else true
theorem Yo9 (M : Mem) (a pb : Nat) (s : St) (o : Opd) (b r : Int) (w : World) (hM : Ym w a pb M) :
  Calls Tryz.prog 60 #[.pointer (some ⟨a, 0, none⟩), .agg s.cells, o.val, .int .i64 b, .int .i64 r] w fun e w' => e = .returned (.tuple #[(Yf2 M s o b r).val, .bool (Yff M s o b r)]) ∧ Upd [] w w' := by
 have HB := Yh_ (RdB.start s o w)
 have HM := Yh_ hM
 clear hM
 unfold Opd.val
 by_cases h3 : o.k = 3
 ·have e3 : (o.k == 3) = true := by simpa using h3
  have e3' : (o.k != 3) = false := by simpa using h3
  have hp := Ycc s o
  have hq : (b = 1 ∧ (wd b).toNat = 1) ∨ (b ≠ 1 ∧ (wd b).toNat = 4) := by unfold wd; split <;> simp_all
  have HF := Yh_ (show Yf2 M s o b r = M.canF (s.place o) (wd b).toNat r by rw [Yf2, if_pos h3])
  have HK := Yh_ (show Yff M s o b r = M.canK (s.place o) (wd b).toNat r by rw [Yff, if_pos h3])
  clear h3
  rcases hq with ⟨hb, hw⟩ | ⟨hb, hw⟩
  ·rw [hw] at HF HK
   have hb1 : (b == 1) = true := by simpa using hb
   have hb2 : (b != 1) = false := by simpa using hb
   subst hb
   clear hw
   go_enter Tryz.func60, Tryz.ntmps60
   go_wp2_with (first | (refine Yq s w.heap.size rfl _ rfl rfl HB.out.s ?_) | (go_at_call 71; refine (Ycj s o _).mono ?_; rintro e w2 ⟨rfl, hu⟩; have H2 := Yh_ (HB.out.step hu); clear hu) | (go_at_call 97; refine (Yhd M a pb 1 (s.place o) r _ (HM.out.keep H2.out.u (by simp) (by simp)) hp.1 hp.2 (by decide)).mono ?_; rintro e w3 ⟨rfl, hu⟩; unfold Flt.val; have H3 := Yh_ (H2.out.step hu); clear hu H2; have ff := Yg H3.out.f; have cf := Ya H3.out.f))
   refine bodyPost_ret (Yap rfl (Yb7 10 (w.heap.size + 1 + 1) _ rfl (Ycy H3.out.f _ _ _ _)) (Yad _ rfl)) rfl ⟨?_, Yas H3.out.u (.inr (by omega)) _ _ _ _⟩
   rw [HF.out, HK.out]
   rfl
  ·rw [hw] at HF HK
   have hb1 : (b == 1) = false := by simpa using hb
   have hb2 : (b != 1) = true := by simpa using hb
   clear hb hw
   go_enter Tryz.func60, Tryz.ntmps60
   go_wp2_with (first | (refine Yq s w.heap.size rfl _ rfl rfl HB.out.s ?_) | (go_at_call 71; refine (Ycj s o _).mono ?_; rintro e w2 ⟨rfl, hu⟩; have H2 := Yh_ (HB.out.step hu); clear hu) | (go_at_call 97; refine (Yhd M a pb 4 (s.place o) r _ (HM.out.keep H2.out.u (by simp) (by simp)) hp.1 hp.2 (by decide)).mono ?_; rintro e w3 ⟨rfl, hu⟩; unfold Flt.val; have H3 := Yh_ (H2.out.step hu); clear hu H2; have ff := Yg H3.out.f; have cf := Ya H3.out.f))
   refine bodyPost_ret (Yap rfl (Yb7 10 (w.heap.size + 1 + 1) _ rfl (Ycy H3.out.f _ _ _ _)) (Yad _ rfl)) rfl ⟨?_, Yas H3.out.u (.inr (by omega)) _ _ _ _⟩
   rw [HF.out, HK.out]
   rfl
 ·have e3 : (o.k == 3) = false := by simpa using h3
  have e3' : (o.k != 3) = true := by simpa using h3
  have HF := Yh_ (show Yf2 M s o b r = Flt.zero by rw [Yf2, if_neg h3])
  have HK := Yh_ (show Yff M s o b r = true by rw [Yff, if_neg h3])
  clear h3
  go_enter Tryz.func60, Tryz.ntmps60
  go_wp2_with fail
  refine bodyPost_ret (Yap rfl (Yb7 10 (w.heap.size + 1 + 1) Flt.zero rfl HB.out.f) (Yad _ rfl)) rfl ⟨?_, HB.out.u⟩
  rw [HF.out, HK.out]
  rfl
structure FkB (S : List Nat) (w : World) (F : Flt) (K : Bool) (w1 : World) : Prop where
 f : w1.heap[w.heap.size]? = some (.cells #[.int .i64 F.k, .int .u32 F.pc, .int .u32 F.a, .int .i64 F.wt] 35 (0, 0))
 k : w1.heap[w.heap.size + 1]? = some (.cells #[.bool K] 4 (0, 0))
 u : Upd S w w1
theorem FkB.start (w : World) : FkB [] w Flt.zero false ((w.alloc (.cells #[.int .i64 0, .int .u32 0, .int .u32 0, .int .i64 0] 35)).alloc (.cells #[.bool false] 4)) :=
 ⟨heap_alloc2_old _ _ _, heap_alloc2_new _ _ _, ((Upd.refl _ _).alloc _).alloc _⟩
theorem FkB.step {S S' T : List Nat} {w w1 w2 : World} {F : Flt} {K : Bool} (h : FkB T w F K w1) (u : Upd S w1 w2) (hS : ∀ x, x ∈ S → x < w.heap.size) (hu : Upd S' w w2) : FkB S' w F K w2 :=
 ⟨u.get h.f (fun hh => by have := hS _ hh; omega), u.get h.k (fun hh => by have := hS _ hh; omega), hu⟩
theorem FkB.st {S : List Nat} {w w1 : World} {F : Flt} {K : Bool} (h : FkB S w F K w1) (F' : Flt) (K' : Bool) :
  FkB S w F' K' (((((w1.setCell ⟨w.heap.size, 0, none⟩ (.int .i64 F'.k)).setCell ⟨w.heap.size, 0 + 1, none⟩ (.int .u32 F'.pc)).setCell ⟨w.heap.size, 0 + 2, none⟩ (.int .u32 F'.a)).setCell ⟨w.heap.size, 0 + 3, none⟩ (.int .i64 F'.wt)).setCell ⟨w.heap.size + 1, 0, none⟩ (.bool K')) := by
 have UK := Yas (S := [w.heap.size]) (b := w.heap.size) (Upd.refl _ w1) (.inl (by simp)) (.int .i64 F'.k) (.int .u32 F'.pc) (.int .u32 F'.a) (.int .i64 F'.wt)
 exact ⟨Yh (a := ⟨w.heap.size + 1, 0, none⟩) _ (by simp) (Ycy h.f _ _ _ _), Yi (UK.get h.k (by simp)) 0 _, (Yas (b := w.heap.size) h.u (.inr (Nat.le_refl _)) _ _ _ _).setCell (.inr (by simp)) _⟩
def Mem.rd8K (M : Mem) (x : Int) : Bool := M.readK x 4 1 && M.readK (Yn x 4) 4 1
def Mem.rd8F (M : Mem) (x : Int) : Flt := if M.readK x 4 1 then M.rdF (Yn x 4) 4 1 else M.rdF x 4 1
def Mem.rd8V (M : Mem) (x : Int) : Int := if M.rd8K x then M.readV x 4 1 + M.readV (Yn x 4) 4 1 * 4294967296 else 0
theorem Ydw {w : World} {a pb : Nat} {M : Mem} (h : Ym w a pb M) (x b r : Int) : 0 ≤ M.readV x b r ∧ M.readV x b r < 4294967296 := by
 unfold Mem.readV
 have hw := Yfz b
 split
 ·have := Yf4 h x (Yao b).toNat
  rcases hw with hw | hw | hw
  ·rw [hw] at this ⊢
   exact ⟨this.1, Int.lt_of_lt_of_le this.2 (by decide)⟩
  ·rw [hw] at this ⊢
   exact ⟨this.1, Int.lt_of_lt_of_le this.2 (by decide)⟩
  ·rw [hw] at this ⊢
   exact ⟨this.1, this.2⟩
 ·omega
theorem join64 (a b : Int) (a0 : 0 ≤ a) (a1 : a < 4294967296) (b0 : 0 ≤ b) (b1 : b < 4294967296) : bits .or .u64 a (b * 4294967296) = a + b * 4294967296 := by
 obtain ⟨a, rfl⟩ := Int.eq_ofNat_of_zero_le a0
 obtain ⟨b, rfl⟩ := Int.eq_ofNat_of_zero_le b0
 have h := u64_or_nat a (b * 4294967296) (by omega) (by omega)
 rw [Nat.or_comm, nat_join 32 _ _ (by omega) (by omega)] at h
 have e : (b : Int) * 4294967296 = ((b * 4294967296 : Nat) : Int) := by omega
 rw [e, h]
 omega
theorem Yi6 (M : Mem) (a pb : Nat) (x : Int) (w : World) (hM : Ym w a pb M) (h0 : 0 ≤ x) (h1 : x < 4294967296) :
  Calls Tryz.prog 109 #[.pointer (some ⟨a, 0, none⟩), .int .u32 x] w fun e w' => e = .returned (.tuple #[.int .u64 (M.rd8V x), (M.rd8F x).val, .bool (M.rd8K x)]) ∧ Upd [] w w' := by
 have HS := Yh_ (FkB.start w)
 have HM := Yh_ hM
 clear hM
 have hp4 : 0 ≤ Yn x 4 ∧ Yn x 4 < 4294967296 := by unfold Yn; omega
 have hq : (x + 4) % 4294967296 = Yn x 4 := rfl
 cases hk1 : M.readK x 4 1
 ·have HV := Yh_ (show M.rd8V x = 0 ∧ M.rd8F x = M.rdF x 4 1 ∧ M.rd8K x = false by
   refine ⟨?_, ?_, ?_⟩ <;> simp [Mem.rd8V, Mem.rd8F, Mem.rd8K, hk1])
  go_enter_defers Tryz.func109, Tryz.ntmps109
  have HK1 := Yh_ hk1
  clear hk1
  go_wp2_with (first | (go_at_call 38; refine (Yda M a pb x 4 1 _ (HM.out.keep HS.out.u (by simp) (by simp)) h0 h1).mono ?_; rintro e w2 ⟨rfl, hu⟩; rw [Mem.readF_val, HK1.out]; unfold Flt.val; have H2 := Yh_ (HS.out.step hu (by simp) (HS.out.u.also hu (by simp))); clear hu; have cf := Ya H2.out.f; have ff := Yg H2.out.f; have ck := Ya H2.out.k; have fk := Yg H2.out.k) | (go_at_call 111; refine (Yhs (M.rdF x 4 1) _).mono ?_; rintro e w3 ⟨rfl, hu⟩; have H3 := Yh_ ((H2.out.st (M.rdF x 4 1) false).step hu (by simp) ((H2.out.st (M.rdF x 4 1) false).u.also hu (by simp))); clear hu))
  refine Yem (fb := w.heap.size) (kb := w.heap.size + 1) (M.rdF x 4 1) (.tuple #[.int .u64 (M.rd8V x), (M.rd8F x).val, .bool (M.rd8K x)]) (fun w9 hf hk hU => ?_) H3.out.f H3.out.k (by omega) (fun w9 hU => ⟨rfl, H3.out.u.also hU (by simp <;> omega)⟩)
  rw [HV.out.1, HV.out.2.1, HV.out.2.2]
  exact Yaf rfl (Yad 4 rfl) (Yb7 5 w.heap.size _ rfl hf) (Ycr 6 (w.heap.size + 1) _ rfl hk)
 ·have tok1 : True := trivial
  cases hk2 : M.readK (Yn x 4) 4 1
  ·have HV := Yh_ (show M.rd8V x = 0 ∧ M.rd8F x = M.rdF (Yn x 4) 4 1 ∧ M.rd8K x = false by
    refine ⟨?_, ?_, ?_⟩ <;> simp [Mem.rd8V, Mem.rd8F, Mem.rd8K, hk1, hk2])
   have HK1 := Yh_ hk1
   have HK2 := Yh_ hk2
   clear hk1 hk2
   go_enter_defers Tryz.func109, Tryz.ntmps109
   go_wp2_with (first | (go_at_call 38; have _t := tok1; refine (Yda M a pb x 4 1 _ (HM.out.keep HS.out.u (by simp) (by simp)) h0 h1).mono ?_; rintro e w2 ⟨rfl, hu⟩; rw [Mem.readF_val, HK1.out]; unfold Flt.val; have H2 := Yh_ (HS.out.step hu (by simp) (HS.out.u.also hu (by simp))); clear hu; have cf := Ya H2.out.f; have ff := Yg H2.out.f; have ck := Ya H2.out.k; have fk := Yg H2.out.k) | (go_at_call 111; have _t := tok1; refine (Yfa (M.rdF x 4 1) _).mono ?_; rintro e w3 ⟨rfl, hu⟩; have H3 := Yh_ ((H2.out.st (M.rdF x 4 1) true).step hu (by simp) ((H2.out.st (M.rdF x 4 1) true).u.also hu (by simp))); clear hu tok1 _t cf ff ck fk) | (go_at_call 38; refine (Yda M a pb (Yn x 4) 4 1 _ (HM.out.keep H3.out.u (by simp) (by simp)) hp4.1 hp4.2).mono ?_; rintro e w4 ⟨rfl, hu⟩; rw [Mem.readF_val, HK2.out]; unfold Flt.val; have H4 := Yh_ (H3.out.step hu (by simp) (H3.out.u.also hu (by simp))); clear hu; have cf := Ya H4.out.f; have ff := Yg H4.out.f; have ck := Ya H4.out.k; have fk := Yg H4.out.k) | (go_at_call 111; refine (Yhs (M.rdF (Yn x 4) 4 1) _).mono ?_; rintro e w5 ⟨rfl, hu⟩; have H5 := Yh_ ((H4.out.st (M.rdF (Yn x 4) 4 1) false).step hu (by simp) ((H4.out.st (M.rdF (Yn x 4) 4 1) false).u.also hu (by simp))); clear hu))
   refine Yem (fb := w.heap.size) (kb := w.heap.size + 1) (M.rdF (Yn x 4) 4 1) (.tuple #[.int .u64 (M.rd8V x), (M.rd8F x).val, .bool (M.rd8K x)]) (fun w9 hf hk hU => ?_) H5.out.f H5.out.k (by omega) (fun w9 hU => ⟨rfl, H5.out.u.also hU (by simp <;> omega)⟩)
   rw [HV.out.1, HV.out.2.1, HV.out.2.2]
   exact Yaf rfl (Yad 4 rfl) (Yb7 5 w.heap.size _ rfl hf) (Ycr 6 (w.heap.size + 1) _ rfl hk)
  ·have hr1 := Ydw HM.out x 4 1
   have hr2 := Ydw HM.out (Yn x 4) 4 1
   have hj := join64 _ _ hr1.1 hr1.2 hr2.1 hr2.2
   have HV := Yh_ (show M.rd8V x = M.readV x 4 1 + M.readV (Yn x 4) 4 1 * 4294967296 ∧ M.rd8F x = Flt.zero ∧ M.rd8K x = true by
    refine ⟨?_, ?_, ?_⟩
    ·simp [Mem.rd8V, Mem.rd8K, hk1, hk2]
    ·rw [Mem.rd8F, if_pos hk1]
     revert hk2
     unfold Mem.readK Mem.rdF
     cases M.bad (Yn x 4) (Ya6 1) (Yao 4).toNat <;> simp
    ·simp [Mem.rd8K, hk1, hk2])
   have HK1 := Yh_ hk1
   have HK2 := Yh_ hk2
   clear hk1 hk2
   go_enter_defers Tryz.func109, Tryz.ntmps109
   go_wp2_with (first | (go_at_call 38; have _t := tok1; refine (Yda M a pb x 4 1 _ (HM.out.keep HS.out.u (by simp) (by simp)) h0 h1).mono ?_; rintro e w2 ⟨rfl, hu⟩; rw [Mem.readF_val, HK1.out]; unfold Flt.val; have H2 := Yh_ (HS.out.step hu (by simp) (HS.out.u.also hu (by simp))); clear hu; have cf := Ya H2.out.f; have ff := Yg H2.out.f; have ck := Ya H2.out.k; have fk := Yg H2.out.k) | (go_at_call 111; have _t := tok1; refine (Yfa (M.rdF x 4 1) _).mono ?_; rintro e w3 ⟨rfl, hu⟩; have H3 := Yh_ ((H2.out.st (M.rdF x 4 1) true).step hu (by simp) ((H2.out.st (M.rdF x 4 1) true).u.also hu (by simp))); clear hu tok1 _t cf ff ck fk) | (go_at_call 38; refine (Yda M a pb (Yn x 4) 4 1 _ (HM.out.keep H3.out.u (by simp) (by simp)) hp4.1 hp4.2).mono ?_; rintro e w4 ⟨rfl, hu⟩; rw [Mem.readF_val, HK2.out]; unfold Flt.val; have H4 := Yh_ (H3.out.step hu (by simp) (H3.out.u.also hu (by simp))); clear hu; have cf := Ya H4.out.f; have ff := Yg H4.out.f; have ck := Ya H4.out.k; have fk := Yg H4.out.k) | (go_at_call 111; refine (Yfa (M.rdF (Yn x 4) 4 1) _).mono ?_; rintro e w5 ⟨rfl, hu⟩; have H5 := Yh_ ((H4.out.st (M.rdF (Yn x 4) 4 1) true).step hu (by simp) ((H4.out.st (M.rdF (Yn x 4) 4 1) true).u.also hu (by simp))); clear hu cf ff ck fk; have cf := Ya H5.out.f; have ff := Yg H5.out.f; have ck := Ya H5.out.k; have fk := Yg H5.out.k))
   have HE := H5.out.st Flt.zero true
   refine Ygx (.tuple #[.int .u64 (M.rd8V x), (M.rd8F x).val, .bool (M.rd8K x)]) ?_ ⟨rfl, HE.u⟩
   rw [HV.out.1, HV.out.2.1, HV.out.2.2]
   exact Yaf rfl (Yad 4 rfl) (Yb7 5 w.heap.size Flt.zero rfl HE.f) (Ycr 6 (w.heap.size + 1) true rfl HE.k)
def Mem.wr8M (M : Mem) (x v : Int) : Mem := if M.canK x 8 2 then (M.putN x (v % 4294967296) 4).putN (Yn x 4) (v / 4294967296) 4 else M
theorem Yn4 {M : Mem} (hM : M.Ok) (x v : Int) (hv0 : 0 ≤ v) (hv1 : v < 18446744073709551616) (h : M.canK x 8 2 = true) :
  (M.wrF x 4 = Flt.zero ∧ M.writeK x 4 = true ∧ ∀ u, M.writeM x 4 u = M.putN x u 4) ∧
  (∀ N : Mem, N.R = M.R → N.wrF (Yn x 4) 4 = Flt.zero ∧ N.writeK (Yn x 4) 4 = true ∧ ∀ u, N.writeM (Yn x 4) 4 u = N.putN (Yn x 4) u 4) := by
 have hl := (Yfo M x 8 2).1 h
 have hc : ∀ t, t < 8 → M.can (Yn x t) 2 = true := fun t ht => (Yhu hM _ (Yav _ _) 2 (by simp)).1 (hl t ht)
 have w4 : (Yao 4).toNat = 4 := by decide
 have b1 : M.bad x 2 (Yao 4).toNat = none := (Yh5 M x _ 2).2 (fun t ht => hc t (by omega))
 refine ⟨⟨by rw [Mem.wrF, b1], by rw [Mem.writeK, b1]; rfl, fun u => by rw [Mem.writeM, b1, w4]⟩, fun N hN => ?_⟩
 have b2 : N.bad (Yn x 4) 2 (Yao 4).toNat = none := (Yh5 N _ _ 2).2 (fun t ht => by
  rw [Yg0]
  have : N.can (Yn x (4 + t)) 2 = M.can (Yn x (4 + t)) 2 := by simp only [Mem.can, hN]
  rw [this]
  exact hc _ (by omega))
 exact ⟨by rw [Mem.wrF, b2], by rw [Mem.writeK, b2]; rfl, fun u => by rw [Mem.writeM, b2, w4]⟩
theorem Yh9 (M : Mem) (a pb : Nat) (x v : Int) (w : World) (hM : Ym w a pb M) (h0 : 0 ≤ x) (h1 : x < 4294967296) (hv0 : 0 ≤ v) (hv1 : v < 18446744073709551616) :
  Calls Tryz.prog 70 #[.pointer (some ⟨a, 0, none⟩), .int .u32 x, .int .u64 v] w fun e w' => e = .returned (.tuple #[(M.canF x 8 2).val, .bool (M.canK x 8 2)]) ∧ Ym w' a pb (M.wr8M x v) ∧ Upd [pb] w w' := by
 have HS := Yh_ (FkB.start w)
 have HM := Yh_ hM
 have hp4 : 0 ≤ Yn x 4 ∧ Yn x 4 < 4294967296 := by unfold Yn; omega
 have hq : (x + 4) % 4294967296 = Yn x 4 := rfl
 cases hk : M.canK x 8 2
 ·have HK := Yh_ hk
  have HW := Yh_ (show M.wr8M x v = M by rw [Mem.wr8M, if_neg (by rw [hk]; simp)])
  clear hk hM
  go_enter_defers Tryz.func70, Tryz.ntmps70
  go_wp2_with (first | (go_at_call 97; refine (Yhd M a pb 8 x 2 _ (HM.out.keep HS.out.u (by simp) (by simp)) h0 h1 (by decide)).mono ?_; rintro e w2 ⟨rfl, hu⟩; rw [HK.out]; have H2 := Yh_ (HS.out.step hu (by simp) (HS.out.u.also hu (by simp))); clear hu) | (go_at_call 111; refine (Yhs (M.canF x 8 2) _).mono ?_; rintro e w3 ⟨rfl, hu⟩; have H3 := Yh_ (H2.out.step hu (by simp) (H2.out.u.also hu (by simp))); clear hu))
  refine Yem (fb := w.heap.size) (kb := w.heap.size + 1) (M.canF x 8 2) (.tuple #[(M.canF x 8 2).val, .bool false]) (fun w9 hf hk hU => ?_) H3.out.f H3.out.k (by omega) (fun w9 hU => ?_)
  ·exact Yap rfl (Yb7 6 w.heap.size _ rfl hf) (Ycr 7 (w.heap.size + 1) _ rfl hk)
  ·have U9 := H3.out.u.also hU (by simp <;> omega)
   exact ⟨rfl, by rw [HW.out]; exact HM.out.keep U9 (by simp) (by simp), U9.mono (by simp)⟩
 ·have hF : M.canF x 8 2 = Flt.zero := by
   revert hk
   unfold Mem.canK Mem.canF
   cases M.canBad x 8 2 <;> simp
  obtain ⟨⟨f1, k1, m1⟩, hN⟩ := Yn4 hM.ok x v hv0 hv1 hk
  obtain ⟨f2, k2, m2⟩ := hN (M.putN x (v % 4294967296) 4) (Mem.putN_R _ _ _ _)
  have HK := Yh_ hk
  have HW := Yh_ (show M.wr8M x v = (M.putN x (v % 4294967296) 4).putN (Yn x 4) (v / 4294967296) 4 by rw [Mem.wr8M, if_pos hk])
  have H1 := Yh_ (And.intro f1 (And.intro k1 (m1 (v % 4294967296))))
  have H2' := Yh_ (And.intro f2 (And.intro k2 (m2 (v / 4294967296))))
  have HF := Yh_ hF
  have hv2 : 0 ≤ v % 4294967296 := by omega
  have hv3 : v % 4294967296 < 4294967296 := by omega
  have hv4 : 0 ≤ v / 4294967296 := by omega
  have hv5 : v / 4294967296 < 4294967296 := by omega
  have hv6 : v / 4294967296 % 4294967296 = v / 4294967296 := by omega
  have hal := hM.al
  have hpl := hM.pl
  clear hk hM hF f1 k1 m1 f2 k2 m2 hN
  have tok1 : True := trivial
  have tok2 : True := trivial
  go_enter_defers Tryz.func70, Tryz.ntmps70
  go_wp2_with (first | (go_at_call 97; refine (Yhd M a pb 8 x 2 _ (HM.out.keep HS.out.u (by simp) (by simp)) h0 h1 (by decide)).mono ?_; rintro e w2 ⟨rfl, hu⟩; rw [HK.out, HF.out]; have H2 := Yh_ (HS.out.step hu (by simp) (HS.out.u.also hu (by simp))); clear hu) | (go_at_call 111; have _t := tok1; refine (Yfa Flt.zero _).mono ?_; rintro e w3 ⟨rfl, hu⟩; have H3 := Yh_ (H2.out.step hu (by simp) (H2.out.u.also hu (by simp))); clear hu tok1 _t H2) | (go_at_call 16; have _t := tok2; refine (Yd5 M a pb x 4 (v % 4294967296) _ (HM.out.keep H3.out.u (by simp) (by simp)) h0 h1 hv2 hv3).mono ?_; rintro e w4 ⟨rfl, hM4, hu⟩; rw [Mem.writeF_val, H1.out.1, H1.out.2.1]; rw [H1.out.2.2] at hM4; have HM4 := Yh_ hM4; have H4 := Yh_ (H3.out.step (S' := [pb]) hu (by simp; omega) ((H3.out.u.mono (by simp)).also hu (by simp))); clear hu hM4 tok2 _t) | (go_at_call 111; have _t := H4; refine (Yfa Flt.zero _).mono ?_; rintro e w5 ⟨rfl, hu⟩; have H5 := Yh_ (H4.out.step hu (by simp) (H4.out.u.also hu (by simp))); have HM5 := Yh_ (HM4.out.keep hu (by simp) (by simp)); clear hu H4 _t) | (go_at_call 16; refine (Yd5 (M.putN x (v % 4294967296) 4) a pb (Yn x 4) 4 (v / 4294967296) _ HM5.out hp4.1 hp4.2 hv4 hv5).mono ?_; rintro e w6 ⟨rfl, hM6, hu⟩; rw [Mem.writeF_val, H2'.out.1, H2'.out.2.1]; rw [H2'.out.2.2] at hM6; have HM6 := Yh_ hM6; have H6 := Yh_ (H5.out.step (S' := [pb]) hu (by simp; omega) (H5.out.u.also hu (by simp))); clear hu hM6) | (go_at_call 111; refine (Yfa Flt.zero _).mono ?_; rintro e w7 ⟨rfl, hu⟩; have H7 := Yh_ (H6.out.step hu (by simp) (H6.out.u.also hu (by simp))); have HM7 := Yh_ (HM6.out.keep hu (by simp) (by simp)); clear hu H6; have cf := Ya H7.out.f; have ff := Yg H7.out.f; have ck := Ya H7.out.k; have fk := Yg H7.out.k))
  have HE := H7.out.st Flt.zero true
  have hE : Upd [w.heap.size, w.heap.size + 1] w7 (((((w7.setCell ⟨w.heap.size, 0, none⟩ (.int .i64 Flt.zero.k)).setCell ⟨w.heap.size, 0 + 1, none⟩ (.int .u32 Flt.zero.pc)).setCell ⟨w.heap.size, 0 + 2, none⟩ (.int .u32 Flt.zero.a)).setCell ⟨w.heap.size, 0 + 3, none⟩ (.int .i64 Flt.zero.wt)).setCell ⟨w.heap.size + 1, 0, none⟩ (.bool true)) :=
   (Yas (b := w.heap.size) (Upd.refl _ w7) (.inl (by simp)) _ _ _ _).setCell (.inl (by simp)) _
  refine Ygx (.tuple #[(M.canF x 8 2).val, .bool true]) ?_ ⟨by rw [HF.out], by rw [HW.out]; exact HM7.out.keep hE (by simp; omega) (by simp; omega), HE.u⟩
  rw [HF.out]
  exact Yap rfl (Yb7 6 w.heap.size Flt.zero rfl HE.f) (Ycr 7 (w.heap.size + 1) true rfl HE.k)
def Hs.two (H : Hs) (i : Int) : Int := H.get (10 + i) + H.get (11 + i) * 4294967296
theorem fl_Sub (x y : Int) (w : World) : Calls Tryz.prog 73 #[.int .u64 x, .int .u64 y] w fun e w' => e = .returned (.int .u64 (Ydy .sub x.toNat y.toNat)) ∧ Upd [] w w' := by
 have hr := fun t => fl_run .sub (.inr (.inl rfl)) t x.toNat y.toNat w
 have tok1 : True := trivial
 obtain ⟨v, w1, h1, h2, h3⟩ := hr 162
 have H2 := Yh_ (And.intro h2 h3)
 clear h2 h3 hr
 go_enter Tryz.func73, Tryz.ntmps73
 go_wp2_with (first | (have _t := tok1; clear _t; go_at_call 113; refine (fl_of x _).mono ?_; rintro e w' ⟨rfl, rfl⟩; clear tok1) | (go_at_call 113; refine (fl_of y _).mono ?_; rintro e w' ⟨rfl, rfl⟩) | (go_at_call 112; refine (fl_bits v _).mono ?_; rintro e w' ⟨rfl, rfl⟩; rw [H2.out.2]))
 go_ret
 exact ⟨rfl, H2.out.1⟩
end Go.Proofs.YthakgjpejhjaoaaGreat
