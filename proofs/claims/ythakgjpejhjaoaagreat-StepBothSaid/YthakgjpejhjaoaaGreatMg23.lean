/-
  Parts of the proof (their names shortened by a program). No condition.
-/
import Derived.Test.YthakgjpejhjaoaaGreatMg01
import Derived.Test.YthakgjpejhjaoaaGreatMg22
import Derived.Test.YthakgjpejhjaoaaGreatMg03
import Derived.ChangeKeysEq
import Derived.Lib.SliceRun
import Derived.Laws.IdiomStrings
import Derived.Outline
import Derived.Test.YthakgjpejhjaoaaGreatMg02
import Derived.Deep.QuietTactic
import Derived.BigQuiet
import Derived.Test.YthakgjpejhjaoaaGreatMg04
import Derived.ChangeSlices
import Derived.Test.YthakgjpejhjaoaaGreatMg20
import Derived.Test.YthakgjpejhjaoaaGreatMg05
namespace Go.Proofs.YthakgjpejhjaoaaGreat
open Go Go.RowKit
set_option linter.unusedVariables false
set_option linter.unusedSimpArgs false
set_option maxRecDepth 100000
set_option maxHeartbeats 16000000
section
theorem Yme {w1 w2 : World} {I : Ins} (hw : ((w1.alloc (.cells Ins.zero.cells 41)).alloc (.cells #[.int .i64 0, .int .u32 0, .int .u32 0, .int .i64 0] 35)).setCells w1.heap.size 0 I.cells.toList = w2) :
  w2.heap[w1.heap.size]? = some (.cells I.cells 41 (0, 0)) ∧ w2.heap[w1.heap.size + 1]? = some (.cells #[.int .i64 0, .int .u32 0, .int .u32 0, .int .i64 0] 35 (0, 0)) ∧ Upd [] w1 w2 := by
 have u := ((Upd.refl [] w1).alloc (.cells Ins.zero.cells 41)).alloc (.cells #[.int .i64 0, .int .u32 0, .int .u32 0, .int .i64 0] 35)
 obtain ⟨z1, z2⟩ := Ya7 (S := []) (w0 := w1) hw (heap_alloc2_old w1 _ _) rfl u (.inr (Nat.le_refl _))
 obtain ⟨_, z3⟩ := Ya7 (S := [w1.heap.size]) hw (heap_alloc2_old w1 _ _) rfl (Upd.refl _ _) (.inl (by simp))
 exact ⟨z1, z3.get (heap_alloc2_new w1 (.cells Ins.zero.cells 41) (.cells #[.int .i64 0, .int .u32 0, .int .u32 0, .int .i64 0] 35)) (by simp), z2⟩
structure Yec (w : World) (a pb : Nat) (t : St) (F : Flt) (i : Ins) (ib : Nat) (M : Mem) (w1 : World) : Prop where
 zs : w1.heap[w.heap.size]? = some (.cells t.cells 28 (0, 0))
 zo : w1.heap[w.heap.size + 1]? = some (.cells St.zero.cells 28 (0, 0))
 zg : w1.heap[w.heap.size + 1 + 1]? = some (.cells (Ys Flt.zero) 35 (0, 0))
 zi : w1.heap[ib]? = some (.cells i.cells 41 (0, 0))
 zf : w1.heap[ib + 1]? = some (.cells (Ys F) 35 (0, 0))
 m : Yj w1 a pb M
 u : Upd [pb] w w1
 l : w.heap.size + 1 + 1 < ib ∧ pb < w.heap.size ∧ a < w.heap.size
def stpW (w : World) (s : St) : World := ((w.alloc (.cells s.cells 28)).alloc (.cells St.zero.cells 28)).alloc (.cells #[.int .i64 0, .int .u32 0, .int .u32 0, .int .i64 0] 35)
theorem Yjn (w : World) (s : St) : Upd [] w (stpW w s) := (((Upd.refl [] w).alloc _).alloc _).alloc _
theorem stpW_z (w : World) (s : St) : (stpW w s).heap[w.heap.size]? = some (.cells s.cells 28 (0, 0)) ∧ (stpW w s).heap[w.heap.size + 1]? = some (.cells St.zero.cells 28 (0, 0)) ∧ (stpW w s).heap[w.heap.size + 1 + 1]? = some (.cells (Ys Flt.zero) 35 (0, 0)) := by
 have h2 := heap_alloc_new ((w.alloc (.cells s.cells 28)).alloc (.cells St.zero.cells 28)) (.cells #[.int .i64 0, .int .u32 0, .int .u32 0, .int .i64 0] 35)
 rw [show ((w.alloc (.cells s.cells 28)).alloc (.cells St.zero.cells 28)).heap.size = w.heap.size + 1 + 1 from by simp] at h2
 exact ⟨Ym _ (heap_alloc2_old _ _ _), Ym _ (heap_alloc2_new _ _ _), h2⟩
theorem Yp3 (w : World) (s : St) : (stpW w s).heap.size = w.heap.size + 3 := by simp [stpW]
section
variable {w w1 w2 : World} {a pb : Nat} {t t2 : St} {F F2 : Flt} {i : Ins} {ib : Nat} {M M2 : Mem}
theorem Yec.of {s : St} (hM : Yj w a pb M) (hu : Upd [] (stpW w s) w1) (h2 : w2.heap[w1.heap.size]? = some (.cells i.cells 41 (0, 0)) ∧ w2.heap[w1.heap.size + 1]? = some (.cells #[.int .i64 0, .int .u32 0, .int .u32 0, .int .i64 0] 35 (0, 0)) ∧ Upd [] w1 w2) :
  Yec w a pb s F i w1.heap.size M ((((w2.setCell ⟨w1.heap.size + 1, 0, none⟩ (.int .i64 F.k)).setCell ⟨w1.heap.size + 1, 1, none⟩ (.int .u32 F.pc)).setCell ⟨w1.heap.size + 1, 2, none⟩ (.int .u32 F.a)).setCell ⟨w1.heap.size + 1, 3, none⟩ (.int .i64 F.wt)) := by
 obtain ⟨z1, z2, z3⟩ := stpW_z w s
 have hl := hu.size
 rw [Yp3] at hl
 have u4 := Yax (S := [w1.heap.size + 1]) (b := w1.heap.size + 1) (Upd.refl _ w2) (.inl (by simp)) (.int .i64 F.k) (.int .u32 F.pc) (.int .u32 F.a) (.int .i64 F.wt)
 have uu := (Yjn w s).also (hu.also h2.2.2 (by simp)) (by simp)
 have u5 := uu.also (S' := [w1.heap.size + 1]) u4 (by simp <;> omega)
 have g : ∀ {b : Nat} {O : Obj}, (stpW w s).heap[b]? = some O → b < w1.heap.size → ((((w2.setCell ⟨w1.heap.size + 1, 0, none⟩ (.int .i64 F.k)).setCell ⟨w1.heap.size + 1, 1, none⟩ (.int .u32 F.pc)).setCell ⟨w1.heap.size + 1, 2, none⟩ (.int .u32 F.a)).setCell ⟨w1.heap.size + 1, 3, none⟩ (.int .i64 F.wt)).heap[b]? = some O := fun hb hb2 => u4.get (h2.2.2.get (hu.get hb (by simp)) (by simp)) (by simp <;> omega)
 exact ⟨g z1 (by omega), g z2 (by omega), g z3 (by omega), u4.get h2.1 (by simp), Yc1 h2.2.1 _ _ _ _, hM.keep u5 (by simp) (by simp), u5.mono (by simp), by omega, by obtain ⟨C, _, hc⟩ := hM.pg; exact Yk hc, by obtain ⟨C, _, hc⟩ := hM.hd; exact Yk hc⟩
theorem Yec.mem (h : Yec w a pb t F i ib M w1) (hm : Yj w2 a pb M2) (u : Upd [pb] w1 w2) : Yec w a pb t F i ib M2 w2 := by
 have hl := h.l
 exact ⟨u.get h.zs (by simp <;> omega), u.get h.zo (by simp <;> omega), u.get h.zg (by simp <;> omega), u.get h.zi (by simp <;> omega), u.get h.zf (by simp <;> omega), hm, h.u.also u (by simp), hl⟩
theorem Yec.st (h : Yec w a pb t F i ib M w1) (hw : w1.setCells w.heap.size 0 t2.cells.toList = w2) : Yec w a pb t2 F i ib M w2 := by
 have hl := h.l
 have u : Upd [w.heap.size] w1 w2 := hw ▸ (Upd.refl [w.heap.size] w1).setCells (.inl (by simp)) _ _
 exact ⟨hw ▸ Ybg t2 h.zs (St.size t), u.get h.zo (by simp), u.get h.zg (by simp <;> omega), u.get h.zi (by simp <;> omega), u.get h.zf (by simp <;> omega), h.m.keep u (by simp <;> omega) (by simp <;> omega), h.u.also u (by simp <;> omega), hl⟩
theorem Yec.fl (h : Yec w a pb t F i ib M w1) (F2 : Flt) : Yec w a pb t F2 i ib M ((((w1.setCell ⟨ib + 1, 0, none⟩ (.int .i64 F2.k)).setCell ⟨ib + 1, 1, none⟩ (.int .u32 F2.pc)).setCell ⟨ib + 1, 2, none⟩ (.int .u32 F2.a)).setCell ⟨ib + 1, 3, none⟩ (.int .i64 F2.wt)) := by
 have hl := h.l
 have u := Yax (S := [ib + 1]) (b := ib + 1) (Upd.refl _ w1) (.inl (by simp)) (.int .i64 F2.k) (.int .u32 F2.pc) (.int .u32 F2.a) (.int .i64 F2.wt)
 exact ⟨u.get h.zs (by simp <;> omega), u.get h.zo (by simp <;> omega), u.get h.zg (by simp <;> omega), u.get h.zi (by simp), Yc1 h.zf _ _ _ _, h.m.keep u (by simp <;> omega) (by simp <;> omega), h.u.also u (by simp <;> omega), hl⟩
end
structure Yfg (w : World) (a pb : Nat) (t : St) (F : Flt) (i : Ins) (ib : Nat) (M : Mem) (dn : Nat → Bool) (w1 : World) : Prop where
 zs : w1.heap[w.heap.size]? = some (.cells t.cells 28 (0, 0))
 zo : ∃ X, w1.heap[w.heap.size + 1]? = some (.cells X 28 (0, 0)) ∧ X.size = 17 ∧ (dn 9 = true → X = t.cells)
 zg : ∃ G, w1.heap[w.heap.size + 1 + 1]? = some (.cells (Ys G) 35 (0, 0)) ∧ (dn 10 = true → G = F)
 zi : w1.heap[ib]? = some (.cells i.cells 41 (0, 0))
 zf : w1.heap[ib + 1]? = some (.cells (Ys F) 35 (0, 0))
 m : Yj w1 a pb M
 u : Upd [pb] w w1
 l : w.heap.size + 1 + 1 < ib ∧ pb < w.heap.size ∧ a < w.heap.size
section
variable {w w1 : World} {a pb : Nat} {t : St} {F : Flt} {i : Ins} {ib : Nat} {M : Mem} {dn : Nat → Bool}
theorem Yec.b (h : Yec w a pb t F i ib M w1) : Yfg w a pb t F i ib M (fun _ => false) w1.drew := by
 have u := (Upd.refl [] w1).drew
 exact ⟨u.get h.zs (by simp), ⟨_, u.get h.zo (by simp), St.size _, by simp⟩, ⟨_, u.get h.zg (by simp), by simp⟩, u.get h.zi (by simp), u.get h.zf (by simp), h.m.keep u (by simp) (by simp), h.u.drew, h.l⟩
theorem Yfg.same (h : Yfg w a pb t F i ib M dn w1) (m : Nat) (h1 : 9 ≠ m) (h2 : 10 ≠ m) : Yfg w a pb t F i ib M (Yai dn m) w1 := by
 obtain ⟨X, x1, x2, x3⟩ := h.zo
 obtain ⟨G, g1, g2⟩ := h.zg
 exact ⟨h.zs, ⟨X, x1, x2, fun hk => x3 (by rwa [Yp h1] at hk)⟩, ⟨G, g1, fun hk => g2 (by rwa [Yp h2] at hk)⟩, h.zi, h.zf, h.m, h.u, h.l⟩
theorem Yfg.putS (h : Yfg w a pb t F i ib M dn w1) : Yfg w a pb t F i ib M (Yai dn 9) (w1.setCells (w.heap.size + 1) 0 t.cells.toList) := by
 have hl := h.l
 obtain ⟨X, x1, x2, x3⟩ := h.zo
 obtain ⟨G, g1, g2⟩ := h.zg
 have u : Upd [w.heap.size + 1] w1 (w1.setCells (w.heap.size + 1) 0 t.cells.toList) := (Upd.refl [w.heap.size + 1] w1).setCells (.inl (by simp)) _ _
 exact ⟨u.get h.zs (by simp), ⟨_, Ybg t x1 x2, St.size _, fun _ => rfl⟩, ⟨G, u.get g1 (by simp), fun hk => g2 (by rwa [Yp (by decide)] at hk)⟩, u.get h.zi (by simp <;> omega), u.get h.zf (by simp <;> omega), h.m.keep u (by simp <;> omega) (by simp <;> omega), h.u.also u (by simp <;> omega), hl⟩
theorem Yfg.putF (h : Yfg w a pb t F i ib M dn w1) : Yfg w a pb t F i ib M (Yai dn 10) (w1.setCells (w.heap.size + 1 + 1) 0 (Ys F).toList) := by
 have hl := h.l
 obtain ⟨X, x1, x2, x3⟩ := h.zo
 obtain ⟨G, g1, g2⟩ := h.zg
 have u : Upd [w.heap.size + 1 + 1] w1 (w1.setCells (w.heap.size + 1 + 1) 0 (Ys F).toList) := (Upd.refl [w.heap.size + 1 + 1] w1).setCells (.inl (by simp)) _ _
 exact ⟨u.get h.zs (by simp <;> omega), ⟨X, u.get x1 (by simp), x2, fun hk => x3 (by rwa [Yp (by decide)] at hk)⟩, ⟨F, by rw [Yaf _ _ _ _ g1]; rfl, fun _ => rfl⟩, u.get h.zi (by simp <;> omega), u.get h.zf (by simp <;> omega), h.m.keep u (by simp <;> omega) (by simp <;> omega), h.u.also u (by simp <;> omega), hl⟩
end
theorem Yhe {P : Program} {fn : Func} {tmps : Array Value} {w : World} {r0 r1 r2 r3 : ResultVar} {v0 v1 v2 v3 : Value} (h : fn.results = #[r0, r1, r2, r3]) (h0 : (Ybs tmps r0).run P w = .ok v0 w) (h1 : (Ybs tmps r1).run P w = .ok v1 w) (h2 : (Ybs tmps r2).run P w = .ok v2 w) (h3 : (Ybs tmps r3).run P w = .ok v3 w) : (results fn tmps).run P w = .ok (.tuple #[v0, v1, v2, v3]) w := by
 rw [Yfk, h]
 simp [Sem.run_bind, h0, h1, h2, h3]
theorem Yih (a pb : Nat) (s s2 : St) (i : Ins) (F : Flt) (M M2 : Mem) (w : World) (hM : Yj w a pb M) (hs : s.Ok) (hi : (Ya3 M s.pc).i = i) (hk : (Ya3 M s.pc).k = true)
  (hd : ∀ w1, Yj w1 a pb M → Calls Tryz.prog 15 #[.pointer (some ⟨a, 0, none⟩), .agg s.cells, .agg i.cells] w1 fun e w' => e = .returned (.tuple #[.agg s2.cells, F.val, .bool true]) ∧ Yj w' a pb M2 ∧ Upd [pb] w1 w') :
  Calls Tryz.prog 25 #[.pointer (some ⟨a, 0, none⟩), .agg s.cells] w fun e w' => e = .returned (.tuple #[.agg s2.cells, F.val, .bool true, .bool (i.op == 43)]) ∧ Yj w' a pb M2 ∧ Upd [pb] w w' := by
 obtain ⟨⟨fk, fp, fa, fw⟩, hF⟩ : ∃ f, (Ya3 M s.pc).f = f := ⟨_, rfl⟩
 obtain ⟨gk, gp, ga, gw⟩ := F
 have HM := Yh_ (And.intro hM (And.intro hs (And.intro hi (And.intro hF hk))))
 have HD := Yh_ hd
 have hpc : s.cells[8]? = some (.int .u32 s.pc) := rfl
 clear hM hs hi hF hk hd
 have tok0 : True := trivial
 go_enter Tryz.func25, Tryz.ntmps25
 go_wp2_with (first | (have _t := tok0; clear _t; go_at_call 21; refine (Yju M a pb s.pc _ (HM.out.1.keep (Yjn w s) (by simp) (by simp)) HM.out.2.1.pc).mono ?_; rintro e w1 ⟨rfl, hu⟩; rw [HM.out.2.2.1, HM.out.2.2.2.1, HM.out.2.2.2.2]; unfold Flt.val; have U1 := Yh_ (show Upd [] (stpW w s) w1 from hu); clear hu tok0) | (have _t := U1; clear _t; refine Ye 41 rfl ?_; refine Yc i w1.heap.size rfl _ _ rfl rfl rfl (heap_alloc2_old w1 (.cells Ins.zero.cells 41) (.cells #[.int .i64 0, .int .u32 0, .int .u32 0, .int .i64 0] 35)) rfl ?_; intro w2 hw; have h2 := Yme hw; have h3 := Yec.of (F := ⟨fk, fp, fa, fw⟩) HM.out.1 U1.out h2; dsimp only at h3; have c2 := Ya h2.2.1; have f2 := Yg h2.2.1; have H3 := Yh_ h3; clear h2 hw h3 U1) | (have _t := H3; clear _t; refine Yr 28 rfl ?_; refine Yy s w.heap.size rfl _ rfl rfl H3.out.zs ?_) | (have _t := H3; clear _t; refine Yr 41 rfl ?_; refine Yan i w1.heap.size rfl _ rfl rfl H3.out.zi ?_) | (have _t := H3; clear _t; go_at_call 15; refine (HD.out _ H3.out.m).mono ?_; rintro e w4 ⟨rfl, hm, hu⟩; unfold Flt.val; have H4 := Yh_ (H3.out.mem hm hu); clear hm hu H3 c2 f2) | (have _t := H4; clear _t; refine Ye 28 rfl ?_; refine Yap s2 w.heap.size rfl _ _ rfl rfl rfl H4.out.zs (St.size s) ?_; intro w5 hw; have h5 := H4.out.st hw; have h6 := h5.fl ⟨gk, gp, ga, gw⟩; dsimp only at h6; have cf := Ya h5.zf; have ff := Yg h5.zf; unfold Ys at cf; have H6 := Yh_ h6; clear hw h5 h6 H4))
 refine Yg9 12 (Yfg w a pb s2 ⟨gk, gp, ga, gw⟩ i w1.heap.size M2) (fun _ _ => False) (by kernel_rfl) (by decide +kernel) H6.out.b (fun _ _ _ h => h.elim) ?_
 simp only [List.take_succ_cons, List.take_zero, List.drop_succ_cons, List.drop_zero]
 apply Ya1 rfl rfl
 ·intro dn K hd hK w7 hB1
  refine Ybr s2 w.heap.size _ rfl rfl hB1.zs ?_
  go_simp
  first
  |exact hK _ (hB1.same _ (by decide) (by decide))
  |exact hB1.same _ (by decide) (by decide)
 ·exact ⟨_, rfl⟩
 iterate 4
  apply Ya1 rfl rfl
  ·intro dn K hd hK w7 hB1
   have cf := Ya hB1.zf
   unfold Ys at cf
   dsimp only at cf
   have c0 : w7.cell? ⟨w1.heap.size, 0, none⟩ = some (.int .i64 i.op) := Ya hB1.zi 0
   have HB := Yh_ hB1
   clear hB1
   go_wp2_with fail
   first
   |exact hK _ (HB.out.same _ (by decide) (by decide))
   |exact HB.out.same _ (by decide) (by decide)
  ·exact ⟨_, rfl⟩
 iterate 3
  apply Ya1 rfl rfl
  ·intro dn K hd hK w7 hB1
   have cf := Ya hB1.zf
   unfold Ys at cf
   dsimp only at cf
   have c0 : w7.cell? ⟨w1.heap.size, 0, none⟩ = some (.int .i64 i.op) := Ya hB1.zi 0
   have HB := Yh_ hB1
   clear hB1
   go_wp2_with fail
   first
   |exact hK _ (HB.out.same _ (by decide) (by decide))
   |exact HB.out.same _ (by decide) (by decide)
  ·exact ⟨_, rfl⟩
 iterate 1
  apply Ya1 rfl rfl
  ·intro dn K hd hK w7 hB1
   have cf := Ya hB1.zf
   unfold Ys at cf
   dsimp only at cf
   have c0 : w7.cell? ⟨w1.heap.size, 0, none⟩ = some (.int .i64 i.op) := Ya hB1.zi 0
   have HB := Yh_ hB1
   clear hB1
   go_wp2_with fail
   first
   |exact hK _ (HB.out.same _ (by decide) (by decide))
   |exact HB.out.same _ (by decide) (by decide)
  ·exact ⟨_, rfl⟩
 apply Ya1 rfl rfl
 ·intro dn K hd hK w7 hB1
  obtain ⟨X, x1, x2, _⟩ := hB1.zo
  refine Yb2 s2 (w.heap.size + 1) _ _ rfl rfl rfl x1 x2 ?_
  intro w8 hw
  rw [← hw]
  exact hK _ hB1.putS
 ·exact ⟨undef, rfl⟩
 apply Ya1 rfl rfl
 ·intro dn K hd hK w7 hB1
  obtain ⟨G, g1, _⟩ := hB1.zg
  refine Yby ⟨gk, gp, ga, gw⟩ G (w.heap.size + 1 + 1) _ _ rfl rfl rfl g1 ?_
  exact hK _ hB1.putF
 ·exact ⟨undef, rfl⟩
 iterate 1
  apply Ya1 rfl rfl
  ·intro dn K hd hK w7 hB1
   have cf := Ya hB1.zf
   unfold Ys at cf
   dsimp only at cf
   have c0 : w7.cell? ⟨w1.heap.size, 0, none⟩ = some (.int .i64 i.op) := Ya hB1.zi 0
   have HB := Yh_ hB1
   clear hB1
   go_wp2_with fail
   first
   |exact hK _ (HB.out.same _ (by decide) (by decide))
   |exact HB.out.same _ (by decide) (by decide)
  ·exact ⟨_, rfl⟩
 refine Ygb (fun _ w7 dn hall hB1 => ?_)
 obtain ⟨X, x1, x2, x3⟩ := hB1.zo
 obtain ⟨G, g1, g2⟩ := hB1.zg
 rw [x3 (hall 9 (by decide))] at x1
 rw [g2 (hall 10 (by decide))] at g1
 have H7 := Yh_ (And.intro x1 (And.intro g1 (And.intro hB1.m hB1.u)))
 clear hB1 x1 x2 x3 g1 g2 hall
 go_wp2_with fail
 exact bodyPost_ret (Yhe rfl (Ygd 4 (w.heap.size + 1) s2 rfl H7.out.1) (Ydj 5 (w.heap.size + 1 + 1) ⟨gk, gp, ga, gw⟩ rfl H7.out.2.1) (Yad 6 rfl) (Yad 7 rfl)) rfl ⟨rfl, H7.out.2.2.1, H7.out.2.2.2⟩
theorem Step_bad (a pb : Nat) (s s2 : St) (i : Ins) (F : Flt) (M M2 : Mem) (w : World) (hM : Yj w a pb M) (hs : s.Ok) (hi : (Ya3 M s.pc).i = i) (hk : (Ya3 M s.pc).k = true)
  (hd : ∀ w1, Yj w1 a pb M → Calls Tryz.prog 15 #[.pointer (some ⟨a, 0, none⟩), .agg s.cells, .agg i.cells] w1 fun e w' => e = .returned (.tuple #[.agg s2.cells, F.val, .bool false]) ∧ Yj w' a pb M2 ∧ Upd [pb] w1 w') :
  Calls Tryz.prog 25 #[.pointer (some ⟨a, 0, none⟩), .agg s.cells] w fun e w' => e = .returned (.tuple #[.agg s2.cells, F.val, .bool false, .bool false]) ∧ Yj w' a pb M2 ∧ Upd [pb] w w' := by
 obtain ⟨⟨fk, fp, fa, fw⟩, hF⟩ : ∃ f, (Ya3 M s.pc).f = f := ⟨_, rfl⟩
 obtain ⟨gk, gp, ga, gw⟩ := F
 have HM := Yh_ (And.intro hM (And.intro hs (And.intro hi (And.intro hF hk))))
 have HD := Yh_ hd
 have hpc : s.cells[8]? = some (.int .u32 s.pc) := rfl
 clear hM hs hi hF hk hd
 have tok0 : True := trivial
 go_enter Tryz.func25, Tryz.ntmps25
 go_wp2_with (first | (have _t := tok0; clear _t; go_at_call 21; refine (Yju M a pb s.pc _ (HM.out.1.keep (Yjn w s) (by simp) (by simp)) HM.out.2.1.pc).mono ?_; rintro e w1 ⟨rfl, hu⟩; rw [HM.out.2.2.1, HM.out.2.2.2.1, HM.out.2.2.2.2]; unfold Flt.val; have U1 := Yh_ (show Upd [] (stpW w s) w1 from hu); clear hu tok0) | (have _t := U1; clear _t; refine Ye 41 rfl ?_; refine Yc i w1.heap.size rfl _ _ rfl rfl rfl (heap_alloc2_old w1 (.cells Ins.zero.cells 41) (.cells #[.int .i64 0, .int .u32 0, .int .u32 0, .int .i64 0] 35)) rfl ?_; intro w2 hw; have h2 := Yme hw; have h3 := Yec.of (F := ⟨fk, fp, fa, fw⟩) HM.out.1 U1.out h2; dsimp only at h3; have c2 := Ya h2.2.1; have f2 := Yg h2.2.1; have H3 := Yh_ h3; clear h2 hw h3 U1) | (have _t := H3; clear _t; refine Yr 28 rfl ?_; refine Yy s w.heap.size rfl _ rfl rfl H3.out.zs ?_) | (have _t := H3; clear _t; refine Yr 41 rfl ?_; refine Yan i w1.heap.size rfl _ rfl rfl H3.out.zi ?_) | (have _t := H3; clear _t; go_at_call 15; refine (HD.out _ H3.out.m).mono ?_; rintro e w4 ⟨rfl, hm, hu⟩; unfold Flt.val; have H4 := Yh_ (H3.out.mem hm hu); clear hm hu H3 c2 f2) | (have _t := H4; clear _t; refine Ye 28 rfl ?_; refine Yap s2 w.heap.size rfl _ _ rfl rfl rfl H4.out.zs (St.size s) ?_; intro w5 hw; have h5 := H4.out.st hw; have h6 := h5.fl ⟨gk, gp, ga, gw⟩; dsimp only at h6; have cf := Ya h5.zf; have ff := Yg h5.zf; unfold Ys at cf; have H6 := Yh_ h6; clear hw h5 h6 H4))
 refine Yg9 12 (Yfg w a pb s2 ⟨gk, gp, ga, gw⟩ i w1.heap.size M2) (fun _ _ => False) (by kernel_rfl) (by decide +kernel) H6.out.b (fun _ _ _ h => h.elim) ?_
 simp only [List.take_succ_cons, List.take_zero, List.drop_succ_cons, List.drop_zero]
 apply Ya1 rfl rfl
 ·intro dn K hd hK w7 hB1
  refine Ybr s2 w.heap.size _ rfl rfl hB1.zs ?_
  go_simp
  first
  |exact hK _ (hB1.same _ (by decide) (by decide))
  |exact hB1.same _ (by decide) (by decide)
 ·exact ⟨_, rfl⟩
 iterate 4
  apply Ya1 rfl rfl
  ·intro dn K hd hK w7 hB1
   have cf := Ya hB1.zf
   unfold Ys at cf
   dsimp only at cf
   have c0 : w7.cell? ⟨w1.heap.size, 0, none⟩ = some (.int .i64 i.op) := Ya hB1.zi 0
   have HB := Yh_ hB1
   clear hB1
   go_wp2_with fail
   first
   |exact hK _ (HB.out.same _ (by decide) (by decide))
   |exact HB.out.same _ (by decide) (by decide)
  ·exact ⟨_, rfl⟩
 iterate 3
  refine Yo7 rfl rfl (fun dn w7 hd hB1 => hB1.same _ (by decide) (by decide)) ?_
 iterate 1
  apply Ya1 rfl rfl
  ·intro dn K hd hK w7 hB1
   have cf := Ya hB1.zf
   unfold Ys at cf
   dsimp only at cf
   have c0 : w7.cell? ⟨w1.heap.size, 0, none⟩ = some (.int .i64 i.op) := Ya hB1.zi 0
   have HB := Yh_ hB1
   clear hB1
   go_wp2_with fail
   first
   |exact hK _ (HB.out.same _ (by decide) (by decide))
   |exact HB.out.same _ (by decide) (by decide)
  ·exact ⟨_, rfl⟩
 apply Ya1 rfl rfl
 ·intro dn K hd hK w7 hB1
  obtain ⟨X, x1, x2, _⟩ := hB1.zo
  refine Yb2 s2 (w.heap.size + 1) _ _ rfl rfl rfl x1 x2 ?_
  intro w8 hw
  rw [← hw]
  exact hK _ hB1.putS
 ·exact ⟨undef, rfl⟩
 apply Ya1 rfl rfl
 ·intro dn K hd hK w7 hB1
  obtain ⟨G, g1, _⟩ := hB1.zg
  refine Yby ⟨gk, gp, ga, gw⟩ G (w.heap.size + 1 + 1) _ _ rfl rfl rfl g1 ?_
  exact hK _ hB1.putF
 ·exact ⟨undef, rfl⟩
 iterate 1
  apply Ya1 rfl rfl
  ·intro dn K hd hK w7 hB1
   have cf := Ya hB1.zf
   unfold Ys at cf
   dsimp only at cf
   have c0 : w7.cell? ⟨w1.heap.size, 0, none⟩ = some (.int .i64 i.op) := Ya hB1.zi 0
   have HB := Yh_ hB1
   clear hB1
   go_wp2_with fail
   first
   |exact hK _ (HB.out.same _ (by decide) (by decide))
   |exact HB.out.same _ (by decide) (by decide)
  ·exact ⟨_, rfl⟩
 refine Ygb (fun _ w7 dn hall hB1 => ?_)
 obtain ⟨X, x1, x2, x3⟩ := hB1.zo
 obtain ⟨G, g1, g2⟩ := hB1.zg
 rw [x3 (hall 9 (by decide))] at x1
 rw [g2 (hall 10 (by decide))] at g1
 have H7 := Yh_ (And.intro x1 (And.intro g1 (And.intro hB1.m hB1.u)))
 clear hB1 x1 x2 x3 g1 g2 hall
 go_wp2_with fail
 exact bodyPost_ret (Yhe rfl (Ygd 4 (w.heap.size + 1) s2 rfl H7.out.1) (Ydj 5 (w.heap.size + 1 + 1) ⟨gk, gp, ga, gw⟩ rfl H7.out.2.1) (Yad 6 rfl) (Yad 7 rfl)) rfl ⟨rfl, H7.out.2.2.1, H7.out.2.2.2⟩
end
def Mem.samePage (M N : Mem) (p : Nat) : Bool := (M.R p == N.R p) && (List.range 256).all fun j => M.B (p * 256 + j) == N.B (p * 256 + j)
def Mem.same (M N : Mem) : Bool := (List.range 64).all fun p => M.samePage N p
structure Yfn where
 pg : Int
 ct : Int
 rt : Int
 by_ : ByteArray
 deriving Inhabited
def Yfn.ok (s : Yfn) : Prop := -9223372036854775808 ≤ s.ct ∧ s.ct ≤ 9223372036854775807
def Yhx (w : World) (v : Value) (l : List Yfn) (g : Nat) : Prop :=
 (∃ a c, v = .slice a 0 c ∧ l = []) ∨
 ∃ o c, v = .slice (some ⟨g, o, none⟩) l.length c ∧ g < w.heap.size ∧ l.length ≤ 9223372036854775807 ∧ ∀ i s, l[i]? = some s → w.cell? ⟨g, o + i * 4, none⟩ = some (.int .i64 s.pg) ∧ w.cell? ⟨g, o + i * 4 + 1, none⟩ = some (.int .i64 s.ct) ∧ w.cell? ⟨g, o + i * 4 + 2, none⟩ = some (.int .i64 s.rt) ∧ w.cell? ⟨g, o + i * 4 + 3, none⟩ = some (.string s.by_)
theorem Yhx.keep {w w' : World} {v : Value} {l : List Yfn} {g : Nat} {S : List Nat} (h : Yhx w v l g) (u : Upd S w w') (hg : g ∉ S) : Yhx w' v l g := by
 rcases h with h | ⟨o, c, h1, h2, h4, h3⟩
 ·exact .inl h
 ·refine .inr ⟨o, c, h1, Nat.lt_of_lt_of_le h2 u.size, h4, fun i s hs => ?_⟩
  have e : ∀ k, w'.cell? ⟨g, k, none⟩ = w.cell? ⟨g, k, none⟩ := fun k => by
   simp only [World.cell?]; rw [u.block g h2 hg]
  rw [e, e, e, e]
  exact h3 i s hs
section
open Go.WideShapes Go.ChangeShapes
structure Yfn.Ok (s : Yfn) : Prop where
 pg : -9223372036854775808 ≤ s.pg ∧ s.pg ≤ 9223372036854775807
 ct : -9223372036854775808 ≤ s.ct ∧ s.ct ≤ 9223372036854775807
 rt : -9223372036854775808 ≤ s.rt ∧ s.rt ≤ 9223372036854775807
 by_ : s.by_.size ≤ maxLen
structure SArg (w : World) (v : Value) (L : List Yfn) (g : Nat) : Prop where
 sp : Yhx w v L g
 ok : ∀ s ∈ L, s.Ok
 len : L.length ≤ maxLen
 lt : g ≤ w.heap.size
 form : ∀ b n c, v = .slice b n c → n = L.length
theorem SArg.keep {w w' : World} {v : Value} {L : List Yfn} {g : Nat} (h : SArg w v L g) (u : Upd [] w w') : SArg w' v L g :=
 ⟨h.sp.keep u (by simp), h.ok, h.len, Nat.le_trans h.lt u.size, h.form⟩
end
def Mem.rat (M : Mem) (k : Nat) : Value := if k < 64 then .int .i64 (M.R k) else .int .u8 (M.B (k - 64))
structure Yiu (C : Array Value) (M : Mem) : Prop where
 size : C.size = 16448
 get : ∀ k, k < 16448 → C[k]? = some (M.rat k)
structure Yck (w : World) (r : Nat) (M : Mem) : Prop where
 ex : ∃ C, Yiu C M ∧ w.heap[r]? = some (.cells C 100 (0, 0))
 ok : M.Ok
theorem Yck.lt {w : World} {r : Nat} {M : Mem} (h : Yck w r M) : r < w.heap.size := by
 obtain ⟨C, _, h1⟩ := h.ex; exact Yk h1
theorem Yck.keep {w w' : World} {r : Nat} {M : Mem} {S : List Nat} (h : Yck w r M) (u : Upd S w w') (hr : r ∉ S) : Yck w' r M := by
 obtain ⟨C, h1, h2⟩ := h.ex
 exact ⟨⟨C, h1, u.get h2 hr⟩, h.ok⟩
theorem Yck.cR {w : World} {r : Nat} {M : Mem} (h : Yck w r M) (p : Nat) (hp : p < 64) : w.cell? ⟨r, p, none⟩ = some (.int .i64 (M.R p)) := by
 obtain ⟨C, h1, h2⟩ := h.ex
 rw [Ya h2, h1.get p (by omega), Mem.rat, if_pos hp]
theorem Yck.cB {w : World} {r : Nat} {M : Mem} (h : Yck w r M) (a : Nat) (ha : a < 16384) : w.cell? ⟨r, 64 + a, none⟩ = some (.int .u8 (M.B a)) := by
 obtain ⟨C, h1, h2⟩ := h.ex
 rw [Ya h2, h1.get _ (by omega), Mem.rat, if_neg (by omega), Nat.add_sub_cancel_left]
theorem Yck.free {w : World} {r : Nat} {M : Mem} (h : Yck w r M) (o : Nat) : w.frozen? ⟨r, o, none⟩ = false := by
 obtain ⟨C, h1, h2⟩ := h.ex
 exact Yg h2 o
theorem Yck.setR {w : World} {r : Nat} {M : Mem} (h : Yck w r M) (p : Nat) (v : Int) (hp : p < 64) (h0 : 0 ≤ v) (h7 : v ≤ 7) : Yck (w.setCell ⟨r, p, none⟩ (.int .i64 v)) r (M.setR p v) := by
 obtain ⟨C, h1, h2⟩ := h.ex
 refine ⟨⟨_, ⟨by rw [Array.size_setIfInBounds]; exact h1.size, fun k hk => ?_⟩, Yi h2 p _⟩, Mem.setR_ok h.ok p h0 h7⟩
 rw [Array.getElem?_setIfInBounds, h1.get k hk, h1.size]
 by_cases e : p = k
 ·subst e
  rw [if_pos rfl, if_pos (by omega), Mem.rat, if_pos hp]
  simp [Mem.setR]
 ·rw [if_neg e]
  simp only [Mem.rat, Mem.setR]
  by_cases hk2 : k < 64
  ·rw [if_pos hk2, if_pos hk2, if_neg (fun h => e h.symm)]
  ·rw [if_neg hk2, if_neg hk2]
theorem Yck.setB {w : World} {r : Nat} {M : Mem} (h : Yck w r M) (a : Nat) (v : Int) (ha : a < 16384) (h0 : 0 ≤ v) (h7 : v ≤ 255) : Yck (w.setCell ⟨r, 64 + a, none⟩ (.int .u8 v)) r (M.setB a v) := by
 obtain ⟨C, h1, h2⟩ := h.ex
 refine ⟨⟨_, ⟨by rw [Array.size_setIfInBounds]; exact h1.size, fun k hk => ?_⟩, Yi h2 _ _⟩, Mem.setB_ok h.ok a h0 h7⟩
 rw [Array.getElem?_setIfInBounds, h1.get k hk, h1.size]
 by_cases e : 64 + a = k
 ·subst e
  rw [if_pos rfl, if_pos (by omega), Mem.rat, if_neg (by omega), Nat.add_sub_cancel_left]
  simp [Mem.setB]
 ·rw [if_neg e]
  simp only [Mem.rat, Mem.setB]
  by_cases hk2 : k < 64
  ·rw [if_pos hk2, if_pos hk2]
  ·rw [if_neg hk2, if_neg hk2, if_neg (by omega)]
def Mem.mapM (M : Mem) (p n r : Int) : Mem := if M.mapB p n r then M.mapN p.toNat n.toNat r else M
theorem Yck.drew {w : World} {r : Nat} {M : Mem} (h : Yck w r M) : Yck w.drew r M := ⟨h.ex, h.ok⟩
structure Rep (v : Value) (l : List Value) (n : Nat) : Prop where
 eq : l = List.replicate n v
theorem Rep.append {v : Value} {l m : List Value} {a b : Nat} (h : Rep v l a) (k : Rep v m b) : Rep v (l.append m) (a + b) :=
 ⟨by rw [h.eq, k.eq]; exact List.replicate_append_replicate⟩
structure Rep2 (v u : Value) (l : List Value) (n m : Nat) : Prop where
 eq : l = List.replicate n v ++ List.replicate m u
theorem Rep2.append {v u : Value} {l l' : List Value} {n m m' : Nat} (h : Rep2 v u l n m) (k : Rep u l' m') : Rep2 v u (l.append l') n (m + m') :=
 ⟨by rw [h.eq, k.eq]; show (List.replicate n v ++ List.replicate m u) ++ List.replicate m' u = _; rw [List.append_assoc, List.replicate_append_replicate]⟩
theorem rat_one (M : Mem) (k : Nat) : (M.rat k).oneCell' = true := by
 unfold Mem.rat; split <;> rfl
theorem Yiu.one {C : Array Value} {M : Mem} (h : Yiu C M) : C.all (·.oneCell') = true := by
 rw [Array.all_eq_true]
 intro i hi
 have hi' : i < 16448 := by rw [← h.size]; exact hi
 have e := h.get i hi'
 rw [Array.getElem?_eq_getElem hi] at e
 injection e with e
 rw [e]
 exact rat_one M i
theorem Yck.new {w : World} {C : Array Value} {M : Mem} (h : Yiu C M) (hok : M.Ok) : Yck (w.alloc (.cells C 100 (0, 0))) w.heap.size M := ⟨⟨C, h, heap_alloc_new _ _⟩, hok⟩
section
open Go.WideShapes Go.ChangeShapes
def ByS0 (w : World) (v : Value) (l : List Int) (g : Nat) : Prop := (∃ a c, v = .slice a 0 c ∧ l = []) ∨ (l ≠ [] ∧ g < w.heap.size ∧ Yev w v l g)
theorem ByS0.keep {w w' : World} {v : Value} {l : List Int} {g : Nat} (h : ByS0 w v l g) (u : Upd [] w w') : ByS0 w' v l g := by
 rcases h with h | ⟨h0, h1, h2⟩
 ·exact .inl h
 ·exact .inr ⟨h0, Nat.lt_of_lt_of_le h1 u.size, h2.keep u (by simp)⟩
structure Yhy where
 wt : Int
 pg : Int
 ct : Int
 rt : Int
 nb : Int
 at_ : Int
 v : Int
 vb : Value
 vs : Value
 B : List Int
 S : List Yfn
 gb : Nat
 gs : Nat
def Yhy.cells (s : Yhy) : Array Value := #[.int .i64 s.wt, .int .i64 s.pg, .int .i64 s.ct, .int .i64 s.rt, .int .i64 s.nb, .int .u32 s.at_, .int .u32 s.v, s.vb, s.vs]
structure Yhy.Good (q : Yhy) (w : World) : Prop where
 pg : -9223372036854775808 ≤ q.pg ∧ q.pg ≤ 9223372036854775807
 ct : -9223372036854775808 ≤ q.ct ∧ q.ct ≤ 9223372036854775807
 nb : -9223372036854775808 ≤ q.nb ∧ q.nb ≤ 9223372036854775807
 at_ : 0 ≤ q.at_ ∧ q.at_ < 4294967296
 v : 0 ≤ q.v ∧ q.v < 4294967296
 b : ByS0 w q.vb q.B q.gb
 bl : ∀ i, 0 ≤ q.B.getD i 0 ∧ q.B.getD i 0 ≤ 255
 bn : q.B.length ≤ maxLen
 bf : ∃ b c, q.vb = .slice b q.B.length c
 sa : SArg w q.vs q.S q.gs
 sf : ∃ b c, q.vs = .slice b q.S.length c
theorem Yhy.Good.keep {s : Yhy} {w w' : World} (h : s.Good w) (u : Upd [] w w') : s.Good w' := ⟨h.pg, h.ct, h.nb, h.at_, h.v, h.b.keep u, h.bl, h.bn, h.bf, h.sa.keep u, h.sf⟩
end
def skMap : Mem := Mem.zero.mapM 0 1 7
def Ya9 : Mem := skMap.poke 0 [64, 80, 205, 128]
def skI1 : Ins := ⟨12, 0, Yaq 0, Opd.none, false, 1⟩
def Yf1 : Ins := ⟨28, 0, Yaq 0, Opd.none, false, 1⟩
def Yb7 : St := opS ((St.zero.goOn 1).setFl (Ya2 12 (opV Ya9 (St.zero.goOn 1) (Yaq 0) 4) 0 (St.zero.goOn 1).fl)) (Yaq 0) 4 (Ybl 12 (opV Ya9 (St.zero.goOn 1) (Yaq 0) 4) 0 (St.zero.goOn 1).fl)
def Ydf : St := Yb7.setR 4 100
def Ydm : St := (Ydf.goOn 1).setR 4 (((Ydf.goOn 1).R 4 - 4) % 4294967296)
def Yc2 : Mem := Ya9.writeM (((Ydf.goOn 1).R 4 - 4) % 4294967296) 4 (opV Ya9 (Ydf.goOn 1) (Yaq 0) 4)
def skS4 : St := Ydm.goOn 2
theorem sk_map : Mem.zero.mapB 0 1 7 = true := by decide +kernel
theorem sk_poke : skMap.pokeB 0 [64, 80, 205, 128] = true := by decide +kernel
theorem sk_1 : (Ya3 Ya9 0).k = true ∧ (Ya3 Ya9 0).i.eqB skI1 = true := by decide +kernel
theorem sk_2 : (Ya3 Ya9 1).k = true ∧ (Ya3 Ya9 1).i.eqB Yf1 = true := by decide +kernel
theorem sk_4 : (Ya3 Yc2 2).k = true ∧ (Ya3 Yc2 2).i.op = 43 ∧ (Ya3 Yc2 2).i.len = 2 ∧ (0 ≤ (Ya3 Yc2 2).i.a.imm ∧ (Ya3 Yc2 2).i.a.imm < 4294967296) ∧ (0 ≤ (Ya3 Yc2 2).i.a.sc ∧ (Ya3 Yc2 2).i.a.sc < 4294967296) ∧ (0 ≤ (Ya3 Yc2 2).i.b.imm ∧ (Ya3 Yc2 2).i.b.imm < 4294967296) ∧ (0 ≤ (Ya3 Yc2 2).i.b.sc ∧ (Ya3 Yc2 2).i.b.sc < 4294967296) := by decide +kernel
theorem Yf8 : Yb7.R 0 = 1 ∧ Yb7.pc = 1 ∧ Yb7.R 4 = 0 := by decide +kernel
theorem sk_s3 : Ydm.R 4 = 96 ∧ Ydm.pc = 2 ∧ skS4.pc = 4 := by decide +kernel
theorem Yiw : Ya9.writeK (((Yb7.goOn 1).R 4 - 4) % 4294967296) 4 = false ∧ (Ya9.wrF (((Yb7.goOn 1).R 4 - 4) % 4294967296) 4).k = 1 ∧ (Ya9.wrF (((Yb7.goOn 1).R 4 - 4) % 4294967296) 4).a = 4294967292 ∧ (Ya9.wrF (((Yb7.goOn 1).R 4 - 4) % 4294967296) 4).wt = 2 := by decide +kernel
theorem sk_k3 : Ya9.writeK (((Ydf.goOn 1).R 4 - 4) % 4294967296) 4 = true := by decide +kernel
theorem sk_i2 : (Ya3 Ya9 1).i = Yf1 := (Ins.eqB_iff _ _).1 sk_2.2
theorem sk_i1 : (Ya3 Ya9 0).i = skI1 := (Ins.eqB_iff _ _).1 sk_1.2
section
theorem Yp2 {M : Mem} {x b v : Int} (h : M.writeK x b = false) : M.writeM x b v = M := by
 unfold Mem.writeK at h
 unfold Mem.writeM
 cases hb : M.bad x 2 (Ybh b).toNat with
 |none => rw [hb] at h; simp at h
 |some k => rfl
theorem Yol (r : Int) : (Yaq r).Ok := ⟨show (0 : Int) ≤ 0 ∧ (0 : Int) < 4294967296 by decide, show (0 : Int) ≤ 0 ∧ (0 : Int) < 4294967296 by decide⟩
theorem sk_iok1 : skI1.Ok := ⟨Yol 0, ⟨by decide, by decide⟩⟩
theorem Yon : Yf1.Ok := ⟨Yol 0, ⟨by decide, by decide⟩⟩
theorem setFl_ok {s : St} (h : s.Ok) (f : Fl) : (s.setFl f).Ok := ⟨h.R, h.pc, h.f⟩
theorem sk_v1 : 0 ≤ Ybl 12 (opV Ya9 (St.zero.goOn 1) (Yaq 0) 4) 0 (St.zero.goOn 1).fl ∧ Ybl 12 (opV Ya9 (St.zero.goOn 1) (Yaq 0) 4) 0 (St.zero.goOn 1).fl < 4294967296 := by decide +kernel
theorem Ylb : Yb7.Ok := opS_ok (setFl_ok (St.goOn_ok St.zero_ok 1) _) _ _ sk_v1.1 sk_v1.2
theorem Ylh : Ydf.Ok := St.setR_ok Ylb 4 (by decide) (by decide)
theorem sk_x3 : 0 ≤ ((Ydf.goOn 1).R 4 - 4) % 4294967296 ∧ ((Ydf.goOn 1).R 4 - 4) % 4294967296 < 4294967296 := by omega
theorem sk_ok3 : Ydm.Ok := St.setR_ok (St.goOn_ok Ylh 1) 4 sk_x3.1 sk_x3.2
section
variable {w : World} {a pb : Nat}
theorem sk_step1 (hM : Yj w a pb Ya9) : Calls Tryz.prog 25 #[.pointer (some ⟨a, 0, none⟩), .agg St.zero.cells] w fun e w' => e = .returned (.tuple #[.agg Yb7.cells, Flt.zero.val, .bool true, .bool false]) ∧ Yj w' a pb Ya9 ∧ Upd [pb] w w' :=
 Yih a pb St.zero Yb7 skI1 Flt.zero Ya9 Ya9 w hM St.zero_ok sk_i1 sk_1.1 fun w1 h1 =>
  Do_ok a pb St.zero Yb7 skI1 Ya9 Ya9 w1 h1 St.zero_ok sk_iok1 fun d w2 _ hd =>
   (Yic d a pb (St.zero.goOn 1) skI1 Ya9 w2 hd (by decide) rfl rfl rfl).mono fun e w' h => ⟨h.1, h.2.1, h.2.2⟩
theorem sk_step2 (hM : Yj w a pb Ya9) : Calls Tryz.prog 25 #[.pointer (some ⟨a, 0, none⟩), .agg Yb7.cells] w fun e w' => e = .returned (.tuple #[.agg Yb7.cells, ({ Ya9.wrF (((Yb7.goOn 1).R 4 - 4) % 4294967296) 4 with pc := Yb7.pc } : Flt).val, .bool false, .bool false]) ∧ Yj w' a pb Ya9 ∧ Upd [pb] w w' :=
 Step_bad a pb Yb7 Yb7 Yf1 _ Ya9 Ya9 w hM Ylb (by rw [Yf8.2.1]; exact sk_i2) (by rw [Yf8.2.1]; exact sk_2.1) fun w1 h1 =>
  Do_bad a pb Yb7 Yf1 Ya9 Ya9 _ w1 h1 Ylb Yon fun d w2 _ hd =>
   Yj8 d a pb (Yb7.goOn 1) Yf1 Ya9 Ya9 _ w2 hd (by decide) fun w3 h3 =>
    (Yno d a pb (Yb7.goOn 1) Yf1 Ya9 w3 h3 rfl rfl Yiw.1).mono fun e w' h => ⟨h.1, by have := h.2.1; rwa [Yp2 Yiw.1] at this, h.2.2⟩
theorem sk_step3 (hM : Yj w a pb Ya9) : Calls Tryz.prog 25 #[.pointer (some ⟨a, 0, none⟩), .agg Ydf.cells] w fun e w' => e = .returned (.tuple #[.agg Ydm.cells, Flt.zero.val, .bool true, .bool false]) ∧ Yj w' a pb Yc2 ∧ Upd [pb] w w' :=
 Yih a pb Ydf Ydm Yf1 Flt.zero Ya9 Yc2 w hM Ylh (by show (Ya3 Ya9 Yb7.pc).i = _; rw [Yf8.2.1]; exact sk_i2) (by show (Ya3 Ya9 Yb7.pc).k = _; rw [Yf8.2.1]; exact sk_2.1) fun w1 h1 =>
  Do_ok a pb Ydf Ydm Yf1 Ya9 Yc2 w1 h1 Ylh Yon fun d w2 _ hd =>
   Ymd d a pb (Ydf.goOn 1) Ydm Yf1 Ya9 Yc2 w2 hd (by decide) fun w3 h3 =>
    Ypf d a pb (Ydf.goOn 1) Yf1 Ya9 w3 h3 rfl rfl sk_k3
theorem sk_step4 (hM : Yj w a pb Yc2) : Calls Tryz.prog 25 #[.pointer (some ⟨a, 0, none⟩), .agg Ydm.cells] w fun e w' => e = .returned (.tuple #[.agg skS4.cells, Flt.zero.val, .bool true, .bool true]) ∧ Yj w' a pb Yc2 ∧ Upd [pb] w w' := by
 obtain ⟨i, hi⟩ : ∃ i, (Ya3 Yc2 2).i = i := ⟨_, rfl⟩
 have h4 := sk_4
 rw [hi] at h4
 have hio : i.Ok := ⟨⟨h4.2.2.2.1, h4.2.2.2.2.1⟩, ⟨h4.2.2.2.2.2.1, h4.2.2.2.2.2.2⟩⟩
 have hs : Ydm.goOn i.len = skS4 := by rw [h4.2.2.1]; rfl
 have := Yih a pb Ydm skS4 i Flt.zero Yc2 Yc2 w hM sk_ok3 (by rw [sk_s3.2.1]; exact hi) (by rw [sk_s3.2.1]; exact h4.1) fun w1 h1 =>
  Do_ok a pb Ydm skS4 i Yc2 Yc2 w1 h1 sk_ok3 hio fun d w2 _ hd => hs ▸ does_43 d a pb (Ydm.goOn i.len) i Yc2 w2 hd h4.2.1
 rw [h4.2.1] at this
 exact this
end
end
theorem Ygr (M : Mem) (a pb : Nat) (p n r : Int) (w : World) (hM : Yj w a pb M) (hn : -9223372036854775808 ≤ n) :
  Calls Tryz.prog 14 #[.pointer (some ⟨a, 0, none⟩), .int .i64 p, .int .i64 n, .int .i64 r] w fun e w' => e = .returned (.int .i64 (errI (M.mapB p n r) 61)) ∧ Yj w' a pb (M.mapM p n r) ∧ Upd [pb] w w' := by
 cases h : M.mapB p n r
 ·refine (Map_no M a pb p n r w hM hn h).mono ?_
  rintro e w' ⟨h1, h2⟩
  exact ⟨h1, by rw [Mem.mapM, h]; exact hM.keep h2 (by simp) (by simp), h2.mono (by simp)⟩
 ·refine (Map_yes M a pb p n r w hM hn h).mono ?_
  rintro e w' ⟨h1, h2, h3⟩
  exact ⟨h1, by rw [Mem.mapM, h]; exact h2, h3⟩
section
theorem getDq_ok {l : List Int} (h : l.all (fun x => decide (0 ≤ x) && decide (x ≤ 255)) = true) : ∀ i, 0 ≤ l.getD i 0 ∧ l.getD i 0 ≤ 255 := by
 intro i
 rw [List.getD_eq_getElem?_getD]
 cases hi : l[i]? with
 |none => simp
 |some x =>
  have := List.all_eq_true.1 h x (List.mem_of_getElem? hi)
  simp only [Bool.and_eq_true, decide_eq_true_eq] at this
  simpa using this
theorem Yeu (n : Int) : errI true n = 0 := rfl
structure Kn (w : World) (a pb : Nat) (M : Mem) (L : List (Nat × Obj)) (w1 : World) : Prop where
 m : Yj w1 a pb M
 u : Upd [] w w1
 v : ∀ p ∈ L, w1.heap[p.1]? = some p.2
 s : L.Pairwise (fun p q => q.1 < p.1)
 t : ∀ p ∈ L, p.1 < w1.heap.size ∧ p.1 ≠ pb ∧ p.1 ≠ a
 l : w.heap.size ≤ pb
 w : ∀ p ∈ L, w.heap.size ≤ p.1
section
variable {w w1 w2 : World} {a pb : Nat} {M M2 : Mem} {L : List (Nat × Obj)} {T T2 : St} {F : Flt}
theorem Kn.step (h : Kn w a pb M L w1) (hm : Yj w2 a pb M2) (u : Upd [pb] w1 w2) : Kn w a pb M2 L w2 :=
 ⟨hm, h.u.also u (by have := h.l; simp <;> omega), fun p hp => u.get (h.v p hp) (by have := (h.t p hp).2.1; simpa using this), h.s, fun p hp => ⟨Nat.lt_of_lt_of_le (h.t p hp).1 u.size, (h.t p hp).2⟩, h.l, h.w⟩
theorem Ye9 (hw : ((w1.alloc (.cells St.zero.cells 28)).alloc (.cells #[.int .i64 0, .int .u32 0, .int .u32 0, .int .i64 0] 35)).setCells w1.heap.size 0 T.cells.toList = w2) :
  w2.heap[w1.heap.size]? = some (.cells T.cells 28 (0, 0)) ∧ w2.heap[w1.heap.size + 1]? = some (.cells #[.int .i64 0, .int .u32 0, .int .u32 0, .int .i64 0] 35 (0, 0)) ∧ Upd [] w1 w2 := by
 have u := ((Upd.refl [] w1).alloc (.cells St.zero.cells 28)).alloc (.cells #[.int .i64 0, .int .u32 0, .int .u32 0, .int .i64 0] 35)
 subst hw
 have u2 := (Upd.refl [w1.heap.size] ((w1.alloc (.cells St.zero.cells 28)).alloc (.cells #[.int .i64 0, .int .u32 0, .int .u32 0, .int .i64 0] 35))).setCells (q := w1.heap.size) (.inl (by simp)) T.cells.toList 0
 exact ⟨Ybg T (heap_alloc2_old w1 _ _) (St.size _), u2.get (heap_alloc2_new w1 (.cells St.zero.cells 28) (.cells #[.int .i64 0, .int .u32 0, .int .u32 0, .int .i64 0] 35)) (by simp), u.also u2 (by simp)⟩
theorem Kn.set {p1 p2 p3 : Nat × Obj} {b : Nat} (h : Kn w a pb M (p1 :: p2 :: p3 :: (b, .cells T.cells 28 (0, 0)) :: L) w1) (k : Nat) (hk : k < 8) (v : Int) : Kn w a pb M (p1 :: p2 :: p3 :: (b, .cells (T.setR k v).cells 28 (0, 0)) :: L) (w1.setCell ⟨b, k, none⟩ (.int .u32 v)) := by
 have hb := h.t (b, .cells T.cells 28 (0, 0)) (by simp)
 have u := (Upd.refl [b] w1).setCell (p := ⟨b, k, none⟩) (.inl (by simp)) (.int .u32 v)
 have hs := h.s
 simp only [List.pairwise_cons] at hs
 have hn : ∀ p, (p = p1 ∨ p = p2 ∨ p = p3 ∨ p ∈ L) → p.1 ∉ [b] := by
  intro p hp hh
  simp only [List.mem_singleton] at hh
  rcases hp with rfl | rfl | rfl | hp
  ·have := hs.1 (b, .cells T.cells 28 (0, 0)) (by simp); dsimp only at this; omega
  ·have := hs.2.1 (b, .cells T.cells 28 (0, 0)) (by simp); dsimp only at this; omega
  ·have := hs.2.2.1 (b, .cells T.cells 28 (0, 0)) (by simp); dsimp only at this; omega
  ·have := hs.2.2.2.1 p hp; omega
 refine ⟨h.m.keep u (by simpa using fun e => hb.2.2 e.symm) (by simpa using fun e => hb.2.1 e.symm), ?_, fun p hp => ?_, ?_, fun p hp => ?_, h.l, fun p hp => ?_⟩
 ·exact h.u.also u (fun x hx => .inr (by simp only [List.mem_singleton] at hx; rw [hx]; exact h.w (b, .cells T.cells 28 (0, 0)) (by simp)))
 ·simp only [List.mem_cons] at hp
  rcases hp with rfl | rfl | rfl | rfl | hp
  ·exact u.get (h.v _ (by simp)) (hn _ (.inl rfl))
  ·exact u.get (h.v _ (by simp)) (hn _ (.inr (.inl rfl)))
  ·exact u.get (h.v _ (by simp)) (hn _ (.inr (.inr (.inl rfl))))
  ·dsimp only; rw [← St.cells_setR T k v hk]; exact Yi (h.v (b, .cells T.cells 28 (0, 0)) (by simp)) k _
  ·exact u.get (h.v _ (by simp [hp])) (hn _ (.inr (.inr (.inr hp))))
 ·simp only [List.pairwise_cons]
  refine ⟨fun q hq => ?_, fun q hq => ?_, fun q hq => ?_, hs.2.2.2.1, hs.2.2.2.2⟩
  all_goals
   simp only [List.mem_cons] at hq
  ·rcases hq with rfl | rfl | rfl | hq
   ·exact hs.1 _ (by simp)
   ·exact hs.1 _ (by simp)
   ·exact hs.1 (b, .cells T.cells 28 (0, 0)) (by simp)
   ·exact hs.1 _ (by simp [hq])
  ·rcases hq with rfl | rfl | hq
   ·exact hs.2.1 _ (by simp)
   ·exact hs.2.1 (b, .cells T.cells 28 (0, 0)) (by simp)
   ·exact hs.2.1 _ (by simp [hq])
  ·rcases hq with rfl | hq
   ·exact hs.2.2.1 (b, .cells T.cells 28 (0, 0)) (by simp)
   ·exact hs.2.2.1 _ (by simp [hq])
 ·simp only [List.mem_cons] at hp
  rcases hp with rfl | rfl | rfl | rfl | hp
  ·exact ⟨Nat.lt_of_lt_of_le (h.t _ (by simp)).1 u.size, (h.t _ (by simp)).2⟩
  ·exact ⟨Nat.lt_of_lt_of_le (h.t _ (by simp)).1 u.size, (h.t _ (by simp)).2⟩
  ·exact ⟨Nat.lt_of_lt_of_le (h.t _ (by simp)).1 u.size, (h.t _ (by simp)).2⟩
  ·exact ⟨Nat.lt_of_lt_of_le hb.1 u.size, hb.2⟩
  ·exact ⟨Nat.lt_of_lt_of_le (h.t _ (by simp [hp])).1 u.size, (h.t _ (by simp [hp])).2⟩
 ·simp only [List.mem_cons] at hp
  rcases hp with rfl | rfl | rfl | rfl | hp
  ·exact h.w _ (by simp)
  ·exact h.w _ (by simp)
  ·exact h.w _ (by simp)
  ·exact h.w (b, .cells T.cells 28 (0, 0)) (by simp)
  ·exact h.w _ (by simp [hp])
theorem zero_new (hw : (w1.alloc (.cells St.zero.cells 28)).setCells w1.heap.size 0 St.zero.cells.toList = w2) : w2.heap[w1.heap.size]? = some (.cells St.zero.cells 28 (0, 0)) ∧ Upd [] w1 w2 := by
 subst hw
 exact ⟨Ybg St.zero (heap_alloc_new w1 _) (St.size _), ((Upd.refl [] w1).alloc _).setCells (.inr (Nat.le_refl _)) _ _⟩
theorem Kn.two (h : Kn w a pb M L w1) (h2 : w2.heap[w1.heap.size]? = some (.cells T.cells 28 (0, 0)) ∧ w2.heap[w1.heap.size + 1]? = some (.cells #[.int .i64 0, .int .u32 0, .int .u32 0, .int .i64 0] 35 (0, 0)) ∧ Upd [] w1 w2) :
  Kn w a pb M ((w1.heap.size + 1, .cells (Ys F) 35 (0, 0)) :: (w1.heap.size, .cells T.cells 28 (0, 0)) :: L) ((((w2.setCell ⟨w1.heap.size + 1, 0, none⟩ (.int .i64 F.k)).setCell ⟨w1.heap.size + 1, 1, none⟩ (.int .u32 F.pc)).setCell ⟨w1.heap.size + 1, 2, none⟩ (.int .u32 F.a)).setCell ⟨w1.heap.size + 1, 3, none⟩ (.int .i64 F.wt)) := by
 have hpb : pb < w1.heap.size := by obtain ⟨C, _, hc⟩ := h.m.pg; exact Yk hc
 have hab : a < w1.heap.size := by obtain ⟨C, _, hc⟩ := h.m.hd; exact Yk hc
 have hs := h.u.size
 have u4 := Yax (S := [w1.heap.size + 1]) (b := w1.heap.size + 1) (Upd.refl _ w2) (.inl (by simp)) (.int .i64 F.k) (.int .u32 F.pc) (.int .u32 F.a) (.int .i64 F.wt)
 have hf := Yc1 h2.2.1 (.int .i64 F.k) (.int .u32 F.pc) (.int .u32 F.a) (.int .i64 F.wt)
 have hl := Yk hf
 have u5 := h2.2.2.also (S' := [w1.heap.size + 1]) u4 (by simp)
 refine ⟨h.m.keep u5 (by simp) (by simp), h.u.also u5 (by simp), fun p hp => ?_, ?_, fun p hp => ?_, h.l, fun p hp => ?_⟩
 ·simp only [List.mem_cons] at hp
  rcases hp with rfl | rfl | hp
  ·exact hf
  ·exact u4.get h2.1 (by simp)
  ·exact u5.get (h.v p hp) (by simp)
 ·refine List.pairwise_cons.2 ⟨fun q hq => ?_, List.pairwise_cons.2 ⟨fun q hq => (h.t q hq).1, h.s⟩⟩
  simp only [List.mem_cons] at hq
  rcases hq with rfl | hq
  ·exact Nat.lt_succ_self _
  ·exact Nat.lt_succ_of_lt (h.t q hq).1
 ·simp only [List.mem_cons] at hp
  rcases hp with rfl | rfl | hp
  ·exact ⟨Nat.lt_of_lt_of_le (Yk h2.2.1) u4.size, by dsimp only; omega, by dsimp only; omega⟩
  ·exact ⟨Nat.lt_of_lt_of_le (Yk h2.1) u4.size, by dsimp only; omega, by dsimp only; omega⟩
  ·exact ⟨Nat.lt_of_lt_of_le (h.t p hp).1 u5.size, (h.t p hp).2⟩
 ·simp only [List.mem_cons] at hp
  rcases hp with rfl | rfl | hp
  ·exact Nat.le_succ_of_le hs
  ·exact hs
  ·exact h.w p hp
end
theorem sk_g10 : Ydf.cells[0]? = some (.int .u32 1) := by rw [St.cR Ydf 0 (by decide)]; show some (Value.int .u32 (Yb7.R 0)) = _; rw [Yf8.1]
theorem sk_g18 : Ydf.cells[8]? = some (.int .u32 1) := by show some (Value.int .u32 Yb7.pc) = _; rw [Yf8.2.1]
theorem sk_g38 : Yb7.cells[8]? = some (.int .u32 1) := by show some (Value.int .u32 Yb7.pc) = _; rw [Yf8.2.1]
theorem sk_g44 : Ydm.cells[4]? = some (.int .u32 96) := by rw [St.cR Ydm 4 (by decide), sk_s3.1]
theorem sk_g58 : skS4.cells[8]? = some (.int .u32 4) := by show some (Value.int .u32 skS4.pc) = _; rw [sk_s3.2.2]
theorem Ye2 (w : World) : Calls Tryz.prog 12 #[] w fun e w' => e = .returned (.bool true) ∧ Upd [] w w' := by
 have tok : True := trivial
 go_enter Tryz.func12, Tryz.ntmps12
 go_wp2_with (first | (have _t := tok; clear _t; go_at_call 13; refine (Ygs _).mono ?_; rintro e w1 ⟨a, pb, rfl, ha, hp, hM1, hu1⟩; clear tok) | (have _t := hM1; clear _t; go_at_call 14; refine (Ygr Mem.zero a pb 0 1 7 _ hM1 (by decide)).mono ?_; rintro e w2 ⟨rfl, hM2, hu2⟩; rw [sk_map, Yeu]; clear hM1) | (have _t := hM2; clear _t; go_at_call 20; refine (Poke_any skMap a pb 0 _ [64, 80, 205, 128] w2.heap.size _ (hM2.keep ((Upd.refl [] w2).alloc _) (by simp) (by simp)) (by decide) (by decide) (Yox w2 [64, 80, 205, 128] _ _ rfl) (by obtain ⟨C, _, hc⟩ := hM2.pg; have := Yk hc; omega) (getDq_ok (by decide)) (by simp [maxLen])).mono ?_; rintro e w3 ⟨rfl, hM3, hu3⟩; rw [sk_poke, Yeu]; have hS : ∀ x, x ∈ [pb] → x ∈ ([] : List Nat) ∨ w.heap.size ≤ x := (by intro x hx; simp only [List.mem_singleton] at hx; omega); have K3 := Yh_ (show Kn w a pb Ya9 [] w3 from ⟨hM3, ((hu1.also hu2 hS).alloc (.cells #[.int .u8 64, .int .u8 80, .int .u8 205, .int .u8 128] 5)).also hu3 hS, by simp, by simp, by simp, hp, by simp⟩); clear hM2 hu1 hu2 hu3 hS ha hp) | (have _t := K3; clear _t; refine Ye 28 rfl ?_; refine Yap St.zero w3.heap.size rfl _ _ rfl rfl rfl (heap_alloc_new w3 (.cells St.zero.cells 28)) rfl ?_; intro wz hw; have hz := zero_new hw; have KZ := Yh_ (And.intro (K3.out.step (K3.out.m.keep hz.2 (by simp) (by simp)) (hz.2.mono (by simp))) hz.1); clear hw hz K3) | (have _t := KZ; clear _t; refine Yr 28 rfl ?_; refine Yy St.zero w3.heap.size rfl _ rfl rfl KZ.out.2 ?_) | (have _t := KZ; clear _t; go_at_call 25; refine (sk_step1 KZ.out.1.m).mono ?_; rintro e w4 ⟨rfl, hm, hu⟩; unfold Flt.val Flt.zero; have K4 := Yh_ (KZ.out.1.step hm hu); clear hm hu KZ) | (have _t := K4; clear _t; refine Ye 28 rfl ?_; refine Yap Yb7 w4.heap.size rfl _ _ rfl rfl rfl (heap_alloc2_old w4 (.cells St.zero.cells 28) (.cells #[.int .i64 0, .int .u32 0, .int .u32 0, .int .i64 0] 35)) rfl ?_; intro w5 hw; have h2 := Ye9 hw; have h3 := K4.out.two (F := Flt.zero) h2; dsimp only [Flt.zero] at h3; have c4 := Ya h2.2.1; have f4 := Yg h2.2.1; have K5 := Yh_ h3; clear hw h2 h3 K4) | (have _t := K5; clear _t; refine Yr 28 rfl ?_; refine Yy Yb7 w4.heap.size rfl _ rfl rfl (K5.out.v (w4.heap.size, .cells Yb7.cells 28 (0, 0)) (by simp)) ?_) | (have _t := K5; clear _t; go_at_call 25; refine (sk_step2 K5.out.m).mono ?_; rintro e w6 ⟨rfl, hm, hu⟩; unfold Flt.val; dsimp only; rw [Yiw.2.1, Yiw.2.2.1, Yiw.2.2.2, Yf8.2.1]; have K6 := Yh_ (K5.out.step hm hu); clear hm hu K5 c4 f4) | (have _t := K6; clear _t; refine Ye 28 rfl ?_; refine Yap Yb7 w6.heap.size rfl _ _ rfl rfl rfl (heap_alloc2_old w6 (.cells St.zero.cells 28) (.cells #[.int .i64 0, .int .u32 0, .int .u32 0, .int .i64 0] 35)) rfl ?_; intro w7 hw; have h2 := Ye9 hw; have h3 := K6.out.two (F := ⟨1, 1, 4294967292, 2⟩) h2; dsimp only [Flt.zero] at h3; have c6 := Ya h2.2.1; have f6 := Yg h2.2.1; have K7 := Yh_ h3; clear hw h2 h3 K6; have c34 := Ya (K7.out.v (w4.heap.size, .cells Yb7.cells 28 (0, 0)) (by simp)) 4; rw [Yb7.cR 4 (by decide)] at c34; have f34 := Yg (K7.out.v (w4.heap.size, .cells Yb7.cells 28 (0, 0)) (by simp))) | (have _t := K7; clear _t; refine Yr 28 rfl ?_; have K7b := Yh_ (K7.out.set 4 (by decide) 100); refine Yy Ydf w4.heap.size rfl _ rfl rfl (K7b.out.v (w4.heap.size, .cells Ydf.cells 28 (0, 0)) (by simp [Ydf])) ?_; clear K7 c34 f34) | (have _t := K7b; clear _t; go_at_call 25; refine (sk_step3 K7b.out.m).mono ?_; rintro e w8 ⟨rfl, hm, hu⟩; unfold Flt.val Flt.zero; have K8 := Yh_ (K7b.out.step hm hu); clear hm hu K7b c6 f6) | (have _t := K8; clear _t; refine Ye 28 rfl ?_; refine Yap Ydm w8.heap.size rfl _ _ rfl rfl rfl (heap_alloc2_old w8 (.cells St.zero.cells 28) (.cells #[.int .i64 0, .int .u32 0, .int .u32 0, .int .i64 0] 35)) rfl ?_; intro w9 hw; have h2 := Ye9 hw; have h3 := K8.out.two (F := Flt.zero) h2; dsimp only [Flt.zero] at h3; have c8 := Ya h2.2.1; have f8 := Yg h2.2.1; have K9 := Yh_ h3; clear hw h2 h3 K8) | (have _t := K9; clear _t; refine Yr 28 rfl ?_; refine Yy Ydm w8.heap.size rfl _ rfl rfl (K9.out.v (w8.heap.size, .cells Ydm.cells 28 (0, 0)) (by simp)) ?_) | (have _t := K9; clear _t; go_at_call 25; refine (sk_step4 K9.out.m).mono ?_; rintro e w10 ⟨rfl, hm, hu⟩; unfold Flt.val Flt.zero; have K10 := Yh_ (K9.out.step hm hu); clear hm hu K9 c8 f8) | (have _t := K10; clear _t; refine Ye 28 rfl ?_; refine Yap skS4 w10.heap.size rfl _ _ rfl rfl rfl (heap_alloc2_old w10 (.cells St.zero.cells 28) (.cells #[.int .i64 0, .int .u32 0, .int .u32 0, .int .i64 0] 35)) rfl ?_; intro w11 hw; have h2 := Ye9 hw; have h3 := K10.out.two (F := Flt.zero) h2; dsimp only [Flt.zero] at h3; have c10 := Ya h2.2.1; have f10 := Yg h2.2.1; have K11 := Yh_ h3; clear hw h2 h3 K10; have g1 := Ya (K11.out.v (w4.heap.size, .cells Ydf.cells 28 (0, 0)) (by simp [Ydf])); have g10 := g1 0; have g18 := g1 8; rw [sk_g10] at g10; rw [sk_g18] at g18; have g2 := Ya (K11.out.v (w6.heap.size + 1, .cells (Ys ⟨1, 1, 4294967292, 2⟩) 35 (0, 0)) (by simp)); unfold Ys at g2; dsimp only at g2; have g38 := Ya (K11.out.v (w6.heap.size, .cells Yb7.cells 28 (0, 0)) (by simp)) 8; rw [sk_g38] at g38; have g44 := Ya (K11.out.v (w8.heap.size, .cells Ydm.cells 28 (0, 0)) (by simp)) 4; rw [sk_g44] at g44; have g58 := Ya (K11.out.v (w10.heap.size, .cells skS4.cells 28 (0, 0)) (by simp)) 8; rw [sk_g58] at g58; clear g1))
 go_ret
 exact ⟨rfl, K11.out.u⟩
end
theorem Mem.read_none {M : Mem} {x bytes right : Int} (h : M.bad x (Ybm right) (Ybh bytes).toNat = none) : M.readV x bytes right = M.get x (Ybh bytes).toNat ∧ M.readF x bytes right = .agg #[.int .i64 0, .int .u32 0, .int .u32 0, .int .i64 0] ∧ M.readK x bytes right = true := by
 refine ⟨?_, ?_, ?_⟩
 ·rw [Mem.readV, h]
 ·rw [Mem.readF, h]
 ·rw [Mem.readK, h]; rfl
def k1 : Mem := Mem.zero.mapN (0 : Int).toNat (1 : Int).toNat 3
def k2 : Mem := k1.putN 0 16909060 (Ybh 4).toNat
theorem can_page {M : Mem} {x r : Int} (h0 : 0 ≤ x) (h1 : x < 16384) (hr : bits .and .i64 (M.R (x / 256).toNat) r ≠ 0) : M.can x r = true := by
 simp only [Mem.can, Bool.and_eq_true, decide_eq_true_eq, Bool.not_eq_true', beq_eq_false_iff_ne]
 exact ⟨h1, hr⟩
theorem Yd7 {n : Int} (h : (Lit.int .u32 n).wf = true) : 0 ≤ n ∧ n < 4294967296 := by
 simp [Lit.wf, IntKind.min, IntKind.max, IntKind.signed, IntKind.bits] at h; omega
theorem wf_u8 {n : Int} (h : (Lit.int .u8 n).wf = true) : 0 ≤ n ∧ n < 256 := by
 simp [Lit.wf, IntKind.min, IntKind.max, IntKind.signed, IntKind.bits] at h; omega
theorem Yki (M : Mem) (x : Nat) (n : Nat) (r : Int) (hx : x + n ≤ 16384) (hp : ∀ t, t < n → bits .and .i64 (M.R ((x + t) / 256)) r ≠ 0) : M.bad x r n = none := by
 refine Yip M x r n fun t ht => ?_
 have e : Yah (x : Int) t = ((x + t : Nat) : Int) := by unfold Yah; omega
 rw [e]
 refine can_page (by omega) (by omega) ?_
 rw [show (((x + t : Nat) : Int) / 256).toNat = (x + t) / 256 from by omega]
 exact hp t ht
section
section
variable {w w1 w2 : World} {a pb : Nat} {M M2 : Mem} {L : List (Nat × Obj)}
theorem Kn.get (h : Kn w a pb M L w1) (n : Nat) {b : Nat} {o : Obj} (hn : L[n]? = some (b, o)) : w1.heap[b]? = some o :=
 h.v (b, o) (List.mem_of_getElem? hn)
theorem Kn.put (h : Kn w a pb M L w1) (n : Nat) {b : Nat} {o o' : Obj} (hn : L[n]? = some (b, o)) (u : Upd [b] w1 w2) (ho : w2.heap[b]? = some o') : Kn w a pb M (L.set n (b, o')) w2 := by
 have hb := h.t (b, o) (List.mem_of_getElem? hn)
 have hw := h.w (b, o) (List.mem_of_getElem? hn)
 obtain ⟨hl, he⟩ := List.getElem?_eq_some_iff.1 hn
 have hs := List.pairwise_iff_getElem.1 h.s
 have hc : ∀ p, p ∈ L.set n (b, o') → p = (b, o') ∨ (p ∈ L ∧ p.1 ≠ b) := by
  intro p hp
  obtain ⟨j, hj⟩ := List.mem_iff_getElem?.1 hp
  rw [List.getElem?_set] at hj
  by_cases e : n = j
  ·subst e
   simp only [if_true, hl] at hj
   exact .inl (Option.some.inj hj).symm
  ·simp only [e, if_false] at hj
   obtain ⟨hl2, he2⟩ := List.getElem?_eq_some_iff.1 hj
   refine .inr ⟨List.mem_of_getElem? hj, fun hh => ?_⟩
   rcases Nat.lt_or_gt_of_ne e with h1 | h1
   ·have := hs n j hl hl2 h1; rw [he, he2, hh] at this; exact Nat.lt_irrefl _ this
   ·have := hs j n hl2 hl h1; rw [he, he2, hh] at this; exact Nat.lt_irrefl _ this
 refine ⟨h.m.keep u (by simpa using fun e => hb.2.2 e.symm) (by simpa using fun e => hb.2.1 e.symm), h.u.also u (fun x hx => .inr (by rw [List.mem_singleton.1 hx]; exact hw)), fun p hp => ?_, ?_, fun p hp => ?_, h.l, fun p hp => ?_⟩
 ·rcases hc p hp with rfl | ⟨h1, h2⟩
  ·exact ho
  ·exact u.get (h.v p h1) (by simpa using h2)
 ·refine List.pairwise_iff_getElem.2 fun i j hi hj hij => ?_
  rw [List.length_set] at hi hj
  have h1 : ∀ q (hq : q < L.length) (hq2 : q < (L.set n (b, o')).length), ((L.set n (b, o'))[q]).1 = (L[q]).1 := by
   intro q hq hq2
   rw [List.getElem_set]
   split
   ·rename_i e; subst e; rw [he]
   ·rfl
  rw [h1 i hi (by rw [List.length_set]; exact hi), h1 j hj (by rw [List.length_set]; exact hj)]
  exact hs i j hi hj hij
 ·rcases hc p hp with rfl | ⟨h1, h2⟩
  ·exact ⟨Nat.lt_of_lt_of_le hb.1 u.size, hb.2⟩
  ·exact ⟨Nat.lt_of_lt_of_le (h.t p h1).1 u.size, (h.t p h1).2⟩
 ·rcases hc p hp with rfl | ⟨h1, h2⟩
  ·exact hw
  ·exact h.w p h1
theorem Kn.add (h : Kn w a pb M L w1) (u : Upd [] w1 w2) {b : Nat} {o : Obj} (hb : w1.heap.size ≤ b) (ho : w2.heap[b]? = some o) : Kn w a pb M ((b, o) :: L) w2 := by
 have hpb : pb < w1.heap.size := by obtain ⟨C, _, hc⟩ := h.m.pg; exact Yk hc
 have hab : a < w1.heap.size := by obtain ⟨C, _, hc⟩ := h.m.hd; exact Yk hc
 have hs := h.u.size
 refine ⟨h.m.keep u (by simp) (by simp), h.u.also u (by simp), fun p hp => ?_, List.pairwise_cons.2 ⟨fun q hq => Nat.lt_of_lt_of_le (h.t q hq).1 hb, h.s⟩, fun p hp => ?_, h.l, fun p hp => ?_⟩
 ·rcases List.mem_cons.1 hp with rfl | hp
  ·exact ho
  ·exact u.get (h.v p hp) (by simp)
 ·rcases List.mem_cons.1 hp with rfl | hp
  ·exact ⟨Yk ho, by dsimp only; omega, by dsimp only; omega⟩
  ·exact ⟨Nat.lt_of_lt_of_le (h.t p hp).1 u.size, (h.t p hp).2⟩
 ·rcases List.mem_cons.1 hp with rfl | hp
  ·exact Nat.le_trans hs hb
  ·exact h.w p hp
end
section
variable {w : World} {a pb : Nat} {M : Mem} {s : St}
end
end
section
open Go.WideShapes Go.ChangeShapes
theorem wf_u64 {n : Int} (h : (Lit.int .u64 n).wf = true) : 0 ≤ n ∧ n < 18446744073709551616 := by
 simp [Lit.wf, IntKind.min, IntKind.max, IntKind.signed, IntKind.bits] at h; omega
theorem Ype {H : Type} {enc : TypeId × Value → H} {w : World} {base : Nat} {spare : Nat → Bool} {held : Bool} {r : Reach} {b0 : Nat} {v : Value} {d : DataW H} {p : List MemPlace}
  (hv : Value.okWide Tryz.prog w r b0 28 v) (h : DataW.Trod enc Tryz.prog w base spare held 28 v d p) : ∃ s : St, v = .agg s.cells ∧ s.Ok := by
 obtain ⟨cs, rfl, hs, hc⟩ := Yoe (t := 28) (by kernel_rfl) hv h
 have hs : cs.size = 17 := hs.trans (by kernel_rfl)
 obtain ⟨_, e0, z0, rfl, w0⟩ := hc 8 0 (.int .u32) (by kernel_rfl)
 obtain ⟨_, e1, z1, rfl, w1⟩ := hc 8 1 (.int .u32) (by kernel_rfl)
 obtain ⟨_, e2, z2, rfl, w2⟩ := hc 8 2 (.int .u32) (by kernel_rfl)
 obtain ⟨_, e3, z3, rfl, w3⟩ := hc 8 3 (.int .u32) (by kernel_rfl)
 obtain ⟨_, e4, z4, rfl, w4⟩ := hc 8 4 (.int .u32) (by kernel_rfl)
 obtain ⟨_, e5, z5, rfl, w5⟩ := hc 8 5 (.int .u32) (by kernel_rfl)
 obtain ⟨_, e6, z6, rfl, w6⟩ := hc 8 6 (.int .u32) (by kernel_rfl)
 obtain ⟨_, e7, z7, rfl, w7⟩ := hc 8 7 (.int .u32) (by kernel_rfl)
 obtain ⟨_, e8, z8, rfl, w8⟩ := hc 8 8 (.int .u32) (by kernel_rfl)
 obtain ⟨_, e9, z9, rfl⟩ := hc 8 9 .bool (by kernel_rfl)
 obtain ⟨_, e10, z10, rfl⟩ := hc 8 10 .bool (by kernel_rfl)
 obtain ⟨_, e11, z11, rfl⟩ := hc 8 11 .bool (by kernel_rfl)
 obtain ⟨_, e12, z12, rfl⟩ := hc 8 12 .bool (by kernel_rfl)
 obtain ⟨_, e13, z13, rfl⟩ := hc 8 13 .bool (by kernel_rfl)
 obtain ⟨_, e14, z14, rfl⟩ := hc 8 14 .bool (by kernel_rfl)
 obtain ⟨_, e15, z15, rfl⟩ := hc 8 15 .bool (by kernel_rfl)
 obtain ⟨_, e16, z16, rfl, w16⟩ := hc 8 16 (.int .u64) (by kernel_rfl)
 have w0 := Yd7 w0
 have w1 := Yd7 w1
 have w2 := Yd7 w2
 have w3 := Yd7 w3
 have w4 := Yd7 w4
 have w5 := Yd7 w5
 have w6 := Yd7 w6
 have w7 := Yd7 w7
 have w8 := Yd7 w8
 have w16 := wf_u64 w16
 refine ⟨⟨fun i => if i = 0 then z0 else if i = 1 then z1 else if i = 2 then z2 else if i = 3 then z3 else if i = 4 then z4 else if i = 5 then z5 else if i = 6 then z6 else if i = 7 then z7 else 0, z8, z9, z10, z11, z12, z13, z14, z15, z16⟩, ?_, ?_, ?_, ?_⟩
 ·congr 1
  apply Array.ext_getElem?
  intro j
  by_cases hj : j < 17
  ·match j, hj with
   |0, _ => exact e0
   |1, _ => exact e1
   |2, _ => exact e2
   |3, _ => exact e3
   |4, _ => exact e4
   |5, _ => exact e5
   |6, _ => exact e6
   |7, _ => exact e7
   |8, _ => exact e8
   |9, _ => exact e9
   |10, _ => exact e10
   |11, _ => exact e11
   |12, _ => exact e12
   |13, _ => exact e13
   |14, _ => exact e14
   |15, _ => exact e15
   |16, _ => exact e16
   |j + 17, h => omega
  ·rw [Array.getElem?_eq_none (by omega), Array.getElem?_eq_none (by rw [St.size]; omega)]
 ·intro i
  simp only
  repeat' split
  all_goals omega
 ·exact w8
 ·exact w16
end
section
section
variable {w w0 w1 w2 : World} {a pb : Nat} {M M2 : Mem} {L : List (Nat × Obj)} {T s' : St} {b : Nat}
theorem Kn.start1 {c : Array Value} {t : TypeId} (hu0 : Upd [] (w.alloc (.cells c t)) w0) (ha : w0.heap.size ≤ a) (hp : w0.heap.size ≤ pb) (hM : Yj w1 a pb M) (hu1 : Upd [] w0 w1) : Kn w a pb M [(w.heap.size, .cells c t (0, 0))] w1 := by
 have u := ((Upd.refl [] w).alloc (.cells c t)).also hu0 (by simp)
 have h0 := hu0.get (heap_alloc_new w (.cells c t)) (by simp)
 have hl := Yk h0
 have hs := hu1.size
 refine ⟨hM, u.also hu1 (by simp), fun p hp => ?_, List.pairwise_singleton _ _, fun p hp => ?_, Nat.le_trans u.size hp, fun p hp => ?_⟩
 ·rw [List.mem_singleton.1 hp]; exact hu1.get h0 (by simp)
 ·rw [List.mem_singleton.1 hp]; dsimp only; omega
 ·rw [List.mem_singleton.1 hp]; exact Nat.le_refl _
end
end
end Go.Proofs.YthakgjpejhjaoaaGreat
