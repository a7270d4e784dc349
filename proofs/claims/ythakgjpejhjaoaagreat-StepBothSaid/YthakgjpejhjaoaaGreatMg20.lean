/-
  Parts of the proof (their names shortened by a program). No condition.
-/
import Derived.Test.YthakgjpejhjaoaaGreatMg01
import Derived.Test.YthakgjpejhjaoaaGreatMg17
import Derived.Test.YthakgjpejhjaoaaGreatMg18
import Derived.Test.YthakgjpejhjaoaaGreatMg19
namespace Go.Proofs.YthakgjpejhjaoaaGreat
open Go Go.RowKit
set_option linter.unusedVariables false
set_option linter.unusedSimpArgs false
set_option maxRecDepth 100000
set_option maxHeartbeats 16000000
section
structure DrF (w : World) (d a pb cb : Nat) (s : St) (i : Ins) (M : Mem) (f : Nat) (dn : Nat → Bool) (r : Nat → Value) (w1 : World) : Prop where
 b : Yx w1 d a pb s i M
 o : w1.heap[cb]? = some (.cells i.cells 41 (0, 0))
 u : Upd [d, pb] w w1
 y : dn f = true → ∃ g, r f = .pointer (some ⟨g, 0, none⟩) ∧ cb < g ∧ w1.heap[g]? = some (.cells Fl.zero.cells 25 (0, 0))
section
variable {w w1 w2 : World} {d a pb cb : Nat} {s : St} {i : Ins} {M : Mem} {f : Nat} {dn : Nat → Bool} {r : Nat → Value}
theorem DrF.start (h : Yx w1 d a pb s i M) (ho : w1.heap[cb]? = some (.cells i.cells 41 (0, 0))) (u : Upd [d, pb] w w1) (r : Nat → Value) : DrF w d a pb cb s i M f (fun _ => false) r w1.drew :=
 ⟨h.keep (Upd.refl [] _).drew (by simp) (by simp) (by simp), ((Upd.refl [] _).drew).get ho (by simp), u.drew, fun h => (by cases h)⟩
theorem DrF.quiet (h : DrF w d a pb cb s i M f dn r w1) (u : Upd [] w1 w2) (m : Nat) (h1 : f ≠ m) : DrF w d a pb cb s i M f (Yai dn m) r w2 := by
 refine ⟨h.b.keep u (by simp) (by simp) (by simp), u.get h.o (by simp), h.u.also u (by simp), fun hy => ?_⟩
 rw [Yp h1] at hy
 obtain ⟨g, e1, e2, e3⟩ := h.y hy
 exact ⟨g, e1, e2, u.get e3 (by simp)⟩
theorem DrF.same (h : DrF w d a pb cb s i M f dn r w1) (m : Nat) (h1 : f ≠ m) : DrF w d a pb cb s i M f (Yai dn m) r w1 := h.quiet (Upd.refl [] w1) m h1
theorem DrF.lay (h : DrF w d a pb cb s i M f dn r w1) : DrF w d a pb cb s i M f (Yai dn f) (Ycw r f (.pointer (some ⟨w1.heap.size, 0, none⟩))) (w1.alloc (.cells #[.bool false, .bool false, .bool false, .bool false, .bool false, .bool false] 25)) := by
 have u := (Upd.refl [] w1).alloc (.cells #[.bool false, .bool false, .bool false, .bool false, .bool false, .bool false] 25)
 exact ⟨h.b.keep u (by simp) (by simp) (by simp), u.get h.o (by simp), h.u.also u (by simp), fun _ => ⟨_, Yfm, Yk h.o, heap_alloc_new _ _⟩⟩
theorem dr_setfl (a : Nat) (s : St) (i : Ins) (F : Fl) : wr (Ybv a s i) 10 F.cells.toList = Ybv a (s.setFl F) i := by kernel_rfl
theorem Yx.putFl (h : Yx w d a pb s i M) (F : Fl) : Yx (w.setCells d 10 F.cells.toList) d a pb (s.setFl F) i M := by
 refine ⟨?_, h.m.keep ((Upd.refl [d] w).setCells (.inl (by simp)) _ _) (by simpa using fun e => h.na e.symm) (by simpa using fun e => h.np e.symm), ⟨h.ok.R, h.ok.pc, h.ok.f⟩, h.io, h.na, h.np⟩
 rw [Yaf _ _ _ _ h.h, dr_setfl]
theorem Yfy (F : Fl) : F.cells.all (·.oneCell') = true := by simp [Fl.cells, Value.oneCell']
theorem fl_new {g : Nat} {F G : Fl} {t : TypeId} (hw : w.setCells g 0 F.cells.toList = w2) (hb : w.heap[g]? = some (.cells G.cells t (0, 0))) : w2.heap[g]? = some (.cells F.cells t (0, 0)) ∧ Upd [g] w w2 := by
 subst hw
 exact ⟨by rw [Yaf _ _ _ _ hb]; rfl, (Upd.refl [g] w).setCells (.inl (by simp)) _ _⟩
end
theorem Ykc (d a pb : Nat) (s : St) (i : Ins) (M : Mem) (w : World) (h : Yx w d a pb s i M) (hop : 12 ≤ i.op ∧ i.op ≤ 15) (hc : Ybt M s i.a 4 3 = false) :
  Calls Tryz.prog 32 #[.pointer (some ⟨d, 0, none⟩)] w fun e w' => e = .panicked [{ v := .iface 35 (Yct M s i.a 4 3).val, recovered := false }] ∧ Yj w' a pb M ∧ Upd [d, pb] w w' := by
 have HD := Yh_ h
 have tokL : True := trivial
 have tokS : True := trivial
 obtain ⟨op, ho⟩ : ∃ op, i.op = op := ⟨_, rfl⟩
 rw [ho] at hop
 have e1 : decide (3 ≤ op) = true := by simp; omega
 have e2 : decide (op ≤ 11) = false := by simp; omega
 have e3 : decide (12 ≤ op) = true := by simp; omega
 have e4 : decide (op ≤ 15) = true := by simp; omega
 have HC := Yh_ hc
 clear h hop hc
 go_enter Tryz.func32, Tryz.ntmps32
 go_wp2_with (first | (have _t := tokL; clear _t tokL; refine Yr 41 rfl ?_; refine wpList_load_mid rfl 41 _ rfl d 18 rfl i.cells.toList _ HD.out.ri Tryz.underlying41 rfl (by rw [Array.length_toList, Ins.size]; exact Yb0) ?_; rw [Array.toArray_toList]) | (have _t := tokS; clear _t tokS; refine Ye 41 rfl ?_; refine Yc i w.heap.size rfl _ _ rfl rfl rfl (heap_alloc_new w (.cells Ins.zero.cells 41)) rfl ?_; intro w3 hw; have h3 := Yej HD.out hw; have ci := Ya h3.2.1; unfold Ins.cells at ci; have H3 := Yh_ h3; clear hw h3) | (have _t := H3; clear _t; go_at_call 46; refine (Yhq d a pb s i M i.a _ H3.out.1 HC.out).mono ?_; rintro e w4 ⟨rfl, hu⟩; have H4 := Yh_ (And.intro (H3.out.1.keep hu (by simp) (by simp) (by simp)) (And.intro (hu.get H3.out.2.1 (by simp)) (H3.out.2.2.also hu (by simp)))); clear hu H3 ci))
 exact ⟨rfl, rfl, H4.out.1.m, H4.out.2.2⟩
theorem Yic (d a pb : Nat) (s : St) (i : Ins) (M : Mem) (w : World) (h : Yx w d a pb s i M) (hop : 12 ≤ i.op ∧ i.op ≤ 15) (hc : Ybt M s i.a 4 3 = true) (hr : opK M s i.a 4 = true)
  (hw : Yc5 M (s.setFl (Ya2 i.op (opV M s i.a 4) 0 s.fl)) i.a 4 = true) :
  Calls Tryz.prog 32 #[.pointer (some ⟨d, 0, none⟩)] w fun e w' => e = .returned (.tuple #[]) ∧ Yx w' d a pb (opS (s.setFl (Ya2 i.op (opV M s i.a 4) 0 s.fl)) i.a 4 (Ybl i.op (opV M s i.a 4) 0 s.fl)) i (opM M (s.setFl (Ya2 i.op (opV M s i.a 4) 0 s.fl)) i.a 4 (Ybl i.op (opV M s i.a 4) 0 s.fl)) ∧ Upd [d, pb] w w' := by
 have HRV := Yh_ (Yb6 h i.a h.io.a 4)
 have HD := Yh_ h
 have tokL : True := trivial
 have tokS : True := trivial
 obtain ⟨op, ho⟩ : ∃ op, i.op = op := ⟨_, rfl⟩
 rw [ho] at hop hw ⊢
 have e1 : decide (3 ≤ op) = true := by simp; omega
 have e2 : decide (op ≤ 11) = false := by simp; omega
 have e3 : decide (12 ≤ op) = true := by simp; omega
 have e4 : decide (op ≤ 15) = true := by simp; omega
 have HI := Yh_ h.io
 have HOP := Yh_ (show Ydh op = true by simp only [Ydh, Bool.and_eq_true, decide_eq_true_eq]; omega)
 obtain ⟨v, hv⟩ : ∃ v, opV M s i.a 4 = v := ⟨_, rfl⟩
 rw [hv] at hw HRV ⊢
 obtain ⟨V, hV⟩ : ∃ V, Ybl op v 0 s.fl = V := ⟨_, rfl⟩
 have HVR := Yh_ (show 0 ≤ V ∧ V < 4294967296 from hV ▸ Ygx op v 0 s.fl HRV.out (by decide))
 obtain ⟨⟨x0, x1, x2, x3, x4, x5⟩, hF⟩ : ∃ F, Ya2 op v 0 s.fl = F := ⟨_, rfl⟩
 rw [hF] at hw ⊢
 rw [hV]
 have HC := Yh_ (And.intro hc (And.intro hr (And.intro hw (And.intro hv (And.intro hV hF)))))
 have HCC := Yh_ hc
 clear h hop hc hr hw hv hV hF
 go_enter Tryz.func32, Tryz.ntmps32
 go_wp2_with (first | (have _t := tokL; clear _t tokL; refine Yr 41 rfl ?_; refine wpList_load_mid rfl 41 _ rfl d 18 rfl i.cells.toList _ HD.out.ri Tryz.underlying41 rfl (by rw [Array.length_toList, Ins.size]; exact Yb0) ?_; rw [Array.toArray_toList]) | (have _t := tokS; clear _t tokS; refine Ye 41 rfl ?_; refine Yc i w.heap.size rfl _ _ rfl rfl rfl (heap_alloc_new w (.cells Ins.zero.cells 41)) rfl ?_; intro w3 hw; have h3 := Yej HD.out hw; have ci := Ya h3.2.1; unfold Ins.cells at ci; have H3 := Yh_ h3; clear hw h3) | (have _t := H3; clear _t; go_at_call 46; refine (Yft d a pb s i M i.a _ H3.out.1 HCC.out).mono ?_; rintro e w4 ⟨rfl, hu⟩; have H4 := Yh_ (And.intro (H3.out.1.keep hu (by simp) (by simp) (by simp)) (And.intro (hu.get H3.out.2.1 (by simp)) (H3.out.2.2.also hu (by simp)))); clear hu H3 ci))
 refine Yaz 16 (DrF w d a pb w.heap.size s i M 14) (fun _ _ => False) (by kernel_rfl) (by decide +kernel) (fun r0 => DrF.start H4.out.1 H4.out.2.1 H4.out.2.2 r0) (fun _ _ _ h => h.elim) ?_
 simp only [List.take_succ_cons, List.take_zero, List.drop_succ_cons, List.drop_zero]
 iterate 4
  apply Yd rfl rfl
  ·intro dn r0 K hd hdep hK w5 hB1
   have c10 : w5.cell? ⟨d, 10, none⟩ = some (.bool s.cf) := hB1.b.cell 10
   have c11 : w5.cell? ⟨d, 11, none⟩ = some (.bool s.pf) := hB1.b.cell 11
   have c12 : w5.cell? ⟨d, 12, none⟩ = some (.bool s.af) := hB1.b.cell 12
   have c13 : w5.cell? ⟨d, 13, none⟩ = some (.bool s.zf) := hB1.b.cell 13
   have c14 : w5.cell? ⟨d, 14, none⟩ = some (.bool s.sf) := hB1.b.cell 14
   have c15 : w5.cell? ⟨d, 15, none⟩ = some (.bool s.of_) := hB1.b.cell 15
   have ci := Ya hB1.o
   unfold Ins.cells at ci
   have HB := Yh_ hB1
   clear hB1 hdep
   go_wp2_with fail
   first
   |exact hK _ (HB.out.same _ (by decide))
   |exact HB.out.same _ (by decide)
  ·exact ⟨_, rfl⟩
 apply Yd rfl rfl
 ·intro dn r0 K hd hdep hK w5 hB1
  have HB := Yh_ hB1
  clear hB1 hdep
  go_wp2_with (go_at_call 48; refine (Ycs d a pb s i M i.a 4 _ HB.out.b HI.out.a HC.out.2.1).mono ?_; rintro e w6 ⟨rfl, hu⟩; rw [HC.out.2.2.2.1])
  first
  |exact hK _ (HB.out.quiet hu _ (by decide))
  |exact HB.out.quiet hu _ (by decide)
 ·exact ⟨_, rfl⟩
 iterate 5
  apply Yd rfl rfl
  ·intro dn r0 K hd hdep hK w5 hB1
   have c10 : w5.cell? ⟨d, 10, none⟩ = some (.bool s.cf) := hB1.b.cell 10
   have c11 : w5.cell? ⟨d, 11, none⟩ = some (.bool s.pf) := hB1.b.cell 11
   have c12 : w5.cell? ⟨d, 12, none⟩ = some (.bool s.af) := hB1.b.cell 12
   have c13 : w5.cell? ⟨d, 13, none⟩ = some (.bool s.zf) := hB1.b.cell 13
   have c14 : w5.cell? ⟨d, 14, none⟩ = some (.bool s.sf) := hB1.b.cell 14
   have c15 : w5.cell? ⟨d, 15, none⟩ = some (.bool s.of_) := hB1.b.cell 15
   have ci := Ya hB1.o
   unfold Ins.cells at ci
   have HB := Yh_ hB1
   clear hB1 hdep
   go_wp2_with fail
   first
   |exact hK _ (HB.out.same _ (by decide))
   |exact HB.out.same _ (by decide)
  ·exact ⟨_, rfl⟩
 apply Yd rfl rfl
 ·intro dn r0 K hd hdep hK w5 hB1
  have HB := Yh_ hB1
  clear hB1 hdep
  go_wp2_with (go_at_call 47; refine (Yhp op v 0 s.fl _ HOP.out HRV.out (by decide)).mono ?_; rintro e w6 ⟨rfl, hu⟩; rw [HC.out.2.2.2.2.1, HC.out.2.2.2.2.2]; unfold Fl.cells)
  first
  |exact hK _ (HB.out.quiet hu _ (by decide))
  |exact HB.out.quiet hu _ (by decide)
 ·exact ⟨_, rfl⟩
 iterate 3
  apply Yd rfl rfl
  ·intro dn r0 K hd hdep hK w5 hB1
   have c10 : w5.cell? ⟨d, 10, none⟩ = some (.bool s.cf) := hB1.b.cell 10
   have c11 : w5.cell? ⟨d, 11, none⟩ = some (.bool s.pf) := hB1.b.cell 11
   have c12 : w5.cell? ⟨d, 12, none⟩ = some (.bool s.af) := hB1.b.cell 12
   have c13 : w5.cell? ⟨d, 13, none⟩ = some (.bool s.zf) := hB1.b.cell 13
   have c14 : w5.cell? ⟨d, 14, none⟩ = some (.bool s.sf) := hB1.b.cell 14
   have c15 : w5.cell? ⟨d, 15, none⟩ = some (.bool s.of_) := hB1.b.cell 15
   have ci := Ya hB1.o
   unfold Ins.cells at ci
   have HB := Yh_ hB1
   clear hB1 hdep
   go_wp2_with fail
   first
   |exact hK _ (HB.out.same _ (by decide))
   |exact HB.out.same _ (by decide)
  ·exact ⟨_, rfl⟩
 refine Yak rfl (fun _ => rfl) 5 rfl (by simp [Act.put]) ?_ ?_
 ·intro dn r0 K hd w5 hB1 hK
  have HB := Yh_ hB1
  clear hB1
  simp only [Yn]
  go_wp2_with fail
  first
  |exact hK (.pointer (some ⟨w5.heap.size, 0, none⟩)) _ HB.out.lay
  |exact HB.out.lay
 iterate 1
  apply Ya4 rfl (fun _ => rfl)
  ·intro dn r0 K hd hdep hK w5 hB1
   have c10 : w5.cell? ⟨d, 10, none⟩ = some (.bool s.cf) := hB1.b.cell 10
   have c11 : w5.cell? ⟨d, 11, none⟩ = some (.bool s.pf) := hB1.b.cell 11
   have c12 : w5.cell? ⟨d, 12, none⟩ = some (.bool s.af) := hB1.b.cell 12
   have c13 : w5.cell? ⟨d, 13, none⟩ = some (.bool s.zf) := hB1.b.cell 13
   have c14 : w5.cell? ⟨d, 14, none⟩ = some (.bool s.sf) := hB1.b.cell 14
   have c15 : w5.cell? ⟨d, 15, none⟩ = some (.bool s.of_) := hB1.b.cell 15
   have ci := Ya hB1.o
   unfold Ins.cells at ci
   have HB := Yh_ hB1
   clear hB1 hdep
   simp only [Yn]
   go_wp2_with fail
   first
   |exact hK _ (HB.out.same _ (by decide))
   |exact HB.out.same _ (by decide)
  ·exact ⟨_, fun _ => rfl, rfl⟩
 refine Yar (fun _ r0 w5 dn hall hB1 => ?_)
 obtain ⟨g, e1', e2', e3'⟩ := hB1.y (hall 14 (by decide))
 have ci := Ya hB1.o
 unfold Ins.cells at ci
 have hcb := Yk HD.out.h
 have hpb : pb < w.heap.size := by obtain ⟨C, _, hc⟩ := HD.out.m.pg; exact Yk hc
 have hab : a < w.heap.size := by obtain ⟨C, _, hc⟩ := HD.out.m.hd; exact Yk hc
 have H5 := Yh_ (And.intro hB1.b (And.intro hB1.o (And.intro hB1.u (And.intro e3' (And.intro e2' (And.intro hcb (And.intro hpb hab)))))))
 clear hB1 e3' hall e2' hcb hpb hab
 show wpList _ _ _ _ (Act.put (Yn _ _ [] _) (some 5) (r0 14)) _
 rw [e1']
 simp only [Yn]
 clear e1'
 go_wp2_with (first | (have _t := H5; clear _t; refine Ye 25 rfl ?_; refine Ydg rfl 25 _ _ rfl g 0 (Fl.cells ⟨x0, x1, x2, x3, x4, x5⟩) rfl rfl H5.out.2.2.2.1 (show 0 + 6 ≤ 6 by decide) Yef (Yfy _) ?_; intro w6 hw; have h6 := fl_new hw H5.out.2.2.2.1; have hl := H5.out.2.2.2.2; have cg := Ya h6.1; unfold Fl.cells at cg; have H6 := Yh_ (And.intro (H5.out.1.keep h6.2 (by simp; omega) (by simp; omega) (by simp; omega)) (And.intro (h6.2.get H5.out.2.1 (by simp; omega)) (H5.out.2.2.1.also (S' := [g]) h6.2 (by simp; omega)))); clear hw h6 hl H5 ci) | (have _t := H6; clear _t; refine Ye 25 rfl ?_; refine wpList_store_mid rfl 25 _ _ rfl d 10 (Fl.cells ⟨x0, x1, x2, x3, x4, x5⟩) rfl rfl (Ydc H6.out.1.h 10 6 (by rw [Ygt]; decide)) Yef (Yfy _) ?_; have u7 : Upd [d] w6 (w6.setCells d 10 (Fl.cells ⟨x0, x1, x2, x3, x4, x5⟩).toList) := (Upd.refl [d] w6).setCells (.inl (by simp)) _ _; have hcb := Yk HD.out.h; have hi7 := u7.get H6.out.2.1 (by simp; omega); have ci := Ya hi7; unfold Ins.cells at ci; have H7 := Yh_ (And.intro (H6.out.1.putFl ⟨x0, x1, x2, x3, x4, x5⟩) (H6.out.2.2.also u7 (by simp))); clear u7 hcb hi7 H6 cg) | (have _t := H7; clear _t; go_at_call 49; refine (Yhs d a pb _ i M i.a 4 V _ H7.out.1 HI.out.a HVR.out HC.out.2.2.1).mono ?_; rintro e w8 ⟨rfl, hd, hu⟩; have H8 := Yh_ (And.intro hd (H7.out.2.also hu (fun x hx => .inl hx))); clear hd hu H7))
 go_end0
 exact ⟨rfl, H8.out.1, H8.out.2⟩
end
theorem Dq.copy {w w3 : World} {d a pb : Nat} {s : St} {i : Ins} {M : Mem} (h : Yx w d a pb s i M) (hw : (w.alloc (.cells Ins.zero.cells 41)).setCells w.heap.size 0 i.cells.toList = w3) : Dq w d a pb s i M [(w.heap.size, .cells i.cells 41 (0, 0))] w3 := by
 have h3 := Yej h hw
 have hpb : pb < w.heap.size := by obtain ⟨C, _, hc⟩ := h.m.pg; exact Yk hc
 have hd := h.lt
 exact ⟨h3.1, fun p hp => by rw [List.mem_singleton.1 hp]; exact h3.2.1, h3.2.2, fun p hp => by rw [List.mem_singleton.1 hp]; dsimp only; omega⟩
theorem Dq.putFl {w w1 : World} {d a pb : Nat} {s : St} {i : Ins} {M : Mem} {L : List (Nat × Obj)} (h : Dq w d a pb s i M L w1) (F : Fl) : Dq w d a pb (s.setFl F) i M L (w1.setCells d 10 F.cells.toList) :=
 h.next (h.b.putFl F) ((Upd.refl [d, pb] w1).setCells (.inl (by simp)) _ _)
theorem Yll (d a pb : Nat) (s : St) (i : Ins) (M : Mem) (w : World) (h : Yx w d a pb s i M) (hop : 21 ≤ i.op ∧ i.op ≤ 25) (hc : Ybt M s i.a 4 3 = false) :
  Calls Tryz.prog 32 #[.pointer (some ⟨d, 0, none⟩)] w fun e w' => e = .panicked [{ v := .iface 35 (Yct M s i.a 4 3).val, recovered := false }] ∧ Yj w' a pb (M) ∧ Upd [d, pb] w w' := by
 have HI := Yh_ h.io
 have HD := Yh_ h
 have tokL : True := trivial
 have tokS : True := trivial
 obtain ⟨op, ho⟩ : ∃ op, i.op = op := ⟨_, rfl⟩
 rw [ho] at hop
 have e1 : decide (3 ≤ op) = true := by simp; omega
 have e2 : decide (op ≤ 11) = false := by simp; omega
 have e3 : decide (12 ≤ op) = true := by simp; omega
 have e4 : decide (op ≤ 15) = false := by simp; omega
 have e5 : decide (21 ≤ op) = true := by simp; omega
 have e6 : decide (op ≤ 25) = true := by simp; omega
 have HCC := Yh_ hc
 clear h hop hc
 go_enter Tryz.func32, Tryz.ntmps32
 go_wp2_with (first | (have _t := tokL; clear _t tokL; refine Yr 41 rfl ?_; refine wpList_load_mid rfl 41 _ rfl d 18 rfl i.cells.toList _ HD.out.ri Tryz.underlying41 rfl (by rw [Array.length_toList, Ins.size]; exact Yb0) ?_; rw [Array.toArray_toList]) | (have _t := tokS; clear _t tokS; refine Ye 41 rfl ?_; refine Yc i w.heap.size rfl _ _ rfl rfl rfl (heap_alloc_new w (.cells Ins.zero.cells 41)) rfl ?_; intro w3 hw; have h3 := Dq.copy HD.out hw; have ci := h3.ins; unfold Ins.cells at ci; have H3 := Yh_ h3; clear hw h3) | (have _t := H3; clear _t; go_at_call 46; refine (Yhq d a pb s i M i.a _ H3.out.b HCC.out).mono ?_; rintro e w4 ⟨rfl, hu⟩; have H4 := Yh_ (H3.out.quiet hu); clear hu H3 ci; have ci := H4.out.ins; unfold Ins.cells at ci))
 exact ⟨rfl, rfl, H4.out.b.m, H4.out.u⟩
theorem Ylx (d a pb : Nat) (s : St) (i : Ins) (M : Mem) (w : World) (h : Yx w d a pb s i M) (hop : 21 ≤ i.op ∧ i.op ≤ 25) (hc : Ybt M s i.a 4 3 = true) (hra : opK M s i.a 4 = true) (hrb : opK M s i.b 1 = false) :
  Calls Tryz.prog 32 #[.pointer (some ⟨d, 0, none⟩)] w fun e w' => e = .panicked [{ v := .iface 35 (opF M s i.b 1).val, recovered := false }] ∧ Yj w' a pb (M) ∧ Upd [d, pb] w w' := by
 have HI := Yh_ h.io
 have HD := Yh_ h
 have tokL : True := trivial
 have tokS : True := trivial
 obtain ⟨op, ho⟩ : ∃ op, i.op = op := ⟨_, rfl⟩
 rw [ho] at hop 
 have e1 : decide (3 ≤ op) = true := by simp; omega
 have e2 : decide (op ≤ 11) = false := by simp; omega
 have e3 : decide (12 ≤ op) = true := by simp; omega
 have e4 : decide (op ≤ 15) = false := by simp; omega
 have e5 : decide (21 ≤ op) = true := by simp; omega
 have e6 : decide (op ≤ 25) = true := by simp; omega
 have HOP := Yh_ (show isSh op = true by simp only [isSh, Bool.and_eq_true, decide_eq_true_eq]; exact hop)
 have HVR := Yh_ (Yb6 h i.a h.io.a 4)
 have HBR := Yh_ (Yb6 h i.b h.io.b 1)
 obtain ⟨v, hv⟩ : ∃ v, opV M s i.a 4 = v := ⟨_, rfl⟩
 obtain ⟨x, hx⟩ : ∃ x, opV M s i.b 1 = x := ⟨_, rfl⟩
 rw [hv] at HVR
 rw [hx] at HBR
 have HV := Yh_ (And.intro hv hx)
 have HCC := Yh_ hc
 have HRA := Yh_ hra
 have HRB := Yh_ hrb
 clear h hop hc hra hrb hv hx
 go_enter Tryz.func32, Tryz.ntmps32
 go_wp2_with (first | (have _t := tokL; clear _t tokL; refine Yr 41 rfl ?_; refine wpList_load_mid rfl 41 _ rfl d 18 rfl i.cells.toList _ HD.out.ri Tryz.underlying41 rfl (by rw [Array.length_toList, Ins.size]; exact Yb0) ?_; rw [Array.toArray_toList]) | (have _t := tokS; clear _t tokS; refine Ye 41 rfl ?_; refine Yc i w.heap.size rfl _ _ rfl rfl rfl (heap_alloc_new w (.cells Ins.zero.cells 41)) rfl ?_; intro w3 hw; have h3 := Dq.copy HD.out hw; have ci := h3.ins; unfold Ins.cells at ci; have H3 := Yh_ h3; clear hw h3) | (have _t := H3; clear _t; go_at_call 46; refine (Yft d a pb s i M i.a _ H3.out.b HCC.out).mono ?_; rintro e w4 ⟨rfl, hu⟩; have H4 := Yh_ (H3.out.quiet hu); clear hu H3 ci; have ci := H4.out.ins; unfold Ins.cells at ci) | (have _t := H4; clear _t; go_at_call 48; refine (Ycs d a pb s i M i.a 4 _ H4.out.b HI.out.a HRA.out).mono ?_; rintro e w5 ⟨rfl, hu⟩; rw [HV.out.1]; have H5 := Yh_ (H4.out.quiet hu); clear hu H4 ci))
 refine Yma 2 6 (.int .u32 v) [12, 13, 14, 15, 16] _ 20 (fun _ _ => Dq w d a pb s i M [(w.heap.size, .cells i.cells 41 (0, 0))]) (fun c w6 => c = [{ v := .iface 35 (opF M s i.b 1).val, recovered := false }] ∧ Yj w6 a pb M ∧ Upd [d, pb] w w6) rfl rfl (by kernel_rfl) rfl rfl (by kernel_rfl) (by kernel_rfl) (fun _ => H5.out.drew) (fun c a6 w6 h hd6 _ _ => And.intro hd6 (by obtain ⟨h1, h2, h3⟩ := h; subst h1; exact ⟨rfl, h2, h3⟩)) ?_
 simp only [Ygp, List.modify_succ_cons, List.modify_zero_cons, List.take_succ_cons, List.take_zero, List.drop_succ_cons, List.drop_zero]
 iterate 6
  apply Yd rfl rfl
  ·intro dn r0 K hd hdep hK w5 hB1
   have ci := hB1.ins; unfold Ins.cells at ci; have c10 : w5.cell? ⟨d, 10, none⟩ = some (.bool s.cf) := hB1.b.cell 10; have c11 : w5.cell? ⟨d, 11, none⟩ = some (.bool s.pf) := hB1.b.cell 11; have c12 : w5.cell? ⟨d, 12, none⟩ = some (.bool s.af) := hB1.b.cell 12; have c13 : w5.cell? ⟨d, 13, none⟩ = some (.bool s.zf) := hB1.b.cell 13; have c14 : w5.cell? ⟨d, 14, none⟩ = some (.bool s.sf) := hB1.b.cell 14; have c15 : w5.cell? ⟨d, 15, none⟩ = some (.bool s.of_) := hB1.b.cell 15
   have HB := Yh_ hB1
   clear hB1 hdep
   go_wp2_with fail
   first
   |exact hK _ HB.out
   |exact HB.out
  ·exact ⟨_, rfl⟩
 refine Ydd rfl rfl ?_ ?_
 ·intro dn r0 w5 hd hB1
  have HB := Yh_ hB1
  clear hB1
  go_wp2_with (go_at_call 48; refine (Yf6 d a pb s i M i.b 1 _ HB.out.b HI.out.b HRB.out).mono ?_; rintro e w6 ⟨rfl, hu⟩)
  first
  |exact ⟨rfl, (HB.out.quiet hu).b.m, (HB.out.quiet hu).u⟩
  |exact ⟨rfl, rfl, (HB.out.quiet hu).b.m, (HB.out.quiet hu).u⟩
 first
 |(apply Yaw rfl)
 |(
  apply Yd rfl rfl
  ·intro dn r0 K hd hdep hK w5 hB1
   have ci := hB1.ins; unfold Ins.cells at ci; have c10 : w5.cell? ⟨d, 10, none⟩ = some (.bool s.cf) := hB1.b.cell 10; have c11 : w5.cell? ⟨d, 11, none⟩ = some (.bool s.pf) := hB1.b.cell 11; have c12 : w5.cell? ⟨d, 12, none⟩ = some (.bool s.af) := hB1.b.cell 12; have c13 : w5.cell? ⟨d, 13, none⟩ = some (.bool s.zf) := hB1.b.cell 13; have c14 : w5.cell? ⟨d, 14, none⟩ = some (.bool s.sf) := hB1.b.cell 14; have c15 : w5.cell? ⟨d, 15, none⟩ = some (.bool s.of_) := hB1.b.cell 15
   have HB := Yh_ hB1
   clear hB1 hdep
   go_wp2_with fail
   first
   |exact hK _ HB.out
   |exact HB.out
  ·exact ⟨_, rfl⟩
  )
 first
 |(apply Yaw rfl)
 |(
  apply Yd rfl rfl
  ·intro dn r0 K hd hdep hK w5 hB1
   have ci := hB1.ins; unfold Ins.cells at ci; have c10 : w5.cell? ⟨d, 10, none⟩ = some (.bool s.cf) := hB1.b.cell 10; have c11 : w5.cell? ⟨d, 11, none⟩ = some (.bool s.pf) := hB1.b.cell 11; have c12 : w5.cell? ⟨d, 12, none⟩ = some (.bool s.af) := hB1.b.cell 12; have c13 : w5.cell? ⟨d, 13, none⟩ = some (.bool s.zf) := hB1.b.cell 13; have c14 : w5.cell? ⟨d, 14, none⟩ = some (.bool s.sf) := hB1.b.cell 14; have c15 : w5.cell? ⟨d, 15, none⟩ = some (.bool s.of_) := hB1.b.cell 15
   have HB := Yh_ hB1
   clear hB1 hdep
   go_wp2_with fail
   first
   |exact hK _ HB.out
   |exact HB.out
  ·exact ⟨_, rfl⟩
  )
 first
 |(apply Yaw rfl)
 |(
  apply Yd rfl rfl
  ·intro dn r0 K hd hdep hK w5 hB1
   have ci := hB1.ins; unfold Ins.cells at ci; have c10 : w5.cell? ⟨d, 10, none⟩ = some (.bool s.cf) := hB1.b.cell 10; have c11 : w5.cell? ⟨d, 11, none⟩ = some (.bool s.pf) := hB1.b.cell 11; have c12 : w5.cell? ⟨d, 12, none⟩ = some (.bool s.af) := hB1.b.cell 12; have c13 : w5.cell? ⟨d, 13, none⟩ = some (.bool s.zf) := hB1.b.cell 13; have c14 : w5.cell? ⟨d, 14, none⟩ = some (.bool s.sf) := hB1.b.cell 14; have c15 : w5.cell? ⟨d, 15, none⟩ = some (.bool s.of_) := hB1.b.cell 15
   have HB := Yh_ hB1
   clear hB1 hdep
   go_wp2_with fail
   first
   |exact hK _ HB.out
   |exact HB.out
  ·exact ⟨_, rfl⟩
  )
 first
 |(apply Yaw rfl)
 |(
  apply Yd rfl rfl
  ·intro dn r0 K hd hdep hK w5 hB1
   have ci := hB1.ins; unfold Ins.cells at ci; have c10 : w5.cell? ⟨d, 10, none⟩ = some (.bool s.cf) := hB1.b.cell 10; have c11 : w5.cell? ⟨d, 11, none⟩ = some (.bool s.pf) := hB1.b.cell 11; have c12 : w5.cell? ⟨d, 12, none⟩ = some (.bool s.af) := hB1.b.cell 12; have c13 : w5.cell? ⟨d, 13, none⟩ = some (.bool s.zf) := hB1.b.cell 13; have c14 : w5.cell? ⟨d, 14, none⟩ = some (.bool s.sf) := hB1.b.cell 14; have c15 : w5.cell? ⟨d, 15, none⟩ = some (.bool s.of_) := hB1.b.cell 15
   have HB := Yh_ hB1
   clear hB1 hdep
   go_wp2_with fail
   first
   |exact hK _ HB.out
   |exact HB.out
  ·exact ⟨_, rfl⟩
  )
 first
 |(apply Yaw rfl)
 |(
  apply Yd rfl rfl
  ·intro dn r0 K hd hdep hK w5 hB1
   have ci := hB1.ins; unfold Ins.cells at ci; have c10 : w5.cell? ⟨d, 10, none⟩ = some (.bool s.cf) := hB1.b.cell 10; have c11 : w5.cell? ⟨d, 11, none⟩ = some (.bool s.pf) := hB1.b.cell 11; have c12 : w5.cell? ⟨d, 12, none⟩ = some (.bool s.af) := hB1.b.cell 12; have c13 : w5.cell? ⟨d, 13, none⟩ = some (.bool s.zf) := hB1.b.cell 13; have c14 : w5.cell? ⟨d, 14, none⟩ = some (.bool s.sf) := hB1.b.cell 14; have c15 : w5.cell? ⟨d, 15, none⟩ = some (.bool s.of_) := hB1.b.cell 15
   have HB := Yh_ hB1
   clear hB1 hdep
   go_wp2_with fail
   first
   |exact hK _ HB.out
   |exact HB.out
  ·exact ⟨_, rfl⟩
  )
 first
 |(apply Yaw rfl)
 |(
  apply Yd rfl rfl
  ·intro dn r0 K hd hdep hK w5 hB1
   have ci := hB1.ins; unfold Ins.cells at ci; have c10 : w5.cell? ⟨d, 10, none⟩ = some (.bool s.cf) := hB1.b.cell 10; have c11 : w5.cell? ⟨d, 11, none⟩ = some (.bool s.pf) := hB1.b.cell 11; have c12 : w5.cell? ⟨d, 12, none⟩ = some (.bool s.af) := hB1.b.cell 12; have c13 : w5.cell? ⟨d, 13, none⟩ = some (.bool s.zf) := hB1.b.cell 13; have c14 : w5.cell? ⟨d, 14, none⟩ = some (.bool s.sf) := hB1.b.cell 14; have c15 : w5.cell? ⟨d, 15, none⟩ = some (.bool s.of_) := hB1.b.cell 15
   have HB := Yh_ hB1
   clear hB1 hdep
   go_wp2_with fail
   first
   |exact hK _ HB.out
   |exact HB.out
  ·exact ⟨_, rfl⟩
  )
 first
 |(apply Yaw rfl)
 |(
  apply Yd rfl rfl
  ·intro dn r0 K hd hdep hK w5 hB1
   have ci := hB1.ins; unfold Ins.cells at ci; have c10 : w5.cell? ⟨d, 10, none⟩ = some (.bool s.cf) := hB1.b.cell 10; have c11 : w5.cell? ⟨d, 11, none⟩ = some (.bool s.pf) := hB1.b.cell 11; have c12 : w5.cell? ⟨d, 12, none⟩ = some (.bool s.af) := hB1.b.cell 12; have c13 : w5.cell? ⟨d, 13, none⟩ = some (.bool s.zf) := hB1.b.cell 13; have c14 : w5.cell? ⟨d, 14, none⟩ = some (.bool s.sf) := hB1.b.cell 14; have c15 : w5.cell? ⟨d, 15, none⟩ = some (.bool s.of_) := hB1.b.cell 15
   have HB := Yh_ hB1
   clear hB1 hdep
   go_wp2_with fail
   first
   |exact hK _ HB.out
   |exact HB.out
  ·exact ⟨_, rfl⟩
  )
 first
 |(apply Yaw rfl)
 |(
  apply Yd rfl rfl
  ·intro dn r0 K hd hdep hK w5 hB1
   have ci := hB1.ins; unfold Ins.cells at ci; have c10 : w5.cell? ⟨d, 10, none⟩ = some (.bool s.cf) := hB1.b.cell 10; have c11 : w5.cell? ⟨d, 11, none⟩ = some (.bool s.pf) := hB1.b.cell 11; have c12 : w5.cell? ⟨d, 12, none⟩ = some (.bool s.af) := hB1.b.cell 12; have c13 : w5.cell? ⟨d, 13, none⟩ = some (.bool s.zf) := hB1.b.cell 13; have c14 : w5.cell? ⟨d, 14, none⟩ = some (.bool s.sf) := hB1.b.cell 14; have c15 : w5.cell? ⟨d, 15, none⟩ = some (.bool s.of_) := hB1.b.cell 15
   have HB := Yh_ hB1
   clear hB1 hdep
   go_wp2_with fail
   first
   |exact hK _ HB.out
   |exact HB.out
  ·exact ⟨_, rfl⟩
  )
 first
 |(apply Yaw rfl)
 |(
  apply Yd rfl rfl
  ·intro dn r0 K hd hdep hK w5 hB1
   have ci := hB1.ins; unfold Ins.cells at ci; have c10 : w5.cell? ⟨d, 10, none⟩ = some (.bool s.cf) := hB1.b.cell 10; have c11 : w5.cell? ⟨d, 11, none⟩ = some (.bool s.pf) := hB1.b.cell 11; have c12 : w5.cell? ⟨d, 12, none⟩ = some (.bool s.af) := hB1.b.cell 12; have c13 : w5.cell? ⟨d, 13, none⟩ = some (.bool s.zf) := hB1.b.cell 13; have c14 : w5.cell? ⟨d, 14, none⟩ = some (.bool s.sf) := hB1.b.cell 14; have c15 : w5.cell? ⟨d, 15, none⟩ = some (.bool s.of_) := hB1.b.cell 15
   have HB := Yh_ hB1
   clear hB1 hdep
   go_wp2_with fail
   first
   |exact hK _ HB.out
   |exact HB.out
  ·exact ⟨_, rfl⟩
  )
 first
 |(apply Yaw rfl)
 |(
  apply Yd rfl rfl
  ·intro dn r0 K hd hdep hK w5 hB1
   have ci := hB1.ins; unfold Ins.cells at ci; have c10 : w5.cell? ⟨d, 10, none⟩ = some (.bool s.cf) := hB1.b.cell 10; have c11 : w5.cell? ⟨d, 11, none⟩ = some (.bool s.pf) := hB1.b.cell 11; have c12 : w5.cell? ⟨d, 12, none⟩ = some (.bool s.af) := hB1.b.cell 12; have c13 : w5.cell? ⟨d, 13, none⟩ = some (.bool s.zf) := hB1.b.cell 13; have c14 : w5.cell? ⟨d, 14, none⟩ = some (.bool s.sf) := hB1.b.cell 14; have c15 : w5.cell? ⟨d, 15, none⟩ = some (.bool s.of_) := hB1.b.cell 15
   have HB := Yh_ hB1
   clear hB1 hdep
   go_wp2_with fail
   first
   |exact hK _ HB.out
   |exact HB.out
  ·exact ⟨_, rfl⟩
  )
 first
 |(apply Yaw rfl)
 |(
  apply Yd rfl rfl
  ·intro dn r0 K hd hdep hK w5 hB1
   have ci := hB1.ins; unfold Ins.cells at ci; have c10 : w5.cell? ⟨d, 10, none⟩ = some (.bool s.cf) := hB1.b.cell 10; have c11 : w5.cell? ⟨d, 11, none⟩ = some (.bool s.pf) := hB1.b.cell 11; have c12 : w5.cell? ⟨d, 12, none⟩ = some (.bool s.af) := hB1.b.cell 12; have c13 : w5.cell? ⟨d, 13, none⟩ = some (.bool s.zf) := hB1.b.cell 13; have c14 : w5.cell? ⟨d, 14, none⟩ = some (.bool s.sf) := hB1.b.cell 14; have c15 : w5.cell? ⟨d, 15, none⟩ = some (.bool s.of_) := hB1.b.cell 15
   have HB := Yh_ hB1
   clear hB1 hdep
   go_wp2_with fail
   first
   |exact hK _ HB.out
   |exact HB.out
  ·exact ⟨_, rfl⟩
  )
 first
 |(apply Yaw rfl)
 |(
  apply Yd rfl rfl
  ·intro dn r0 K hd hdep hK w5 hB1
   have ci := hB1.ins; unfold Ins.cells at ci; have c10 : w5.cell? ⟨d, 10, none⟩ = some (.bool s.cf) := hB1.b.cell 10; have c11 : w5.cell? ⟨d, 11, none⟩ = some (.bool s.pf) := hB1.b.cell 11; have c12 : w5.cell? ⟨d, 12, none⟩ = some (.bool s.af) := hB1.b.cell 12; have c13 : w5.cell? ⟨d, 13, none⟩ = some (.bool s.zf) := hB1.b.cell 13; have c14 : w5.cell? ⟨d, 14, none⟩ = some (.bool s.sf) := hB1.b.cell 14; have c15 : w5.cell? ⟨d, 15, none⟩ = some (.bool s.of_) := hB1.b.cell 15
   have HB := Yh_ hB1
   clear hB1 hdep
   go_wp2_with fail
   first
   |exact hK _ HB.out
   |exact HB.out
  ·exact ⟨_, rfl⟩
  )
 first
 |(apply Yaw rfl)
 |(
  apply Yd rfl rfl
  ·intro dn r0 K hd hdep hK w5 hB1
   have ci := hB1.ins; unfold Ins.cells at ci; have c10 : w5.cell? ⟨d, 10, none⟩ = some (.bool s.cf) := hB1.b.cell 10; have c11 : w5.cell? ⟨d, 11, none⟩ = some (.bool s.pf) := hB1.b.cell 11; have c12 : w5.cell? ⟨d, 12, none⟩ = some (.bool s.af) := hB1.b.cell 12; have c13 : w5.cell? ⟨d, 13, none⟩ = some (.bool s.zf) := hB1.b.cell 13; have c14 : w5.cell? ⟨d, 14, none⟩ = some (.bool s.sf) := hB1.b.cell 14; have c15 : w5.cell? ⟨d, 15, none⟩ = some (.bool s.of_) := hB1.b.cell 15
   have HB := Yh_ hB1
   clear hB1 hdep
   go_wp2_with fail
   first
   |exact hK _ HB.out
   |exact HB.out
  ·exact ⟨_, rfl⟩
  )
 refine Yar (fun hdead => by cases hdead)
theorem Ypd (d a pb : Nat) (s : St) (i : Ins) (M : Mem) (w : World) (h : Yx w d a pb s i M) (hop : 21 ≤ i.op ∧ i.op ≤ 25) (hc : Ybt M s i.a 4 3 = true) (hra : opK M s i.a 4 = true) (hrb : opK M s i.b 1 = true) (hwa : Yc5 M (s.setFl (Yfa i.op (opV M s i.a 4) (opV M s i.b 1) s.fl)) i.a 4 = true) :
  Calls Tryz.prog 32 #[.pointer (some ⟨d, 0, none⟩)] w fun e w' => e = .returned (.tuple #[]) ∧ Yx w' d a pb (opS (s.setFl (Yfa i.op (opV M s i.a 4) (opV M s i.b 1) s.fl)) i.a 4 (Yd8 i.op (opV M s i.a 4) (opV M s i.b 1))) i (opM M (s.setFl (Yfa i.op (opV M s i.a 4) (opV M s i.b 1) s.fl)) i.a 4 (Yd8 i.op (opV M s i.a 4) (opV M s i.b 1))) ∧ Upd [d, pb] w w' := by
 have HI := Yh_ h.io
 have HD := Yh_ h
 have tokL : True := trivial
 have tokS : True := trivial
 obtain ⟨op, ho⟩ : ∃ op, i.op = op := ⟨_, rfl⟩
 rw [ho] at hop hwa ⊢
 have e1 : decide (3 ≤ op) = true := by simp; omega
 have e2 : decide (op ≤ 11) = false := by simp; omega
 have e3 : decide (12 ≤ op) = true := by simp; omega
 have e4 : decide (op ≤ 15) = false := by simp; omega
 have e5 : decide (21 ≤ op) = true := by simp; omega
 have e6 : decide (op ≤ 25) = true := by simp; omega
 have HOP := Yh_ (show isSh op = true by simp only [isSh, Bool.and_eq_true, decide_eq_true_eq]; exact hop)
 have HVR := Yh_ (Yb6 h i.a h.io.a 4)
 have HBR := Yh_ (Yb6 h i.b h.io.b 1)
 obtain ⟨v, hv⟩ : ∃ v, opV M s i.a 4 = v := ⟨_, rfl⟩
 obtain ⟨x, hx⟩ : ∃ x, opV M s i.b 1 = x := ⟨_, rfl⟩
 rw [hv] at HVR
 rw [hx] at HBR
 have HV := Yh_ (And.intro hv hx)
 have HCC := Yh_ hc
 have HRA := Yh_ hra
 have HRB := Yh_ hrb
 rw [hv, hx] at hwa ⊢
 obtain ⟨V, hV⟩ : ∃ V, Yd8 op v x = V := ⟨_, rfl⟩
 have HVV := Yh_ (show 0 ≤ V ∧ V < 4294967296 from hV ▸ Ykn op v x HVR.out)
 obtain ⟨⟨x0, x1, x2, x3, x4, x5⟩, hF⟩ : ∃ F, Yfa op v x s.fl = F := ⟨_, rfl⟩
 rw [hF] at hwa ⊢
 rw [hV]
 have HRV := Yh_ (And.intro hV hF)
 have HWA := Yh_ hwa
 clear h hop hc hra hrb hv hx hwa hV hF
 go_enter Tryz.func32, Tryz.ntmps32
 go_wp2_with (first | (have _t := tokL; clear _t tokL; refine Yr 41 rfl ?_; refine wpList_load_mid rfl 41 _ rfl d 18 rfl i.cells.toList _ HD.out.ri Tryz.underlying41 rfl (by rw [Array.length_toList, Ins.size]; exact Yb0) ?_; rw [Array.toArray_toList]) | (have _t := tokS; clear _t tokS; refine Ye 41 rfl ?_; refine Yc i w.heap.size rfl _ _ rfl rfl rfl (heap_alloc_new w (.cells Ins.zero.cells 41)) rfl ?_; intro w3 hw; have h3 := Dq.copy HD.out hw; have ci := h3.ins; unfold Ins.cells at ci; have H3 := Yh_ h3; clear hw h3) | (have _t := H3; clear _t; go_at_call 46; refine (Yft d a pb s i M i.a _ H3.out.b HCC.out).mono ?_; rintro e w4 ⟨rfl, hu⟩; have H4 := Yh_ (H3.out.quiet hu); clear hu H3 ci; have ci := H4.out.ins; unfold Ins.cells at ci) | (have _t := H4; clear _t; go_at_call 48; refine (Ycs d a pb s i M i.a 4 _ H4.out.b HI.out.a HRA.out).mono ?_; rintro e w5 ⟨rfl, hu⟩; rw [HV.out.1]; have H5 := Yh_ (H4.out.quiet hu); clear hu H4 ci))
 refine Yma 2 6 (.int .u32 v) [12, 13, 14, 15, 16] _ 20 (fun _ _ => Dq w d a pb s i M [(w.heap.size, .cells i.cells 41 (0, 0))]) (fun _ _ => False) rfl rfl (by kernel_rfl) rfl rfl (by kernel_rfl) (by kernel_rfl) (fun _ => H5.out.drew) (fun _ _ _ h => h.elim) ?_
 simp only [Ygp, List.modify_succ_cons, List.modify_zero_cons, List.take_succ_cons, List.take_zero, List.drop_succ_cons, List.drop_zero]
 iterate 6
  apply Yd rfl rfl
  ·intro dn r0 K hd hdep hK w5 hB1
   have ci := hB1.ins; unfold Ins.cells at ci; have c10 : w5.cell? ⟨d, 10, none⟩ = some (.bool s.cf) := hB1.b.cell 10; have c11 : w5.cell? ⟨d, 11, none⟩ = some (.bool s.pf) := hB1.b.cell 11; have c12 : w5.cell? ⟨d, 12, none⟩ = some (.bool s.af) := hB1.b.cell 12; have c13 : w5.cell? ⟨d, 13, none⟩ = some (.bool s.zf) := hB1.b.cell 13; have c14 : w5.cell? ⟨d, 14, none⟩ = some (.bool s.sf) := hB1.b.cell 14; have c15 : w5.cell? ⟨d, 15, none⟩ = some (.bool s.of_) := hB1.b.cell 15
   have HB := Yh_ hB1
   clear hB1 hdep
   go_wp2_with fail
   first
   |exact hK _ HB.out
   |exact HB.out
  ·exact ⟨_, rfl⟩
 apply Yd rfl rfl
 ·intro dn r0 K hd hdep hK w5 hB1
  have HB := Yh_ hB1
  clear hB1 hdep
  go_wp2_with (go_at_call 48; refine (Ycs d a pb s i M i.b 1 _ HB.out.b HI.out.b HRB.out).mono ?_; rintro e w6 ⟨rfl, hu⟩; rw [HV.out.2])
  first
  |exact hK _ (HB.out.quiet hu)
  |exact HB.out.quiet hu
 ·exact ⟨_, rfl⟩
 iterate 5
  apply Yd rfl rfl
  ·intro dn r0 K hd hdep hK w5 hB1
   have ci := hB1.ins; unfold Ins.cells at ci; have c10 : w5.cell? ⟨d, 10, none⟩ = some (.bool s.cf) := hB1.b.cell 10; have c11 : w5.cell? ⟨d, 11, none⟩ = some (.bool s.pf) := hB1.b.cell 11; have c12 : w5.cell? ⟨d, 12, none⟩ = some (.bool s.af) := hB1.b.cell 12; have c13 : w5.cell? ⟨d, 13, none⟩ = some (.bool s.zf) := hB1.b.cell 13; have c14 : w5.cell? ⟨d, 14, none⟩ = some (.bool s.sf) := hB1.b.cell 14; have c15 : w5.cell? ⟨d, 15, none⟩ = some (.bool s.of_) := hB1.b.cell 15
   have HB := Yh_ hB1
   clear hB1 hdep
   go_wp2_with fail
   first
   |exact hK _ HB.out
   |exact HB.out
  ·exact ⟨_, rfl⟩
 apply Yd rfl rfl
 ·intro dn r0 K hd hdep hK w5 hB1
  have HB := Yh_ hB1
  clear hB1 hdep
  go_wp2_with (go_at_call 50; refine (Yp5 op v x s.fl _ HOP.out HVR.out HBR.out.1).mono ?_; rintro e w6 ⟨rfl, hu⟩; rw [HRV.out.1, HRV.out.2]; unfold Fl.cells)
  first
  |exact hK _ (HB.out.quiet hu)
  |exact HB.out.quiet hu
 ·exact ⟨_, rfl⟩
 iterate 7
  apply Yd rfl rfl
  ·intro dn r0 K hd hdep hK w5 hB1
   have ci := hB1.ins; unfold Ins.cells at ci; have c10 : w5.cell? ⟨d, 10, none⟩ = some (.bool s.cf) := hB1.b.cell 10; have c11 : w5.cell? ⟨d, 11, none⟩ = some (.bool s.pf) := hB1.b.cell 11; have c12 : w5.cell? ⟨d, 12, none⟩ = some (.bool s.af) := hB1.b.cell 12; have c13 : w5.cell? ⟨d, 13, none⟩ = some (.bool s.zf) := hB1.b.cell 13; have c14 : w5.cell? ⟨d, 14, none⟩ = some (.bool s.sf) := hB1.b.cell 14; have c15 : w5.cell? ⟨d, 15, none⟩ = some (.bool s.of_) := hB1.b.cell 15
   have HB := Yh_ hB1
   clear hB1 hdep
   go_wp2_with fail
   first
   |exact hK _ HB.out
   |exact HB.out
  ·exact ⟨_, rfl⟩
 refine Yar (fun _ r0 w6 dn hall hB1 => ?_)
 clear hall
 simp only [Yn]
 have H6 := Yh_ hB1
 clear hB1 H5
 go_wp2_with (first | (have _t := H6; clear _t; refine Ye 25 rfl ?_; refine wpList_store_mid rfl 25 _ _ rfl d 10 (Fl.cells ⟨x0, x1, x2, x3, x4, x5⟩) rfl rfl (Ydc H6.out.b.h 10 6 (by rw [Ygt]; decide)) Yef (Yfy _) ?_; have H7 := Yh_ (H6.out.putFl ⟨x0, x1, x2, x3, x4, x5⟩); have ci := H7.out.ins; unfold Ins.cells at ci; clear H6) | (have _t := H7; clear _t; go_at_call 49; refine (Yhs d a pb _ i M i.a 4 V _ H7.out.b HI.out.a HVV.out HWA.out).mono ?_; rintro e w8 ⟨rfl, hd, hu⟩; have H8 := Yh_ (H7.out.next hd hu); clear hd hu H7))
 go_end0
 exact ⟨rfl, H8.out.b, H8.out.u⟩
theorem Yia (d a pb : Nat) (s : St) (i : Ins) (M : Mem) (w : World) (h : Yx w d a pb s i M) (hop : 3 ≤ i.op ∧ i.op ≤ 11) (s2 : St) (M2 : Mem) (hj : ∀ w1, Yx w1 d a pb s i M → Calls Tryz.prog 45 #[.pointer (some ⟨d, 0, none⟩)] w1 fun e w' => e = .returned (.tuple #[]) ∧ Yx w' d a pb (s2) i (M2) ∧ Upd [d, pb] w1 w') :
  Calls Tryz.prog 32 #[.pointer (some ⟨d, 0, none⟩)] w fun e w' => e = .returned (.tuple #[]) ∧ Yx w' d a pb (s2) i (M2) ∧ Upd [d, pb] w w' := by
 have HI := Yh_ h.io
 have HD := Yh_ h
 have tokL : True := trivial
 have tokS : True := trivial
 obtain ⟨op, ho⟩ : ∃ op, i.op = op := ⟨_, rfl⟩
 rw [ho] at hop
 have e1 : decide (3 ≤ op) = true := by simp; omega
 have e2 : decide (op ≤ 11) = true := by simp; omega
 have HJ := Yh_ hj
 clear h hj hop
 go_enter Tryz.func32, Tryz.ntmps32
 go_wp2_with (first | (have _t := tokL; clear _t tokL; refine Yr 41 rfl ?_; refine wpList_load_mid rfl 41 _ rfl d 18 rfl i.cells.toList _ HD.out.ri Tryz.underlying41 rfl (by rw [Array.length_toList, Ins.size]; exact Yb0) ?_; rw [Array.toArray_toList]) | (have _t := tokS; clear _t tokS; refine Ye 41 rfl ?_; refine Yc i w.heap.size rfl _ _ rfl rfl rfl (heap_alloc_new w (.cells Ins.zero.cells 41)) rfl ?_; intro w3 hw; have h3 := Dq.copy HD.out hw; have ci := h3.ins; unfold Ins.cells at ci; have H3 := Yh_ h3; clear hw h3) | (have _t := H3; clear _t; go_at_call 45; refine (HJ.out _ H3.out.b).mono ?_; rintro e w5 ⟨rfl, hd, hu⟩; have H5 := Yh_ (And.intro hd (H3.out.u.also hu (fun x hx => .inl hx))); clear hd hu H3 ci))
 go_end0
 exact ⟨rfl, H5.out.1, H5.out.2⟩
theorem Yep (d a pb : Nat) (s : St) (i : Ins) (M : Mem) (w : World) (h : Yx w d a pb s i M) (hop : 3 ≤ i.op ∧ i.op ≤ 11) (M2 : Mem) (F : Flt) (hj : ∀ w1, Yx w1 d a pb s i M → Calls Tryz.prog 45 #[.pointer (some ⟨d, 0, none⟩)] w1 fun e w' => e = .panicked [{ v := .iface 35 (F).val, recovered := false }] ∧ Yj w' a pb (M2) ∧ Upd [d, pb] w1 w') :
  Calls Tryz.prog 32 #[.pointer (some ⟨d, 0, none⟩)] w fun e w' => e = .panicked [{ v := .iface 35 (F).val, recovered := false }] ∧ Yj w' a pb (M2) ∧ Upd [d, pb] w w' := by
 have HI := Yh_ h.io
 have HD := Yh_ h
 have tokL : True := trivial
 have tokS : True := trivial
 obtain ⟨op, ho⟩ : ∃ op, i.op = op := ⟨_, rfl⟩
 rw [ho] at hop
 have e1 : decide (3 ≤ op) = true := by simp; omega
 have e2 : decide (op ≤ 11) = true := by simp; omega
 have HJ := Yh_ hj
 clear h hj hop
 go_enter Tryz.func32, Tryz.ntmps32
 go_wp2_with (first | (have _t := tokL; clear _t tokL; refine Yr 41 rfl ?_; refine wpList_load_mid rfl 41 _ rfl d 18 rfl i.cells.toList _ HD.out.ri Tryz.underlying41 rfl (by rw [Array.length_toList, Ins.size]; exact Yb0) ?_; rw [Array.toArray_toList]) | (have _t := tokS; clear _t tokS; refine Ye 41 rfl ?_; refine Yc i w.heap.size rfl _ _ rfl rfl rfl (heap_alloc_new w (.cells Ins.zero.cells 41)) rfl ?_; intro w3 hw; have h3 := Dq.copy HD.out hw; have ci := h3.ins; unfold Ins.cells at ci; have H3 := Yh_ h3; clear hw h3) | (have _t := H3; clear _t; go_at_call 45; refine (HJ.out _ H3.out.b).mono ?_; rintro e w5 ⟨rfl, hd, hu⟩; have H5 := Yh_ (And.intro hd (H3.out.u.also hu (fun x hx => .inl hx))); clear hd hu H3 ci))
 exact ⟨rfl, rfl, H5.out.1, H5.out.2⟩
end Go.Proofs.YthakgjpejhjaoaaGreat
