/-
  Parts of the proof (their names shortened by a program). No condition.
-/
import Derived.Test.YthakgjpejhjaoaaGreatMg01
import Derived.Test.YthakgjpejhjaoaaGreatMg08
namespace Go.Proofs.YthakgjpejhjaoaaGreat
open Go Go.RowKit
set_option linter.unusedVariables false
set_option linter.unusedSimpArgs false
set_option maxRecDepth 100000
set_option maxHeartbeats 16000000
theorem ins_setA (i : Ins) (o : Opd) : wr i.cells 2 o.cells.toList = ({ i with a := o } : Ins).cells := rfl
theorem ins_setB (i : Ins) (o : Opd) : wr i.cells 8 o.cells.toList = ({ i with b := o } : Ins).cells := rfl
theorem Yjl {w : World} {b : Nat} {i : Ins} (hb : w.heap[b]? = some (.cells i.cells 41 (0, 0))) (n : Int) : (w.setCell ⟨b, 0, none⟩ (.int .i64 n)).heap[b]? = some (.cells ({ i with op := n } : Ins).cells 41 (0, 0)) :=
 Yh hb 0 (.int .i64 n)
theorem Yhx {w : World} {b : Nat} {i : Ins} (hb : w.heap[b]? = some (.cells i.cells 41 (0, 0))) (n : Int) : (w.setCell ⟨b, 1, none⟩ (.int .i64 n)).heap[b]? = some (.cells ({ i with cond := n } : Ins).cells 41 (0, 0)) :=
 Yh hb 1 (.int .i64 n)
theorem ins_newA {w w' : World} {b : Nat} {i : Ins} {o : Opd} (hw : w.setCells b 2 o.cells.toList = w') (hb : w.heap[b]? = some (.cells i.cells 41 (0, 0))) :
  w'.heap[b]? = some (.cells ({ i with a := o } : Ins).cells 41 (0, 0)) ∧ Upd [b] w w' := by
 subst hw
 exact ⟨by rw [Yag _ _ _ _ hb, ins_setA], (Upd.refl [b] w).setCells (.inl (by simp)) _ _⟩
theorem Ydm {w w' : World} {b : Nat} {i : Ins} {o : Opd} (hw : w.setCells b 8 o.cells.toList = w') (hb : w.heap[b]? = some (.cells i.cells 41 (0, 0))) :
  w'.heap[b]? = some (.cells ({ i with b := o } : Ins).cells 41 (0, 0)) ∧ Upd [b] w w' := by
 subst hw
 exact ⟨by rw [Yag _ _ _ _ hb, ins_setB], (Upd.refl [b] w).setCells (.inl (by simp)) _ _⟩
theorem Yaw {ops : Array Oper} {rest : List Oper} {op : Oper} {a : Act} {w : World} {Q : Exit → Act → World → Prop} (i : Ins) (b : Nat) (hgd : op.guard = none) (x : Operand) (ho : op.op = .load 41 x) (hx : a.eval x = .pointer (some ⟨b, 0, none⟩))
  (hb : w.heap[b]? = some (.cells i.cells 41 (0, 0))) (h : wpList Tryz.prog ops Q rest (a.put op.dst (.agg i.cells)) w) : wpList Tryz.prog ops Q (op :: rest) a w :=
 Yf6 hgd 41 x ho b 0 hx i.cells _ (Ye3 hb) Tryz.underlying41 rfl (by rw [Ins.size]; exact Ya1) h
theorem two_f (d g k k1 : Nat) (v : Value) (L : List Int) (op : Int) (m : Mrm) (w : World) (hD : Yc w d v L g k) (h1 : Yab L k = .ok m k1) (o : Opd) (k2 : Nat) (h2 : Ybb L m k1 = .ok o k2) :
  Calls Tryz.prog 120 #[.pointer (some ⟨d, 0, none⟩), .int .i64 op, .bool false] w (Yl d v L g w (.ok ⟨op, 0, o, Yam m.reg, false, 0⟩ k2) Ins.val) := by
 have hmo : Tryz.prog.follows .mixedOrders = true := by kernel_rfl
 have HD := Yh_ hD
 have hok := Yaj hD.r h1
 have S := Yh_ (RS.start hD)
 have hb := Yv d g k v L _ S.out.dd
 rw [h1] at hb
 have HB1 := Yh_ hb
 have HP := Yh_ (fun (w1 : World) (hd1 : Yc w1 d v L g k1) => by have := Yed d g k1 v L m w1 hd1 hok; rw [h2] at this; exact this)
 clear hD hb h1 h2 hok
 go_enter Tryz.func120, Tryz.ntmps120
 go_upto_region 2 with (go_at_call 121; refine HB1.out.mono ?_; rintro e w2 ⟨rfl, hD2, hu⟩; unfold Mrm.cells; have S2 := Yh_ (S.out.step hD2 hu); clear hD2 hu S)
 have S3 := Yh_ (S2.out.same ((Upd.refl [] w2).alloc (.cells m.cells 171)))
 have HM := Yh_ (heap_alloc_new w2 (.cells m.cells 171))
 have HL := Yh_ (show d < w2.heap.size ∧ w.heap.size < w2.heap.size from ⟨Yj S2.out.dd.h, S2.out.lt⟩)
 clear S2
 refine Yai 9 (TwB w d v L g w.heap.size k1 k2 w2.heap.size m Ins.zero 3 8 100) (fun _ _ => False) (by kernel_rfl) (by kernel_rfl) (fun r0 => TwB.start (S3.out.same (Upd.refl [] _).drew) HM.out (by decide) HL.out r0) (fun _ _ _ h => h.elim) ?_
 simp only [List.take_succ_cons, List.take_zero, List.drop_succ_cons, List.drop_zero]
 iterate 3
  apply Yb rfl rfl
  ·intro dn r0 K hd hdep hK w5 hB1
   have cm := Ya hB1.m
   unfold Mrm.cells at cm
   have HB := Yh_ hB1
   clear hB1 hdep
   go_wp2_with fail
   first
   |exact hK _ (HB.out.same _ (by decide) (by decide) (by decide))
   |exact HB.out.same _ (by decide) (by decide) (by decide)
  ·exact ⟨_, rfl⟩
 apply Yb rfl rfl
 ·intro dn r0 K hd hdep hK w5 hB1
  have HB := Yh_ hB1
  clear hB1 hdep
  go_wp2_with (go_at_call 134; refine (HP.out _ (HB.out.at1 hd)).mono ?_; rintro e w6 ⟨rfl, hD6, hu⟩; unfold Opd.val)
  first
  |exact hK _ (HB.out.call hD6 hu)
  |exact HB.out.call hD6 hu
 ·exact ⟨_, rfl⟩
 iterate 2
  apply Yb rfl rfl
  ·intro dn r0 K hd hdep hK w5 hB1
   have cm := Ya hB1.m
   unfold Mrm.cells at cm
   have HB := Yh_ hB1
   clear hB1 hdep
   go_wp2_with fail
   first
   |exact hK _ (HB.out.same _ (by decide) (by decide) (by decide))
   |exact HB.out.same _ (by decide) (by decide) (by decide)
  ·exact ⟨_, rfl⟩
 apply Yb rfl rfl
 ·intro dn r0 K hd hdep hK w5 hB1
  have HB := Yh_ hB1
  clear hB1 hdep
  go_wp2_with (go_at_call 89; refine (Ybv m.reg _).mono ?_; rintro e w6 ⟨rfl, hu⟩; unfold Opd.val Yam)
  first
  |exact hK _ (HB.out.quiet hu _ (by decide) (by decide) (by decide))
  |exact HB.out.quiet hu _ (by decide) (by decide) (by decide)
 ·exact ⟨_, rfl⟩
 iterate 1
  apply Yb rfl rfl
  ·intro dn r0 K hd hdep hK w5 hB1
   have cm := Ya hB1.m
   unfold Mrm.cells at cm
   have HB := Yh_ hB1
   clear hB1 hdep
   go_wp2_with fail
   first
   |exact hK _ (HB.out.same _ (by decide) (by decide) (by decide))
   |exact HB.out.same _ (by decide) (by decide) (by decide)
  ·exact ⟨_, rfl⟩
 refine Yr rfl (fun _ => rfl) 8 rfl (by simp [Act.put]) ?_ ?_
 ·intro dn r0 K hd w5 hB1 hK
  have HB := Yh_ hB1
  clear hB1
  simp only [Yi]
  go_wp2_with fail
  first
  |exact hK (.pointer (some ⟨w5.heap.size, 0, none⟩)) _ (HB.out.lay hd Ins.zero.cells rfl)
  |exact HB.out.lay hd Ins.zero.cells rfl
 refine Yad (fun _ r0 w7 dn hall hB1 => ?_)
 obtain ⟨q, Z, e1, e2, e3, e4, _⟩ := hB1.x (hall 8 (by decide))
 have hs := hB1.s
 rw [hall 3 (by decide), if_pos rfl] at hs
 show wpList _ _ _ _ (Act.put (Yi _ _ [] _) (some 8) (r0 8)) _
 rw [e1]
 simp only [Yi]
 have S7 := Yh_ hs
 have HQ := Yh_ e3
 have HQ2 := Yh_ (show w.heap.size < q by have := HL.out; omega)
 have HZ := Yh_ e4
 clear hB1 e1 e2 e3 hall hs S3 e4
 go_upto_region 5 with (have _t := HZ; clear _t; with_reducible refine Ye 41 rfl ?_; refine Yd ⟨op, 0, o, Yam m.reg, false, 0⟩ q rfl _ _ rfl rfl rfl HQ.out HZ.out ?_; intro w8 hw; have h8 := Ya7 (S := [q]) (w0 := w7) hw HQ.out HZ.out (Upd.refl _ _) (.inl (by simp)); have S8 := Yh_ (S7.out.far HD.out h8.2 HQ2.out); have HI := Yh_ h8.1; clear hw h8 S7 HQ HZ)
 go_wp2_with (first | (with_reducible refine Yar 41 rfl ?_; refine Yaw ⟨op, 0, o, Yam m.reg, false, 0⟩ q rfl _ rfl rfl HI.out ?_) | (with_reducible refine Ye 41 rfl ?_; refine Yd ⟨op, 0, o, Yam m.reg, false, 0⟩ w.heap.size rfl _ _ rfl rfl rfl S8.out.rr rfl ?_; intro w12 hw; have S12 := Yh_ (S8.out.store HD.out rfl hw); clear hw S8))
 exact bodyPost_ret (Yf rfl (Ys 6 w.heap.size _ rfl S12.out.rr)) rfl ⟨rfl, S12.out.dd, S12.out.uu⟩
theorem two_t (d g k k1 : Nat) (v : Value) (L : List Int) (op : Int) (m : Mrm) (w : World) (hD : Yc w d v L g k) (h1 : Yab L k = .ok m k1) (o : Opd) (k2 : Nat) (h2 : Ybb L m k1 = .ok o k2) :
  Calls Tryz.prog 120 #[.pointer (some ⟨d, 0, none⟩), .int .i64 op, .bool true] w (Yl d v L g w (.ok ⟨op, 0, Yam m.reg, o, false, 0⟩ k2) Ins.val) := by
 have hmo : Tryz.prog.follows .mixedOrders = true := by kernel_rfl
 have HD := Yh_ hD
 have hok := Yaj hD.r h1
 have S := Yh_ (RS.start hD)
 have hb := Yv d g k v L _ S.out.dd
 rw [h1] at hb
 have HB1 := Yh_ hb
 have HP := Yh_ (fun (w1 : World) (hd1 : Yc w1 d v L g k1) => by have := Yed d g k1 v L m w1 hd1 hok; rw [h2] at this; exact this)
 clear hD hb h1 h2 hok
 go_enter Tryz.func120, Tryz.ntmps120
 go_upto_region 2 with (go_at_call 121; refine HB1.out.mono ?_; rintro e w2 ⟨rfl, hD2, hu⟩; unfold Mrm.cells; have S2 := Yh_ (S.out.step hD2 hu); clear hD2 hu S)
 have S3 := Yh_ (S2.out.same ((Upd.refl [] w2).alloc (.cells m.cells 171)))
 have HM := Yh_ (heap_alloc_new w2 (.cells m.cells 171))
 have HL := Yh_ (show d < w2.heap.size ∧ w.heap.size < w2.heap.size from ⟨Yj S2.out.dd.h, S2.out.lt⟩)
 clear S2
 refine Yai 9 (TwB w d v L g w.heap.size k1 k2 w2.heap.size m Ins.zero 3 8 100) (fun _ _ => False) (by kernel_rfl) (by kernel_rfl) (fun r0 => TwB.start (S3.out.same (Upd.refl [] _).drew) HM.out (by decide) HL.out r0) (fun _ _ _ h => h.elim) ?_
 simp only [List.take_succ_cons, List.take_zero, List.drop_succ_cons, List.drop_zero]
 iterate 3
  apply Yb rfl rfl
  ·intro dn r0 K hd hdep hK w5 hB1
   have cm := Ya hB1.m
   unfold Mrm.cells at cm
   have HB := Yh_ hB1
   clear hB1 hdep
   go_wp2_with fail
   first
   |exact hK _ (HB.out.same _ (by decide) (by decide) (by decide))
   |exact HB.out.same _ (by decide) (by decide) (by decide)
  ·exact ⟨_, rfl⟩
 apply Yb rfl rfl
 ·intro dn r0 K hd hdep hK w5 hB1
  have HB := Yh_ hB1
  clear hB1 hdep
  go_wp2_with (go_at_call 134; refine (HP.out _ (HB.out.at1 hd)).mono ?_; rintro e w6 ⟨rfl, hD6, hu⟩; unfold Opd.val)
  first
  |exact hK _ (HB.out.call hD6 hu)
  |exact HB.out.call hD6 hu
 ·exact ⟨_, rfl⟩
 iterate 2
  apply Yb rfl rfl
  ·intro dn r0 K hd hdep hK w5 hB1
   have cm := Ya hB1.m
   unfold Mrm.cells at cm
   have HB := Yh_ hB1
   clear hB1 hdep
   go_wp2_with fail
   first
   |exact hK _ (HB.out.same _ (by decide) (by decide) (by decide))
   |exact HB.out.same _ (by decide) (by decide) (by decide)
  ·exact ⟨_, rfl⟩
 apply Yb rfl rfl
 ·intro dn r0 K hd hdep hK w5 hB1
  have HB := Yh_ hB1
  clear hB1 hdep
  go_wp2_with (go_at_call 89; refine (Ybv m.reg _).mono ?_; rintro e w6 ⟨rfl, hu⟩; unfold Opd.val Yam)
  first
  |exact hK _ (HB.out.quiet hu _ (by decide) (by decide) (by decide))
  |exact HB.out.quiet hu _ (by decide) (by decide) (by decide)
 ·exact ⟨_, rfl⟩
 iterate 1
  apply Yb rfl rfl
  ·intro dn r0 K hd hdep hK w5 hB1
   have cm := Ya hB1.m
   unfold Mrm.cells at cm
   have HB := Yh_ hB1
   clear hB1 hdep
   go_wp2_with fail
   first
   |exact hK _ (HB.out.same _ (by decide) (by decide) (by decide))
   |exact HB.out.same _ (by decide) (by decide) (by decide)
  ·exact ⟨_, rfl⟩
 refine Yr rfl (fun _ => rfl) 8 rfl (by simp [Act.put]) ?_ ?_
 ·intro dn r0 K hd w5 hB1 hK
  have HB := Yh_ hB1
  clear hB1
  simp only [Yi]
  go_wp2_with fail
  first
  |exact hK (.pointer (some ⟨w5.heap.size, 0, none⟩)) _ (HB.out.lay hd Ins.zero.cells rfl)
  |exact HB.out.lay hd Ins.zero.cells rfl
 refine Yad (fun _ r0 w7 dn hall hB1 => ?_)
 obtain ⟨q, Z, e1, e2, e3, e4, _⟩ := hB1.x (hall 8 (by decide))
 have hs := hB1.s
 rw [hall 3 (by decide), if_pos rfl] at hs
 show wpList _ _ _ _ (Act.put (Yi _ _ [] _) (some 8) (r0 8)) _
 rw [e1]
 simp only [Yi]
 have S7 := Yh_ hs
 have HQ := Yh_ e3
 have HQ2 := Yh_ (show w.heap.size < q by have := HL.out; omega)
 have HZ := Yh_ e4
 clear hB1 e1 e2 e3 hall hs S3 e4
 go_upto_region 4 with (have _t := HZ; clear _t; with_reducible refine Ye 41 rfl ?_; refine Yd ⟨op, 0, o, Yam m.reg, false, 0⟩ q rfl _ _ rfl rfl rfl HQ.out HZ.out ?_; intro w8 hw; have h8 := Ya7 (S := [q]) (w0 := w7) hw HQ.out HZ.out (Upd.refl _ _) (.inl (by simp)); have S8 := Yh_ (S7.out.far HD.out h8.2 HQ2.out); have HI := Yh_ h8.1; clear hw h8 S7 HQ HZ)
 have cq := Ya HI.out
 unfold Ins.cells Yam at cq
 go_upto_region 5 with (first | (have _t := HI; clear _t; with_reducible refine Ye 39 rfl ?_; refine Yy (Yam m.reg) q 2 rfl _ _ rfl rfl rfl HI.out (by rw [Ins.size]; decide) ?_; intro w9 hw; have h9 := ins_newA hw HI.out; have S9 := Yh_ (S8.out.far HD.out h9.2 HQ2.out); have HI9 := Yh_ h9.1; clear hw h9 S8 HI cq) | (have _t := HI9; clear _t; with_reducible refine Ye 39 rfl ?_; refine Yy o q 8 rfl _ _ rfl rfl rfl HI9.out (by rw [Ins.size]; decide) ?_; intro w10 hw; have h10 := Ydm hw HI9.out; have S10 := Yh_ (S9.out.far HD.out h10.2 HQ2.out); have HI10 := Yh_ h10.1; clear hw h10 S9 HI9))
 go_wp2_with (first | (with_reducible refine Yar 41 rfl ?_; refine Yaw ⟨op, 0, Yam m.reg, o, false, 0⟩ q rfl _ rfl rfl HI10.out ?_) | (with_reducible refine Ye 41 rfl ?_; refine Yd ⟨op, 0, Yam m.reg, o, false, 0⟩ w.heap.size rfl _ _ rfl rfl rfl S10.out.rr rfl ?_; intro w12 hw; have S12 := Yh_ (S10.out.store HD.out rfl hw); clear hw S10))
 exact bodyPost_ret (Yf rfl (Ys 6 w.heap.size _ rfl S12.out.rr)) rfl ⟨rfl, S12.out.dd, S12.out.uu⟩
theorem two_bad (d g k k1 : Nat) (v : Value) (L : List Int) (op : Int) (m : Mrm) (w : World) (hD : Yc w d v L g k) (h1 : Yab L k = .ok m k1) (t : Bool) (c : Int) (h2 : Ybb L m k1 = .err c) :
  Calls Tryz.prog 120 #[.pointer (some ⟨d, 0, none⟩), .int .i64 op, .bool t] w (Yl d v L g w (.err c) Ins.val) := by
 have hmo : Tryz.prog.follows .mixedOrders = true := by kernel_rfl
 have HD := Yh_ hD
 have hok := Yaj hD.r h1
 have S := Yh_ (RS.start hD)
 have hb := Yv d g k v L _ S.out.dd
 rw [h1] at hb
 have HB1 := Yh_ hb
 have HP := Yh_ (fun (w1 : World) (hd1 : Yc w1 d v L g k1) => by have := Yed d g k1 v L m w1 hd1 hok; rw [h2] at this; exact this)
 clear hD hb h1 h2 hok
 go_enter Tryz.func120, Tryz.ntmps120
 go_upto_region 2 with (go_at_call 121; refine HB1.out.mono ?_; rintro e w2 ⟨rfl, hD2, hu⟩; unfold Mrm.cells; have S2 := Yh_ (S.out.step hD2 hu); clear hD2 hu S)
 have S3 := Yh_ (S2.out.same ((Upd.refl [] w2).alloc (.cells m.cells 171)))
 have HM := Yh_ (heap_alloc_new w2 (.cells m.cells 171))
 have HL := Yh_ (show d < w2.heap.size ∧ w.heap.size < w2.heap.size from ⟨Yj S2.out.dd.h, S2.out.lt⟩)
 clear S2
 refine Yai 9 (TwB w d v L g w.heap.size k1 k1 w2.heap.size m Ins.zero 3 8 100) (fun c2 w9 => c2 = [{ v := .iface 32 (.int .i64 c), recovered := false }] ∧ Upd [d] w w9) (by kernel_rfl) (by kernel_rfl) (fun r0 => TwB.start (S3.out.same (Upd.refl [] _).drew) HM.out (by decide) HL.out r0) (fun c2 a9 w9 hx h4 h5 h6 => by show bodyPost Tryz.prog Tryz.f120 (Yl d v L g w (.err c) Ins.val) (Exit.panic c2) a9 w9; refine ⟨h4, ?_⟩; rw [hx.1]; exact ⟨rfl, hx.2⟩) ?_
 simp only [List.take_succ_cons, List.take_zero, List.drop_succ_cons, List.drop_zero]
 iterate 3
  apply Yb rfl rfl
  ·intro dn r0 K hd hdep hK w5 hB1
   have cm := Ya hB1.m
   unfold Mrm.cells at cm
   have HB := Yh_ hB1
   clear hB1 hdep
   go_wp2_with fail
   first
   |exact hK _ (HB.out.same _ (by decide) (by decide) (by decide))
   |exact HB.out.same _ (by decide) (by decide) (by decide)
  ·exact ⟨_, rfl⟩
 apply Ye0 rfl rfl
 ·intro dn r0 w5 hd hB1
  have HB := Yh_ hB1
  clear hB1
  go_wp2_with (go_at_call 134; refine (HP.out _ (HB.out.at1 hd)).mono ?_; rintro e w6 ⟨rfl, hu⟩)
  exact ⟨rfl, HB.out.s.uu.also hu (by simp)⟩
 iterate 2
  apply Yb rfl rfl
  ·intro dn r0 K hd hdep hK w5 hB1
   have cm := Ya hB1.m
   unfold Mrm.cells at cm
   have HB := Yh_ hB1
   clear hB1 hdep
   go_wp2_with fail
   first
   |exact hK _ (HB.out.same _ (by decide) (by decide) (by decide))
   |exact HB.out.same _ (by decide) (by decide) (by decide)
  ·exact ⟨_, rfl⟩
 refine Ygq rfl ?_
 refine Ygq rfl ?_
 refine Yr rfl (fun _ => rfl) 8 rfl (by simp [Act.put]) ?_ ?_
 ·intro dn r0 K hd w5 hB1 hK
  have HB := Yh_ hB1
  clear hB1
  simp only [Yi]
  go_wp2_with fail
  first
  |exact hK (.pointer (some ⟨w5.heap.size, 0, none⟩)) _ (HB.out.lay hd Ins.zero.cells rfl)
  |exact HB.out.lay hd Ins.zero.cells rfl
 exact Yad (fun hdead => by cases hdead)
theorem two_none (d g k : Nat) (v : Value) (L : List Int) (op : Int) (t : Bool) (w : World) (hD : Yc w d v L g k) (c : Int) (h1 : Yab L k = .err c) :
  Calls Tryz.prog 120 #[.pointer (some ⟨d, 0, none⟩), .int .i64 op, .bool t] w (Yl d v L g w (.err c) Ins.val) := by
 have S := Yh_ (RS.start hD)
 have hb := Yv d g k v L _ S.out.dd
 rw [h1] at hb
 have HB1 := Yh_ hb
 clear hD hb h1
 go_enter Tryz.func120, Tryz.ntmps120
 go_wp2_with (go_at_call 121; refine HB1.out.mono ?_; rintro e w2 ⟨rfl, hu⟩)
 exact ⟨rfl, rfl, S.out.uu.also hu (by simp)⟩
theorem Ybq (d g k : Nat) (v : Value) (L : List Int) (op : Int) (t : Bool) (w : World) (hD : Yc w d v L g k) :
  Calls Tryz.prog 120 #[.pointer (some ⟨d, 0, none⟩), .int .i64 op, .bool t] w (Yl d v L g w (Yat L op t k) Ins.val) := by
 unfold Yat
 cases h1 : Yab L k with
 |err c => rw [DR.bind_err]; exact two_none d g k v L op t w hD c h1
 |ok m k1 =>
  rw [DR.bind_ok]
  cases h2 : Ybb L m k1 with
  |err c => rw [DR.bind_err]; exact two_bad d g k k1 v L op m w hD h1 t c h2
  |ok o k2 =>
   rw [DR.bind_ok]
   cases t
   ·exact two_f d g k k1 v L op m w hD h1 o k2 h2
   ·exact two_t d g k k1 v L op m w hD h1 o k2 h2
theorem lays_1 (d g k : Nat) (v : Value) (L : List Int) (w : World) (hD : Yc w d v L g k) (c e : Int) (h1 : Yab L k = .err e) :
  Calls Tryz.prog 126 #[.pointer (some ⟨d, 0, none⟩), .int .u8 c] w (Yl d v L g w (.err e) Ins.val) := by
 have HD := Yh_ hD
 have S1 := Yh_ (RS.start hD)
 have HP2 := Yh_ (fun (w1 : World) (hd1 : Yc w1 d v L g k) => by have := Yv d g k v L w1 hd1; rw [h1] at this; exact this)
 clear hD h1
 go_enter Tryz.func126, Tryz.ntmps126
 go_wp2_with (have _t := S1; clear _t; go_at_call 121; refine (HP2.out _ (S1.out).dd).mono ?_; rintro e w2 ⟨rfl, hu⟩)
 exact ⟨rfl, rfl, (S1.out).uu.also hu (by simp)⟩
theorem lays_2 (d g k : Nat) (v : Value) (L : List Int) (w : World) (hD : Yc w d v L g k) (c : Int) (m : Mrm) (k1 : Nat) (h1 : Yab L k = .ok m k1) (h2 : m.reg ≠ 0) :
  Calls Tryz.prog 126 #[.pointer (some ⟨d, 0, none⟩), .int .u8 c] w (Yl d v L g w (.err 90) Ins.val) := by
 have HD := Yh_ hD
 have S1 := Yh_ (RS.start hD)
 have e2 : (m.reg != 0) = true := by simpa using h2
 have HP2 := Yh_ (fun (w1 : World) (hd1 : Yc w1 d v L g k) => by have := Yv d g k v L w1 hd1; rw [h1] at this; exact this)
 clear hD h1 h2
 go_enter Tryz.func126, Tryz.ntmps126
 go_wp2_with (have _t := S1; clear _t; go_at_call 121; refine (HP2.out _ (S1.out).dd).mono ?_; rintro e w2 ⟨rfl, hD2, hu⟩; unfold Mrm.cells; have S2 := Yh_ ((S1.out).step hD2 hu); clear hD2 hu S1)
 exact ⟨rfl, rfl, ((S2.out).same ((Upd.refl [] w2).alloc (.cells m.cells 171))).uu⟩
theorem lays_3 (d g k : Nat) (v : Value) (L : List Int) (w : World) (hD : Yc w d v L g k) (c e : Int) (m : Mrm) (k1 : Nat) (h1 : Yab L k = .ok m k1) (h2 : m.reg = 0) (h3 : Yba L 1 m k1 = .err e) :
  Calls Tryz.prog 126 #[.pointer (some ⟨d, 0, none⟩), .int .u8 c] w (Yl d v L g w (.err e) Ins.val) := by
 have HD := Yh_ hD
 have S1 := Yh_ (RS.start hD)
 have e2 : (m.reg != 0) = false := by simp [h2]
 have hok := Yaj hD.r h1
 have HP2 := Yh_ (fun (w1 : World) (hd1 : Yc w1 d v L g k) => by have := Yv d g k v L w1 hd1; rw [h1] at this; exact this)
 have HP3 := Yh_ (fun (w1 : World) (hd1 : Yc w1 d v L g k1) => by have := Ybc d g k1 v L 1 m w1 hd1 hok; rw [h3] at this; exact this)
 clear hD h1 h2 h3 hok
 go_enter Tryz.func126, Tryz.ntmps126
 go_wp2_with (first | (have _t := S1; clear _t; go_at_call 121; refine (HP2.out _ (S1.out).dd).mono ?_; rintro e w2 ⟨rfl, hD2, hu⟩; unfold Mrm.cells; have S2 := Yh_ ((S1.out).step hD2 hu); clear hD2 hu S1) | (have _t := S2; clear _t; go_at_call 122; refine (HP3.out _ ((S2.out).same ((Upd.refl [] w2).alloc (.cells m.cells 171))).dd).mono ?_; rintro e w3 ⟨rfl, hu⟩))
 exact ⟨rfl, rfl, ((S2.out).same ((Upd.refl [] w2).alloc (.cells m.cells 171))).uu.also hu (by simp)⟩
theorem lays_4 (d g k : Nat) (v : Value) (L : List Int) (w : World) (hD : Yc w d v L g k) (c e : Int) (m : Mrm) (k1 : Nat) (h1 : Yab L k = .ok m k1) (h2 : m.reg = 0) (o : Opd) (k2 : Nat) (h3 : Yba L 1 m k1 = .ok ⟨1, 0, o, Opd.none, false, 0⟩ k2) (hc : c = 199) (h4 : Yak L k2 = .err e) :
  Calls Tryz.prog 126 #[.pointer (some ⟨d, 0, none⟩), .int .u8 c] w (Yl d v L g w (.err e) Ins.val) := by
 have HD := Yh_ hD
 have S1 := Yh_ (RS.start hD)
 have e2 : (m.reg != 0) = false := by simp [h2]
 have hok := Yaj hD.r h1
 have ec : (c == 199) = true := by simpa using hc
 have HP2 := Yh_ (fun (w1 : World) (hd1 : Yc w1 d v L g k) => by have := Yv d g k v L w1 hd1; rw [h1] at this; exact this)
 have HP3 := Yh_ (fun (w1 : World) (hd1 : Yc w1 d v L g k1) => by have := Ybc d g k1 v L 1 m w1 hd1 hok; rw [h3] at this; exact this)
 have HP5 := Yh_ (fun (w1 : World) (hd1 : Yc w1 d v L g k2) => by have := Ybo d g k2 v L w1 hd1; rw [h4] at this; exact this)
 clear hD h1 h2 h3 h4 hok hc
 go_enter Tryz.func126, Tryz.ntmps126
 go_wp2_with (first | (have _t := S1; clear _t; go_at_call 121; refine (HP2.out _ (S1.out).dd).mono ?_; rintro e w2 ⟨rfl, hD2, hu⟩; unfold Mrm.cells; have S2 := Yh_ ((S1.out).step hD2 hu); clear hD2 hu S1) | (have _t := S2; clear _t; go_at_call 122; refine (HP3.out _ ((S2.out).same ((Upd.refl [] w2).alloc (.cells m.cells 171))).dd).mono ?_; rintro e w3 ⟨rfl, hD3, hu⟩; have S3 := Yh_ (((S2.out).same ((Upd.refl [] w2).alloc (.cells m.cells 171))).step hD3 hu); clear hD3 hu S2) | (have _t := S3; clear _t; refine Ye 41 rfl ?_; refine Yd ⟨1, 0, o, Opd.none, false, 0⟩ w3.heap.size rfl _ _ rfl rfl rfl (heap_alloc_new w3 (.cells Ins.zero.cells 41)) rfl ?_; intro w4 hw; have h := Ya7 (S := [w3.heap.size]) (w0 := w3.alloc (.cells Ins.zero.cells 41)) hw (heap_alloc_new w3 (.cells Ins.zero.cells 41)) rfl (Upd.refl _ _) (.inl (by simp)); have HN := Yh_ (And.intro (S3.out).lt (And.intro (Yj (S3.out).dd.h) (S3.out).nn)); have S4 := Yh_ (((S3.out).same ((Upd.refl [] w3).alloc (.cells Ins.zero.cells 41))).far HD.out h.2 (S3.out).lt); have HI4 := Yh_ h.1; clear hw h S3) | (have _t := S4; clear _t; go_at_call 92; refine (HP5.out _ (S4.out).dd).mono ?_; rintro e w5 ⟨rfl, hu⟩))
 exact ⟨rfl, rfl, (S4.out).uu.also hu (by simp)⟩
theorem lays_5 (d g k : Nat) (v : Value) (L : List Int) (w : World) (hD : Yc w d v L g k) (c : Int) (m : Mrm) (k1 : Nat) (h1 : Yab L k = .ok m k1) (h2 : m.reg = 0) (o : Opd) (k2 : Nat) (h3 : Yba L 1 m k1 = .ok ⟨1, 0, o, Opd.none, false, 0⟩ k2) (hc : c = 199) (o2 : Opd) (k3 : Nat) (h4 : Yak L k2 = .ok o2 k3) :
  Calls Tryz.prog 126 #[.pointer (some ⟨d, 0, none⟩), .int .u8 c] w (Yl d v L g w (.ok ⟨1, 0, o, o2, false, 0⟩ k3) Ins.val) := by
 have HD := Yh_ hD
 have S1 := Yh_ (RS.start hD)
 have e2 : (m.reg != 0) = false := by simp [h2]
 have hok := Yaj hD.r h1
 have ec : (c == 199) = true := by simpa using hc
 have HP2 := Yh_ (fun (w1 : World) (hd1 : Yc w1 d v L g k) => by have := Yv d g k v L w1 hd1; rw [h1] at this; exact this)
 have HP3 := Yh_ (fun (w1 : World) (hd1 : Yc w1 d v L g k1) => by have := Ybc d g k1 v L 1 m w1 hd1 hok; rw [h3] at this; exact this)
 have HP5 := Yh_ (fun (w1 : World) (hd1 : Yc w1 d v L g k2) => by have := Ybo d g k2 v L w1 hd1; rw [h4] at this; exact this)
 clear hD h1 h2 h3 h4 hok hc
 go_enter Tryz.func126, Tryz.ntmps126
 go_wp2_with (first | (have _t := S1; clear _t; go_at_call 121; refine (HP2.out _ (S1.out).dd).mono ?_; rintro e w2 ⟨rfl, hD2, hu⟩; unfold Mrm.cells; have S2 := Yh_ ((S1.out).step hD2 hu); clear hD2 hu S1) | (have _t := S2; clear _t; go_at_call 122; refine (HP3.out _ ((S2.out).same ((Upd.refl [] w2).alloc (.cells m.cells 171))).dd).mono ?_; rintro e w3 ⟨rfl, hD3, hu⟩; have S3 := Yh_ (((S2.out).same ((Upd.refl [] w2).alloc (.cells m.cells 171))).step hD3 hu); clear hD3 hu S2) | (have _t := S3; clear _t; refine Ye 41 rfl ?_; refine Yd ⟨1, 0, o, Opd.none, false, 0⟩ w3.heap.size rfl _ _ rfl rfl rfl (heap_alloc_new w3 (.cells Ins.zero.cells 41)) rfl ?_; intro w4 hw; have h := Ya7 (S := [w3.heap.size]) (w0 := w3.alloc (.cells Ins.zero.cells 41)) hw (heap_alloc_new w3 (.cells Ins.zero.cells 41)) rfl (Upd.refl _ _) (.inl (by simp)); have HN := Yh_ (And.intro (S3.out).lt (And.intro (Yj (S3.out).dd.h) (S3.out).nn)); have S4 := Yh_ (((S3.out).same ((Upd.refl [] w3).alloc (.cells Ins.zero.cells 41))).far HD.out h.2 (S3.out).lt); have HI4 := Yh_ h.1; clear hw h S3) | (have _t := S4; clear _t; go_at_call 92; refine (HP5.out _ (S4.out).dd).mono ?_; rintro e w5 ⟨rfl, hD5, hu⟩; have S5 := Yh_ ((S4.out).step hD5 hu); have HI5 := Yh_ (hu.get (HI4.out) (by have := HN.out; simp; omega)); clear hD5 hu S4) | (have _t := S5; clear _t; refine Ye 39 rfl ?_; refine Yy o2 w3.heap.size 8 rfl _ _ rfl rfl rfl (HI5.out) (by rw [Ins.size]; decide) ?_; intro w6 hw; have h := Ydm hw (HI5.out); have S6 := Yh_ ((S5.out).far HD.out h.2 HN.out.1); have HI6 := Yh_ h.1; clear hw h S5 HI5) | (have _t := HI6; clear _t; refine Yar 41 rfl ?_; refine Yaw ⟨1, 0, o, o2, false, 0⟩ w3.heap.size rfl _ rfl rfl (HI6.out) ?_) | (have _t := S6; clear _t; refine Ye 41 rfl ?_; refine Yd ⟨1, 0, o, o2, false, 0⟩ w.heap.size rfl _ _ rfl rfl rfl (S6.out).rr rfl ?_; intro w7 hw; have S7 := Yh_ ((S6.out).store HD.out rfl hw); clear hw S6))
 exact bodyPost_ret (Yf rfl (Ys 4 w.heap.size _ rfl S7.out.rr)) rfl ⟨rfl, S7.out.dd, S7.out.uu⟩
theorem lays_6 (d g k : Nat) (v : Value) (L : List Int) (w : World) (hD : Yc w d v L g k) (c e : Int) (m : Mrm) (k1 : Nat) (h1 : Yab L k = .ok m k1) (h2 : m.reg = 0) (o : Opd) (k2 : Nat) (h3 : Yba L 1 m k1 = .ok ⟨1, 0, o, Opd.none, false, 0⟩ k2) (hc : c ≠ 199) (h4 : Ybz L k2 = .err e) :
  Calls Tryz.prog 126 #[.pointer (some ⟨d, 0, none⟩), .int .u8 c] w (Yl d v L g w (.err e) Ins.val) := by
 have HD := Yh_ hD
 have S1 := Yh_ (RS.start hD)
 have e2 : (m.reg != 0) = false := by simp [h2]
 have hok := Yaj hD.r h1
 have ec : (c == 199) = false := by simpa using hc
 have HP2 := Yh_ (fun (w1 : World) (hd1 : Yc w1 d v L g k) => by have := Yv d g k v L w1 hd1; rw [h1] at this; exact this)
 have HP3 := Yh_ (fun (w1 : World) (hd1 : Yc w1 d v L g k1) => by have := Ybc d g k1 v L 1 m w1 hd1 hok; rw [h3] at this; exact this)
 have HP5 := Yh_ (fun (w1 : World) (hd1 : Yc w1 d v L g k2) => by have := Yc2 d g k2 v L w1 hd1; rw [h4] at this; exact this)
 clear hD h1 h2 h3 h4 hok hc
 go_enter Tryz.func126, Tryz.ntmps126
 go_wp2_with (first | (have _t := S1; clear _t; go_at_call 121; refine (HP2.out _ (S1.out).dd).mono ?_; rintro e w2 ⟨rfl, hD2, hu⟩; unfold Mrm.cells; have S2 := Yh_ ((S1.out).step hD2 hu); clear hD2 hu S1) | (have _t := S2; clear _t; go_at_call 122; refine (HP3.out _ ((S2.out).same ((Upd.refl [] w2).alloc (.cells m.cells 171))).dd).mono ?_; rintro e w3 ⟨rfl, hD3, hu⟩; have S3 := Yh_ (((S2.out).same ((Upd.refl [] w2).alloc (.cells m.cells 171))).step hD3 hu); clear hD3 hu S2) | (have _t := S3; clear _t; refine Ye 41 rfl ?_; refine Yd ⟨1, 0, o, Opd.none, false, 0⟩ w3.heap.size rfl _ _ rfl rfl rfl (heap_alloc_new w3 (.cells Ins.zero.cells 41)) rfl ?_; intro w4 hw; have h := Ya7 (S := [w3.heap.size]) (w0 := w3.alloc (.cells Ins.zero.cells 41)) hw (heap_alloc_new w3 (.cells Ins.zero.cells 41)) rfl (Upd.refl _ _) (.inl (by simp)); have HN := Yh_ (And.intro (S3.out).lt (And.intro (Yj (S3.out).dd.h) (S3.out).nn)); have S4 := Yh_ (((S3.out).same ((Upd.refl [] w3).alloc (.cells Ins.zero.cells 41))).far HD.out h.2 (S3.out).lt); have HI4 := Yh_ h.1; clear hw h S3) | (have _t := S4; clear _t; go_at_call 91; refine (HP5.out _ (S4.out).dd).mono ?_; rintro e w5 ⟨rfl, hu⟩))
 exact ⟨rfl, rfl, (S4.out).uu.also hu (by simp)⟩
theorem lays_7 (d g k : Nat) (v : Value) (L : List Int) (w : World) (hD : Yc w d v L g k) (c : Int) (m : Mrm) (k1 : Nat) (h1 : Yab L k = .ok m k1) (h2 : m.reg = 0) (o : Opd) (k2 : Nat) (h3 : Yba L 1 m k1 = .ok ⟨1, 0, o, Opd.none, false, 0⟩ k2) (hc : c ≠ 199) (o2 : Opd) (k3 : Nat) (h4 : Ybz L k2 = .ok o2 k3) :
  Calls Tryz.prog 126 #[.pointer (some ⟨d, 0, none⟩), .int .u8 c] w (Yl d v L g w (.ok ⟨2, 0, o, o2, false, 0⟩ k3) Ins.val) := by
 have HD := Yh_ hD
 have S1 := Yh_ (RS.start hD)
 have e2 : (m.reg != 0) = false := by simp [h2]
 have hok := Yaj hD.r h1
 have ec : (c == 199) = false := by simpa using hc
 have HP2 := Yh_ (fun (w1 : World) (hd1 : Yc w1 d v L g k) => by have := Yv d g k v L w1 hd1; rw [h1] at this; exact this)
 have HP3 := Yh_ (fun (w1 : World) (hd1 : Yc w1 d v L g k1) => by have := Ybc d g k1 v L 1 m w1 hd1 hok; rw [h3] at this; exact this)
 have HP5 := Yh_ (fun (w1 : World) (hd1 : Yc w1 d v L g k2) => by have := Yc2 d g k2 v L w1 hd1; rw [h4] at this; exact this)
 clear hD h1 h2 h3 h4 hok hc
 go_enter Tryz.func126, Tryz.ntmps126
 go_wp2_with (first | (have _t := S1; clear _t; go_at_call 121; refine (HP2.out _ (S1.out).dd).mono ?_; rintro e w2 ⟨rfl, hD2, hu⟩; unfold Mrm.cells; have S2 := Yh_ ((S1.out).step hD2 hu); clear hD2 hu S1) | (have _t := S2; clear _t; go_at_call 122; refine (HP3.out _ ((S2.out).same ((Upd.refl [] w2).alloc (.cells m.cells 171))).dd).mono ?_; rintro e w3 ⟨rfl, hD3, hu⟩; have S3 := Yh_ (((S2.out).same ((Upd.refl [] w2).alloc (.cells m.cells 171))).step hD3 hu); clear hD3 hu S2) | (have _t := S3; clear _t; refine Ye 41 rfl ?_; refine Yd ⟨1, 0, o, Opd.none, false, 0⟩ w3.heap.size rfl _ _ rfl rfl rfl (heap_alloc_new w3 (.cells Ins.zero.cells 41)) rfl ?_; intro w4 hw; have h := Ya7 (S := [w3.heap.size]) (w0 := w3.alloc (.cells Ins.zero.cells 41)) hw (heap_alloc_new w3 (.cells Ins.zero.cells 41)) rfl (Upd.refl _ _) (.inl (by simp)); have HN := Yh_ (And.intro (S3.out).lt (And.intro (Yj (S3.out).dd.h) (S3.out).nn)); have S4 := Yh_ (((S3.out).same ((Upd.refl [] w3).alloc (.cells Ins.zero.cells 41))).far HD.out h.2 (S3.out).lt); have HI4 := Yh_ h.1; clear hw h S3) | (have _t := S4; clear _t; go_at_call 91; refine (HP5.out _ (S4.out).dd).mono ?_; rintro e w5 ⟨rfl, hD5, hu⟩; have S5 := Yh_ ((S4.out).step hD5 hu); have HI5 := Yh_ (hu.get (HI4.out) (by have := HN.out; simp; omega)); have cq := Ya HI5.out; unfold Ins.cells at cq; have fq := Yn HI5.out; clear hD5 hu S4) | (have _t := S5; clear _t; refine Ye 39 rfl ?_; refine Yy o2 w3.heap.size 8 rfl _ _ rfl rfl rfl (Yjl (HI5.out) 2) (by rw [Ins.size]; decide) ?_; intro w6 hw; have h := Ydm hw (Yjl (HI5.out) 2); have S6 := Yh_ (((S5.out).far HD.out ((Upd.refl [w3.heap.size] w5).setCell (p := ⟨w3.heap.size, 0, none⟩) (by simp) (.int .i64 2)) HN.out.1).far HD.out h.2 HN.out.1); have HI6 := Yh_ h.1; clear hw h S5 HI5) | (have _t := HI6; clear _t; refine Yar 41 rfl ?_; refine Yaw ⟨2, 0, o, o2, false, 0⟩ w3.heap.size rfl _ rfl rfl (HI6.out) ?_) | (have _t := S6; clear _t; refine Ye 41 rfl ?_; refine Yd ⟨2, 0, o, o2, false, 0⟩ w.heap.size rfl _ _ rfl rfl rfl (S6.out).rr rfl ?_; intro w7 hw; have S7 := Yh_ ((S6.out).store HD.out rfl hw); clear hw S6))
 exact bodyPost_ret (Yf rfl (Ys 4 w.heap.size _ rfl S7.out.rr)) rfl ⟨rfl, S7.out.dd, S7.out.uu⟩
theorem Ycs {L : List Int} {op : Int} {m : Mrm} {k k1 : Nat} {o : Opd} (h : Ybb L m k = .ok o k1) : Yba L op m k = .ok ⟨op, 0, o, Opd.none, false, 0⟩ k1 := by
 rw [Yba, h]; rfl
theorem Yfn {L : List Int} {op : Int} {m : Mrm} {k : Nat} {c : Int} (h : Ybb L m k = .err c) : Yba L op m k = .err c := by
 rw [Yba, h]; rfl
theorem Yg0 (d g k : Nat) (v : Value) (L : List Int) (c : Int) (w : World) (hD : Yc w d v L g k) :
  Calls Tryz.prog 126 #[.pointer (some ⟨d, 0, none⟩), .int .u8 c] w (Yl d v L g w (Ydu L c k) Ins.val) := by
 unfold Ydu
 cases h1 : Yab L k with
 |err e => exact lays_1 d g k v L w hD c e h1
 |ok m k1 =>
  rw [DR.bind_ok]
  by_cases h2 : m.reg = 0
  ·rw [if_neg (by simpa using h2)]
   cases h3 : Ybb L m k1 with
   |err e => exact lays_3 d g k v L w hD c e m k1 h1 h2 (Yfn h3)
   |ok o k2 =>
    rw [DR.bind_ok]
    by_cases hc : c = 199
    ·rw [if_pos hc]
     cases h4 : Yak L k2 with
     |err e => exact lays_4 d g k v L w hD c e m k1 h1 h2 o k2 (Ycs h3) hc h4
     |ok o2 k3 => exact lays_5 d g k v L w hD c m k1 h1 h2 o k2 (Ycs h3) hc o2 k3 h4
    ·rw [if_neg hc]
     cases h4 : Ybz L k2 with
     |err e => exact lays_6 d g k v L w hD c e m k1 h1 h2 o k2 (Ycs h3) hc h4
     |ok o2 k3 => exact lays_7 d g k v L w hD c m k1 h1 h2 o k2 (Ycs h3) hc o2 k3 h4
  ·rw [if_pos h2]; exact lays_2 d g k v L w hD c m k1 h1 h2
end Go.Proofs.YthakgjpejhjaoaaGreat
