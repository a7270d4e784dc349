/-
  Package decode: two, by its contract.
-/
import Derived.Test.YteiplidhkelkbaaMg06
namespace Go.Proofs.Yteiplidhkelkbaa
open Go Go.RowKit
set_option linter.unusedVariables false
set_option linter.unusedSimpArgs false

theorem ins_setA (i : Ins) (o : Opd) : wr i.cells 2 o.cells.toList = ({ i with a := o } : Ins).cells := rfl
theorem ins_setB (i : Ins) (o : Opd) : wr i.cells 8 o.cells.toList = ({ i with b := o } : Ins).cells := rfl

theorem ins_setOp {w : World} {b : Nat} {i : Ins} (hb : w.heap[b]? = some (.cells i.cells 38 (0, 0))) (n : Int) : (w.setCell ⟨b, 0, none⟩ (.int .i64 n)).heap[b]? = some (.cells ({ i with op := n } : Ins).cells 38 (0, 0)) :=
  heap_set_same hb 0 (.int .i64 n)
theorem ins_setCond {w : World} {b : Nat} {i : Ins} (hb : w.heap[b]? = some (.cells i.cells 38 (0, 0))) (n : Int) : (w.setCell ⟨b, 1, none⟩ (.int .i64 n)).heap[b]? = some (.cells ({ i with cond := n } : Ins).cells 38 (0, 0)) :=
  heap_set_same hb 1 (.int .i64 n)

theorem ins_newA {w w' : World} {b : Nat} {i : Ins} {o : Opd} (hw : w.setCells b 2 o.cells.toList = w') (hb : w.heap[b]? = some (.cells i.cells 38 (0, 0))) :
    w'.heap[b]? = some (.cells ({ i with a := o } : Ins).cells 38 (0, 0)) ∧ Upd [b] w w' := by
  subst hw
  exact ⟨by rw [heap_setCells_same _ _ _ _ hb, ins_setA], (Upd.refl [b] w).setCells (.inl (by simp)) _ _⟩
theorem ins_newB {w w' : World} {b : Nat} {i : Ins} {o : Opd} (hw : w.setCells b 8 o.cells.toList = w') (hb : w.heap[b]? = some (.cells i.cells 38 (0, 0))) :
    w'.heap[b]? = some (.cells ({ i with b := o } : Ins).cells 38 (0, 0)) ∧ Upd [b] w w' := by
  subst hw
  exact ⟨by rw [heap_setCells_same _ _ _ _ hb, ins_setB], (Upd.refl [b] w).setCells (.inl (by simp)) _ _⟩

theorem wpList_load_ins {ops : Array Oper} {rest : List Oper} {op : Oper} {a : Act} {w : World} {Q : Exit → Act → World → Prop} (i : Ins) (b : Nat) (hgd : op.guard = none) (x : Operand) (ho : op.op = .load 38 x) (hx : a.eval x = .pointer (some ⟨b, 0, none⟩))
    (hb : w.heap[b]? = some (.cells i.cells 38 (0, 0))) (h : wpList Try.prog ops Q rest (a.put op.dst (.agg i.cells)) w) : wpList Try.prog ops Q (op :: rest) a w :=
  wpList_load_arr hgd 38 x ho b 0 hx i.cells _ (range_whole hb) Try.underlying38 rfl (by rw [Ins.size]; exact ins_info) h

set_option maxRecDepth 100000 in
set_option maxHeartbeats 4000000 in
theorem two_f (d g k k1 : Nat) (v : Value) (L : List Int) (op : Int) (m : Mrm) (w : World) (hD : IsDec w d v L g k) (h1 : dcMrm L k = .ok m k1) (o : Opd) (k2 : Nat) (h2 : dcPlace L m k1 = .ok o k2) :
    Calls Try.prog 42 #[.pointer (some ⟨d, 0, none⟩), .int .i64 op, .bool false] w (DAns d v L g w (.ok ⟨op, 0, o, regO m.reg, false, 0⟩ k2) Ins.val) := by
  have hmo : Try.prog.follows .mixedOrders = true := by kernel_rfl
  have HD := Lib.hid hD
  have hok := dcMrm_ok hD.r h1
  have S := Lib.hid (RS.start hD)
  have hb := modrm_any d g k v L _ S.out.dd
  rw [h1] at hb
  have HB1 := Lib.hid hb
  have HP := Lib.hid (fun (w1 : World) (hd1 : IsDec w1 d v L g k1) => by have := place_any d g k1 v L m w1 hd1 hok; rw [h2] at this; exact this)
  clear hD hb h1 h2 hok
  go_enter Try.func42, Try.ntmps42
  go_upto_region 2 with (go_at_call 43; refine HB1.out.mono ?_; rintro e w2 ⟨rfl, hD2, hu⟩; unfold Mrm.cells; have S2 := Lib.hid (S.out.step hD2 hu); clear hD2 hu S)
  have S3 := Lib.hid (S2.out.same ((Upd.refl [] w2).alloc (.cells m.cells 87)))
  have HM := Lib.hid (heap_alloc_new w2 (.cells m.cells 87))
  have HL := Lib.hid (show d < w2.heap.size ∧ w.heap.size < w2.heap.size from ⟨lt_of_heap S2.out.dd.h, S2.out.lt⟩)
  clear S2
  refine wp_drawE 9 (TwB w d v L g w.heap.size k1 k2 w2.heap.size m Ins.zero 3 8 100) (fun _ _ => False) (by kernel_rfl) (by kernel_rfl) (fun r0 => TwB.start (S3.out.same (Upd.refl [] _).drew) HM.out (by decide) HL.out r0) (fun _ _ _ h => h.elim) ?_
  simp only [List.take_succ_cons, List.take_zero, List.drop_succ_cons, List.drop_zero]
  iterate 3
    apply headE_val0 rfl rfl
    · intro dn r0 K hd hdep hK w5 hB1
      have cm := cells_of hB1.m
      unfold Mrm.cells at cm
      have HB := Lib.hid hB1
      clear hB1 hdep
      go_wp2_with fail
      first
      | exact hK _ (HB.out.same _ (by decide) (by decide) (by decide))
      | exact HB.out.same _ (by decide) (by decide) (by decide)
    · exact ⟨_, rfl⟩
  apply headE_val0 rfl rfl
  · intro dn r0 K hd hdep hK w5 hB1
    have HB := Lib.hid hB1
    clear hB1 hdep
    go_wp2_with (go_at_call 51; refine (HP.out _ (HB.out.at1 hd)).mono ?_; rintro e w6 ⟨rfl, hD6, hu⟩; unfold Opd.val)
    first
    | exact hK _ (HB.out.call hD6 hu)
    | exact HB.out.call hD6 hu
  · exact ⟨_, rfl⟩
  iterate 2
    apply headE_val0 rfl rfl
    · intro dn r0 K hd hdep hK w5 hB1
      have cm := cells_of hB1.m
      unfold Mrm.cells at cm
      have HB := Lib.hid hB1
      clear hB1 hdep
      go_wp2_with fail
      first
      | exact hK _ (HB.out.same _ (by decide) (by decide) (by decide))
      | exact HB.out.same _ (by decide) (by decide) (by decide)
    · exact ⟨_, rfl⟩
  apply headE_val0 rfl rfl
  · intro dn r0 K hd hdep hK w5 hB1
    have HB := Lib.hid hB1
    clear hB1 hdep
    go_wp2_with (go_at_call 35; refine (dreg_any m.reg _).mono ?_; rintro e w6 ⟨rfl, hu⟩; unfold Opd.val regO)
    first
    | exact hK _ (HB.out.quiet hu _ (by decide) (by decide) (by decide))
    | exact HB.out.quiet hu _ (by decide) (by decide) (by decide)
  · exact ⟨_, rfl⟩
  iterate 1
    apply headE_val0 rfl rfl
    · intro dn r0 K hd hdep hK w5 hB1
      have cm := cells_of hB1.m
      unfold Mrm.cells at cm
      have HB := Lib.hid hB1
      clear hB1 hdep
      go_wp2_with fail
      first
      | exact hK _ (HB.out.same _ (by decide) (by decide) (by decide))
      | exact HB.out.same _ (by decide) (by decide) (by decide)
    · exact ⟨_, rfl⟩
  refine headE_free rfl (fun _ => rfl) 8 rfl (by simp [Act.put]) ?_ ?_
  · intro dn r0 K hd w5 hB1 hK
    have HB := Lib.hid hB1
    clear hB1
    simp only [fillE]
    go_wp2_with fail
    first
    | exact hK (.pointer (some ⟨w5.heap.size, 0, none⟩)) _ (HB.out.lay hd Ins.zero.cells rfl)
    | exact HB.out.lay hd Ins.zero.cells rfl
  refine headE_nil (fun _ r0 w7 dn hall hB1 => ?_)
  obtain ⟨q, Z, e1, e2, e3, e4, _⟩ := hB1.x (hall 8 (by decide))
  have hs := hB1.s
  rw [hall 3 (by decide), if_pos rfl] at hs
  show wpList _ _ _ _ (Act.put (fillE _ _ [] _) (some 8) (r0 8)) _
  rw [e1]
  simp only [fillE]
  have S7 := Lib.hid hs
  have HQ := Lib.hid e3
  have HQ2 := Lib.hid (show w.heap.size < q by have := HL.out; omega)
  have HZ := Lib.hid e4
  clear hB1 e1 e2 e3 hall hs S3 e4
  go_upto_region 5 with (have _t := HZ; clear _t; with_reducible refine at_store 38 rfl ?_; refine wpList_store_ins ⟨op, 0, o, regO m.reg, false, 0⟩ q rfl _ _ rfl rfl rfl HQ.out HZ.out ?_; intro w8 hw; have h8 := ins_new (S := [q]) (w0 := w7) hw HQ.out HZ.out (Upd.refl _ _) (.inl (by simp)); have S8 := Lib.hid (S7.out.far HD.out h8.2 HQ2.out); have HI := Lib.hid h8.1; clear hw h8 S7 HQ HZ)
  go_wp2_with (first | (with_reducible refine at_load 38 rfl ?_; refine wpList_load_ins ⟨op, 0, o, regO m.reg, false, 0⟩ q rfl _ rfl rfl HI.out ?_) | (with_reducible refine at_store 38 rfl ?_; refine wpList_store_ins ⟨op, 0, o, regO m.reg, false, 0⟩ w.heap.size rfl _ _ rfl rfl rfl S8.out.rr rfl ?_; intro w12 hw; have S12 := Lib.hid (S8.out.store HD.out rfl hw); clear hw S8))
  exact bodyPost_ret (results_one' rfl (res_ins 6 w.heap.size _ rfl S12.out.rr)) rfl ⟨rfl, S12.out.dd, S12.out.uu⟩

set_option maxRecDepth 100000 in
set_option maxHeartbeats 4000000 in
theorem two_t (d g k k1 : Nat) (v : Value) (L : List Int) (op : Int) (m : Mrm) (w : World) (hD : IsDec w d v L g k) (h1 : dcMrm L k = .ok m k1) (o : Opd) (k2 : Nat) (h2 : dcPlace L m k1 = .ok o k2) :
    Calls Try.prog 42 #[.pointer (some ⟨d, 0, none⟩), .int .i64 op, .bool true] w (DAns d v L g w (.ok ⟨op, 0, regO m.reg, o, false, 0⟩ k2) Ins.val) := by
  have hmo : Try.prog.follows .mixedOrders = true := by kernel_rfl
  have HD := Lib.hid hD
  have hok := dcMrm_ok hD.r h1
  have S := Lib.hid (RS.start hD)
  have hb := modrm_any d g k v L _ S.out.dd
  rw [h1] at hb
  have HB1 := Lib.hid hb
  have HP := Lib.hid (fun (w1 : World) (hd1 : IsDec w1 d v L g k1) => by have := place_any d g k1 v L m w1 hd1 hok; rw [h2] at this; exact this)
  clear hD hb h1 h2 hok
  go_enter Try.func42, Try.ntmps42
  go_upto_region 2 with (go_at_call 43; refine HB1.out.mono ?_; rintro e w2 ⟨rfl, hD2, hu⟩; unfold Mrm.cells; have S2 := Lib.hid (S.out.step hD2 hu); clear hD2 hu S)
  have S3 := Lib.hid (S2.out.same ((Upd.refl [] w2).alloc (.cells m.cells 87)))
  have HM := Lib.hid (heap_alloc_new w2 (.cells m.cells 87))
  have HL := Lib.hid (show d < w2.heap.size ∧ w.heap.size < w2.heap.size from ⟨lt_of_heap S2.out.dd.h, S2.out.lt⟩)
  clear S2
  refine wp_drawE 9 (TwB w d v L g w.heap.size k1 k2 w2.heap.size m Ins.zero 3 8 100) (fun _ _ => False) (by kernel_rfl) (by kernel_rfl) (fun r0 => TwB.start (S3.out.same (Upd.refl [] _).drew) HM.out (by decide) HL.out r0) (fun _ _ _ h => h.elim) ?_
  simp only [List.take_succ_cons, List.take_zero, List.drop_succ_cons, List.drop_zero]
  iterate 3
    apply headE_val0 rfl rfl
    · intro dn r0 K hd hdep hK w5 hB1
      have cm := cells_of hB1.m
      unfold Mrm.cells at cm
      have HB := Lib.hid hB1
      clear hB1 hdep
      go_wp2_with fail
      first
      | exact hK _ (HB.out.same _ (by decide) (by decide) (by decide))
      | exact HB.out.same _ (by decide) (by decide) (by decide)
    · exact ⟨_, rfl⟩
  apply headE_val0 rfl rfl
  · intro dn r0 K hd hdep hK w5 hB1
    have HB := Lib.hid hB1
    clear hB1 hdep
    go_wp2_with (go_at_call 51; refine (HP.out _ (HB.out.at1 hd)).mono ?_; rintro e w6 ⟨rfl, hD6, hu⟩; unfold Opd.val)
    first
    | exact hK _ (HB.out.call hD6 hu)
    | exact HB.out.call hD6 hu
  · exact ⟨_, rfl⟩
  iterate 2
    apply headE_val0 rfl rfl
    · intro dn r0 K hd hdep hK w5 hB1
      have cm := cells_of hB1.m
      unfold Mrm.cells at cm
      have HB := Lib.hid hB1
      clear hB1 hdep
      go_wp2_with fail
      first
      | exact hK _ (HB.out.same _ (by decide) (by decide) (by decide))
      | exact HB.out.same _ (by decide) (by decide) (by decide)
    · exact ⟨_, rfl⟩
  apply headE_val0 rfl rfl
  · intro dn r0 K hd hdep hK w5 hB1
    have HB := Lib.hid hB1
    clear hB1 hdep
    go_wp2_with (go_at_call 35; refine (dreg_any m.reg _).mono ?_; rintro e w6 ⟨rfl, hu⟩; unfold Opd.val regO)
    first
    | exact hK _ (HB.out.quiet hu _ (by decide) (by decide) (by decide))
    | exact HB.out.quiet hu _ (by decide) (by decide) (by decide)
  · exact ⟨_, rfl⟩
  iterate 1
    apply headE_val0 rfl rfl
    · intro dn r0 K hd hdep hK w5 hB1
      have cm := cells_of hB1.m
      unfold Mrm.cells at cm
      have HB := Lib.hid hB1
      clear hB1 hdep
      go_wp2_with fail
      first
      | exact hK _ (HB.out.same _ (by decide) (by decide) (by decide))
      | exact HB.out.same _ (by decide) (by decide) (by decide)
    · exact ⟨_, rfl⟩
  refine headE_free rfl (fun _ => rfl) 8 rfl (by simp [Act.put]) ?_ ?_
  · intro dn r0 K hd w5 hB1 hK
    have HB := Lib.hid hB1
    clear hB1
    simp only [fillE]
    go_wp2_with fail
    first
    | exact hK (.pointer (some ⟨w5.heap.size, 0, none⟩)) _ (HB.out.lay hd Ins.zero.cells rfl)
    | exact HB.out.lay hd Ins.zero.cells rfl
  refine headE_nil (fun _ r0 w7 dn hall hB1 => ?_)
  obtain ⟨q, Z, e1, e2, e3, e4, _⟩ := hB1.x (hall 8 (by decide))
  have hs := hB1.s
  rw [hall 3 (by decide), if_pos rfl] at hs
  show wpList _ _ _ _ (Act.put (fillE _ _ [] _) (some 8) (r0 8)) _
  rw [e1]
  simp only [fillE]
  have S7 := Lib.hid hs
  have HQ := Lib.hid e3
  have HQ2 := Lib.hid (show w.heap.size < q by have := HL.out; omega)
  have HZ := Lib.hid e4
  clear hB1 e1 e2 e3 hall hs S3 e4
  go_upto_region 4 with (have _t := HZ; clear _t; with_reducible refine at_store 38 rfl ?_; refine wpList_store_ins ⟨op, 0, o, regO m.reg, false, 0⟩ q rfl _ _ rfl rfl rfl HQ.out HZ.out ?_; intro w8 hw; have h8 := ins_new (S := [q]) (w0 := w7) hw HQ.out HZ.out (Upd.refl _ _) (.inl (by simp)); have S8 := Lib.hid (S7.out.far HD.out h8.2 HQ2.out); have HI := Lib.hid h8.1; clear hw h8 S7 HQ HZ)
  have cq := cells_of HI.out
  unfold Ins.cells regO at cq
  go_upto_region 5 with (first | (have _t := HI; clear _t; with_reducible refine at_store 36 rfl ?_; refine wpList_store_opd (regO m.reg) q 2 rfl _ _ rfl rfl rfl HI.out (by rw [Ins.size]; decide) ?_; intro w9 hw; have h9 := ins_newA hw HI.out; have S9 := Lib.hid (S8.out.far HD.out h9.2 HQ2.out); have HI9 := Lib.hid h9.1; clear hw h9 S8 HI cq) | (have _t := HI9; clear _t; with_reducible refine at_store 36 rfl ?_; refine wpList_store_opd o q 8 rfl _ _ rfl rfl rfl HI9.out (by rw [Ins.size]; decide) ?_; intro w10 hw; have h10 := ins_newB hw HI9.out; have S10 := Lib.hid (S9.out.far HD.out h10.2 HQ2.out); have HI10 := Lib.hid h10.1; clear hw h10 S9 HI9))
  go_wp2_with (first | (with_reducible refine at_load 38 rfl ?_; refine wpList_load_ins ⟨op, 0, regO m.reg, o, false, 0⟩ q rfl _ rfl rfl HI10.out ?_) | (with_reducible refine at_store 38 rfl ?_; refine wpList_store_ins ⟨op, 0, regO m.reg, o, false, 0⟩ w.heap.size rfl _ _ rfl rfl rfl S10.out.rr rfl ?_; intro w12 hw; have S12 := Lib.hid (S10.out.store HD.out rfl hw); clear hw S10))
  exact bodyPost_ret (results_one' rfl (res_ins 6 w.heap.size _ rfl S12.out.rr)) rfl ⟨rfl, S12.out.dd, S12.out.uu⟩

set_option maxRecDepth 100000 in
set_option maxHeartbeats 4000000 in
theorem two_bad (d g k k1 : Nat) (v : Value) (L : List Int) (op : Int) (m : Mrm) (w : World) (hD : IsDec w d v L g k) (h1 : dcMrm L k = .ok m k1) (t : Bool) (c : Int) (h2 : dcPlace L m k1 = .err c) :
    Calls Try.prog 42 #[.pointer (some ⟨d, 0, none⟩), .int .i64 op, .bool t] w (DAns d v L g w (.err c) Ins.val) := by
  have hmo : Try.prog.follows .mixedOrders = true := by kernel_rfl
  have HD := Lib.hid hD
  have hok := dcMrm_ok hD.r h1
  have S := Lib.hid (RS.start hD)
  have hb := modrm_any d g k v L _ S.out.dd
  rw [h1] at hb
  have HB1 := Lib.hid hb
  have HP := Lib.hid (fun (w1 : World) (hd1 : IsDec w1 d v L g k1) => by have := place_any d g k1 v L m w1 hd1 hok; rw [h2] at this; exact this)
  clear hD hb h1 h2 hok
  go_enter Try.func42, Try.ntmps42
  go_upto_region 2 with (go_at_call 43; refine HB1.out.mono ?_; rintro e w2 ⟨rfl, hD2, hu⟩; unfold Mrm.cells; have S2 := Lib.hid (S.out.step hD2 hu); clear hD2 hu S)
  have S3 := Lib.hid (S2.out.same ((Upd.refl [] w2).alloc (.cells m.cells 87)))
  have HM := Lib.hid (heap_alloc_new w2 (.cells m.cells 87))
  have HL := Lib.hid (show d < w2.heap.size ∧ w.heap.size < w2.heap.size from ⟨lt_of_heap S2.out.dd.h, S2.out.lt⟩)
  clear S2
  refine wp_drawE 9 (TwB w d v L g w.heap.size k1 k1 w2.heap.size m Ins.zero 3 8 100) (fun c2 w9 => c2 = [{ v := .iface 25 (.int .i64 c), recovered := false }] ∧ Upd [d] w w9) (by kernel_rfl) (by kernel_rfl) (fun r0 => TwB.start (S3.out.same (Upd.refl [] _).drew) HM.out (by decide) HL.out r0) (fun c2 a9 w9 hx h4 h5 h6 => by show bodyPost Try.prog Try.f42 (DAns d v L g w (.err c) Ins.val) (Exit.panic c2) a9 w9; refine ⟨h4, ?_⟩; rw [hx.1]; exact ⟨rfl, hx.2⟩) ?_
  simp only [List.take_succ_cons, List.take_zero, List.drop_succ_cons, List.drop_zero]
  iterate 3
    apply headE_val0 rfl rfl
    · intro dn r0 K hd hdep hK w5 hB1
      have cm := cells_of hB1.m
      unfold Mrm.cells at cm
      have HB := Lib.hid hB1
      clear hB1 hdep
      go_wp2_with fail
      first
      | exact hK _ (HB.out.same _ (by decide) (by decide) (by decide))
      | exact HB.out.same _ (by decide) (by decide) (by decide)
    · exact ⟨_, rfl⟩
  apply headE_dies0 rfl rfl
  · intro dn r0 w5 hd hB1
    have HB := Lib.hid hB1
    clear hB1
    go_wp2_with (go_at_call 51; refine (HP.out _ (HB.out.at1 hd)).mono ?_; rintro e w6 ⟨rfl, hu⟩)
    exact ⟨rfl, HB.out.s.uu.also hu (by simp)⟩
  iterate 2
    apply headE_val0 rfl rfl
    · intro dn r0 K hd hdep hK w5 hB1
      have cm := cells_of hB1.m
      unfold Mrm.cells at cm
      have HB := Lib.hid hB1
      clear hB1 hdep
      go_wp2_with fail
      first
      | exact hK _ (HB.out.same _ (by decide) (by decide) (by decide))
      | exact HB.out.same _ (by decide) (by decide) (by decide)
    · exact ⟨_, rfl⟩
  refine headE_dead rfl ?_
  refine headE_dead rfl ?_
  refine headE_free rfl (fun _ => rfl) 8 rfl (by simp [Act.put]) ?_ ?_
  · intro dn r0 K hd w5 hB1 hK
    have HB := Lib.hid hB1
    clear hB1
    simp only [fillE]
    go_wp2_with fail
    first
    | exact hK (.pointer (some ⟨w5.heap.size, 0, none⟩)) _ (HB.out.lay hd Ins.zero.cells rfl)
    | exact HB.out.lay hd Ins.zero.cells rfl
  exact headE_nil (fun hdead => by cases hdead)

set_option maxRecDepth 100000 in
set_option maxHeartbeats 4000000 in
theorem two_none (d g k : Nat) (v : Value) (L : List Int) (op : Int) (t : Bool) (w : World) (hD : IsDec w d v L g k) (c : Int) (h1 : dcMrm L k = .err c) :
    Calls Try.prog 42 #[.pointer (some ⟨d, 0, none⟩), .int .i64 op, .bool t] w (DAns d v L g w (.err c) Ins.val) := by
  have S := Lib.hid (RS.start hD)
  have hb := modrm_any d g k v L _ S.out.dd
  rw [h1] at hb
  have HB1 := Lib.hid hb
  clear hD hb h1
  go_enter Try.func42, Try.ntmps42
  go_wp2_with (go_at_call 43; refine HB1.out.mono ?_; rintro e w2 ⟨rfl, hu⟩)
  exact ⟨rfl, rfl, S.out.uu.also hu (by simp)⟩

theorem two_any (d g k : Nat) (v : Value) (L : List Int) (op : Int) (t : Bool) (w : World) (hD : IsDec w d v L g k) :
    Calls Try.prog 42 #[.pointer (some ⟨d, 0, none⟩), .int .i64 op, .bool t] w (DAns d v L g w (dcTwo L op t k) Ins.val) := by
  unfold dcTwo
  cases h1 : dcMrm L k with
  | err c => rw [DR.bind_err]; exact two_none d g k v L op t w hD c h1
  | ok m k1 =>
    rw [DR.bind_ok]
    cases h2 : dcPlace L m k1 with
    | err c => rw [DR.bind_err]; exact two_bad d g k k1 v L op m w hD h1 t c h2
    | ok o k2 =>
      rw [DR.bind_ok]
      cases t
      · exact two_f d g k k1 v L op m w hD h1 o k2 h2
      · exact two_t d g k k1 v L op m w hD h1 o k2 h2

end Go.Proofs.Yteiplidhkelkbaa

/-
  Package decode: lays, shift: each by its contract.
-/
namespace Go.Proofs.Yteiplidhkelkbaa
open Go Go.RowKit
set_option linter.unusedVariables false
set_option linter.unusedSimpArgs false

set_option maxRecDepth 100000 in
set_option maxHeartbeats 2000000 in
theorem lays_1 (d g k : Nat) (v : Value) (L : List Int) (w : World) (hD : IsDec w d v L g k) (c e : Int) (h1 : dcMrm L k = .err e) :
    Calls Try.prog 49 #[.pointer (some ⟨d, 0, none⟩), .int .u8 c] w (DAns d v L g w (.err e) Ins.val) := by
  have HD := Lib.hid hD
  have S1 := Lib.hid (RS.start hD)
  have HP2 := Lib.hid (fun (w1 : World) (hd1 : IsDec w1 d v L g k) => by have := modrm_any d g k v L w1 hd1; rw [h1] at this; exact this)
  clear hD h1
  go_enter Try.func49, Try.ntmps49
  go_wp2_with (have _t := S1; clear _t; go_at_call 43; refine (HP2.out _ (S1.out).dd).mono ?_; rintro e w2 ⟨rfl, hu⟩)
  exact ⟨rfl, rfl, (S1.out).uu.also hu (by simp)⟩

set_option maxRecDepth 100000 in
set_option maxHeartbeats 2000000 in
theorem lays_2 (d g k : Nat) (v : Value) (L : List Int) (w : World) (hD : IsDec w d v L g k) (c : Int) (m : Mrm) (k1 : Nat) (h1 : dcMrm L k = .ok m k1) (h2 : m.reg ≠ 0) :
    Calls Try.prog 49 #[.pointer (some ⟨d, 0, none⟩), .int .u8 c] w (DAns d v L g w (.err 90) Ins.val) := by
  have HD := Lib.hid hD
  have S1 := Lib.hid (RS.start hD)
  have e2 : (m.reg != 0) = true := by simpa using h2
  have HP2 := Lib.hid (fun (w1 : World) (hd1 : IsDec w1 d v L g k) => by have := modrm_any d g k v L w1 hd1; rw [h1] at this; exact this)
  clear hD h1 h2
  go_enter Try.func49, Try.ntmps49
  go_wp2_with (have _t := S1; clear _t; go_at_call 43; refine (HP2.out _ (S1.out).dd).mono ?_; rintro e w2 ⟨rfl, hD2, hu⟩; unfold Mrm.cells; have S2 := Lib.hid ((S1.out).step hD2 hu); clear hD2 hu S1)
  exact ⟨rfl, rfl, ((S2.out).same ((Upd.refl [] w2).alloc (.cells m.cells 87))).uu⟩

set_option maxRecDepth 100000 in
set_option maxHeartbeats 2000000 in
theorem lays_3 (d g k : Nat) (v : Value) (L : List Int) (w : World) (hD : IsDec w d v L g k) (c e : Int) (m : Mrm) (k1 : Nat) (h1 : dcMrm L k = .ok m k1) (h2 : m.reg = 0) (h3 : dcOne L 1 m k1 = .err e) :
    Calls Try.prog 49 #[.pointer (some ⟨d, 0, none⟩), .int .u8 c] w (DAns d v L g w (.err e) Ins.val) := by
  have HD := Lib.hid hD
  have S1 := Lib.hid (RS.start hD)
  have e2 : (m.reg != 0) = false := by simp [h2]
  have hok := dcMrm_ok hD.r h1
  have HP2 := Lib.hid (fun (w1 : World) (hd1 : IsDec w1 d v L g k) => by have := modrm_any d g k v L w1 hd1; rw [h1] at this; exact this)
  have HP3 := Lib.hid (fun (w1 : World) (hd1 : IsDec w1 d v L g k1) => by have := one_any d g k1 v L 1 m w1 hd1 hok; rw [h3] at this; exact this)
  clear hD h1 h2 h3 hok
  go_enter Try.func49, Try.ntmps49
  go_wp2_with (first | (have _t := S1; clear _t; go_at_call 43; refine (HP2.out _ (S1.out).dd).mono ?_; rintro e w2 ⟨rfl, hD2, hu⟩; unfold Mrm.cells; have S2 := Lib.hid ((S1.out).step hD2 hu); clear hD2 hu S1) | (have _t := S2; clear _t; go_at_call 44; refine (HP3.out _ ((S2.out).same ((Upd.refl [] w2).alloc (.cells m.cells 87))).dd).mono ?_; rintro e w3 ⟨rfl, hu⟩))
  exact ⟨rfl, rfl, ((S2.out).same ((Upd.refl [] w2).alloc (.cells m.cells 87))).uu.also hu (by simp)⟩

set_option maxRecDepth 100000 in
set_option maxHeartbeats 2000000 in
theorem lays_4 (d g k : Nat) (v : Value) (L : List Int) (w : World) (hD : IsDec w d v L g k) (c e : Int) (m : Mrm) (k1 : Nat) (h1 : dcMrm L k = .ok m k1) (h2 : m.reg = 0) (o : Opd) (k2 : Nat) (h3 : dcOne L 1 m k1 = .ok ⟨1, 0, o, Opd.none, false, 0⟩ k2) (hc : c = 199) (h4 : dcImm32 L k2 = .err e) :
    Calls Try.prog 49 #[.pointer (some ⟨d, 0, none⟩), .int .u8 c] w (DAns d v L g w (.err e) Ins.val) := by
  have HD := Lib.hid hD
  have S1 := Lib.hid (RS.start hD)
  have e2 : (m.reg != 0) = false := by simp [h2]
  have hok := dcMrm_ok hD.r h1
  have ec : (c == 199) = true := by simpa using hc
  have HP2 := Lib.hid (fun (w1 : World) (hd1 : IsDec w1 d v L g k) => by have := modrm_any d g k v L w1 hd1; rw [h1] at this; exact this)
  have HP3 := Lib.hid (fun (w1 : World) (hd1 : IsDec w1 d v L g k1) => by have := one_any d g k1 v L 1 m w1 hd1 hok; rw [h3] at this; exact this)
  have HP5 := Lib.hid (fun (w1 : World) (hd1 : IsDec w1 d v L g k2) => by have := imm32_any d g k2 v L w1 hd1; rw [h4] at this; exact this)
  clear hD h1 h2 h3 h4 hok hc
  go_enter Try.func49, Try.ntmps49
  go_wp2_with (first | (have _t := S1; clear _t; go_at_call 43; refine (HP2.out _ (S1.out).dd).mono ?_; rintro e w2 ⟨rfl, hD2, hu⟩; unfold Mrm.cells; have S2 := Lib.hid ((S1.out).step hD2 hu); clear hD2 hu S1) | (have _t := S2; clear _t; go_at_call 44; refine (HP3.out _ ((S2.out).same ((Upd.refl [] w2).alloc (.cells m.cells 87))).dd).mono ?_; rintro e w3 ⟨rfl, hD3, hu⟩; have S3 := Lib.hid (((S2.out).same ((Upd.refl [] w2).alloc (.cells m.cells 87))).step hD3 hu); clear hD3 hu S2) | (have _t := S3; clear _t; refine at_store 38 rfl ?_; refine wpList_store_ins ⟨1, 0, o, Opd.none, false, 0⟩ w3.heap.size rfl _ _ rfl rfl rfl (heap_alloc_new w3 (.cells Ins.zero.cells 38)) rfl ?_; intro w4 hw; have h := ins_new (S := [w3.heap.size]) (w0 := w3.alloc (.cells Ins.zero.cells 38)) hw (heap_alloc_new w3 (.cells Ins.zero.cells 38)) rfl (Upd.refl _ _) (.inl (by simp)); have HN := Lib.hid (And.intro (S3.out).lt (And.intro (lt_of_heap (S3.out).dd.h) (S3.out).nn)); have S4 := Lib.hid (((S3.out).same ((Upd.refl [] w3).alloc (.cells Ins.zero.cells 38))).far HD.out h.2 (S3.out).lt); have HI4 := Lib.hid h.1; clear hw h S3) | (have _t := S4; clear _t; go_at_call 38; refine (HP5.out _ (S4.out).dd).mono ?_; rintro e w5 ⟨rfl, hu⟩))
  exact ⟨rfl, rfl, (S4.out).uu.also hu (by simp)⟩

set_option maxRecDepth 100000 in
set_option maxHeartbeats 2000000 in
theorem lays_5 (d g k : Nat) (v : Value) (L : List Int) (w : World) (hD : IsDec w d v L g k) (c : Int) (m : Mrm) (k1 : Nat) (h1 : dcMrm L k = .ok m k1) (h2 : m.reg = 0) (o : Opd) (k2 : Nat) (h3 : dcOne L 1 m k1 = .ok ⟨1, 0, o, Opd.none, false, 0⟩ k2) (hc : c = 199) (o2 : Opd) (k3 : Nat) (h4 : dcImm32 L k2 = .ok o2 k3) :
    Calls Try.prog 49 #[.pointer (some ⟨d, 0, none⟩), .int .u8 c] w (DAns d v L g w (.ok ⟨1, 0, o, o2, false, 0⟩ k3) Ins.val) := by
  have HD := Lib.hid hD
  have S1 := Lib.hid (RS.start hD)
  have e2 : (m.reg != 0) = false := by simp [h2]
  have hok := dcMrm_ok hD.r h1
  have ec : (c == 199) = true := by simpa using hc
  have HP2 := Lib.hid (fun (w1 : World) (hd1 : IsDec w1 d v L g k) => by have := modrm_any d g k v L w1 hd1; rw [h1] at this; exact this)
  have HP3 := Lib.hid (fun (w1 : World) (hd1 : IsDec w1 d v L g k1) => by have := one_any d g k1 v L 1 m w1 hd1 hok; rw [h3] at this; exact this)
  have HP5 := Lib.hid (fun (w1 : World) (hd1 : IsDec w1 d v L g k2) => by have := imm32_any d g k2 v L w1 hd1; rw [h4] at this; exact this)
  clear hD h1 h2 h3 h4 hok hc
  go_enter Try.func49, Try.ntmps49
  go_wp2_with (first | (have _t := S1; clear _t; go_at_call 43; refine (HP2.out _ (S1.out).dd).mono ?_; rintro e w2 ⟨rfl, hD2, hu⟩; unfold Mrm.cells; have S2 := Lib.hid ((S1.out).step hD2 hu); clear hD2 hu S1) | (have _t := S2; clear _t; go_at_call 44; refine (HP3.out _ ((S2.out).same ((Upd.refl [] w2).alloc (.cells m.cells 87))).dd).mono ?_; rintro e w3 ⟨rfl, hD3, hu⟩; have S3 := Lib.hid (((S2.out).same ((Upd.refl [] w2).alloc (.cells m.cells 87))).step hD3 hu); clear hD3 hu S2) | (have _t := S3; clear _t; refine at_store 38 rfl ?_; refine wpList_store_ins ⟨1, 0, o, Opd.none, false, 0⟩ w3.heap.size rfl _ _ rfl rfl rfl (heap_alloc_new w3 (.cells Ins.zero.cells 38)) rfl ?_; intro w4 hw; have h := ins_new (S := [w3.heap.size]) (w0 := w3.alloc (.cells Ins.zero.cells 38)) hw (heap_alloc_new w3 (.cells Ins.zero.cells 38)) rfl (Upd.refl _ _) (.inl (by simp)); have HN := Lib.hid (And.intro (S3.out).lt (And.intro (lt_of_heap (S3.out).dd.h) (S3.out).nn)); have S4 := Lib.hid (((S3.out).same ((Upd.refl [] w3).alloc (.cells Ins.zero.cells 38))).far HD.out h.2 (S3.out).lt); have HI4 := Lib.hid h.1; clear hw h S3) | (have _t := S4; clear _t; go_at_call 38; refine (HP5.out _ (S4.out).dd).mono ?_; rintro e w5 ⟨rfl, hD5, hu⟩; have S5 := Lib.hid ((S4.out).step hD5 hu); have HI5 := Lib.hid (hu.get (HI4.out) (by have := HN.out; simp; omega)); clear hD5 hu S4) | (have _t := S5; clear _t; refine at_store 36 rfl ?_; refine wpList_store_opd o2 w3.heap.size 8 rfl _ _ rfl rfl rfl (HI5.out) (by rw [Ins.size]; decide) ?_; intro w6 hw; have h := ins_newB hw (HI5.out); have S6 := Lib.hid ((S5.out).far HD.out h.2 HN.out.1); have HI6 := Lib.hid h.1; clear hw h S5 HI5) | (have _t := HI6; clear _t; refine at_load 38 rfl ?_; refine wpList_load_ins ⟨1, 0, o, o2, false, 0⟩ w3.heap.size rfl _ rfl rfl (HI6.out) ?_) | (have _t := S6; clear _t; refine at_store 38 rfl ?_; refine wpList_store_ins ⟨1, 0, o, o2, false, 0⟩ w.heap.size rfl _ _ rfl rfl rfl (S6.out).rr rfl ?_; intro w7 hw; have S7 := Lib.hid ((S6.out).store HD.out rfl hw); clear hw S6))
  exact bodyPost_ret (results_one' rfl (res_ins 4 w.heap.size _ rfl S7.out.rr)) rfl ⟨rfl, S7.out.dd, S7.out.uu⟩

set_option maxRecDepth 100000 in
set_option maxHeartbeats 2000000 in
theorem lays_6 (d g k : Nat) (v : Value) (L : List Int) (w : World) (hD : IsDec w d v L g k) (c e : Int) (m : Mrm) (k1 : Nat) (h1 : dcMrm L k = .ok m k1) (h2 : m.reg = 0) (o : Opd) (k2 : Nat) (h3 : dcOne L 1 m k1 = .ok ⟨1, 0, o, Opd.none, false, 0⟩ k2) (hc : c ≠ 199) (h4 : dcSmall L k2 = .err e) :
    Calls Try.prog 49 #[.pointer (some ⟨d, 0, none⟩), .int .u8 c] w (DAns d v L g w (.err e) Ins.val) := by
  have HD := Lib.hid hD
  have S1 := Lib.hid (RS.start hD)
  have e2 : (m.reg != 0) = false := by simp [h2]
  have hok := dcMrm_ok hD.r h1
  have ec : (c == 199) = false := by simpa using hc
  have HP2 := Lib.hid (fun (w1 : World) (hd1 : IsDec w1 d v L g k) => by have := modrm_any d g k v L w1 hd1; rw [h1] at this; exact this)
  have HP3 := Lib.hid (fun (w1 : World) (hd1 : IsDec w1 d v L g k1) => by have := one_any d g k1 v L 1 m w1 hd1 hok; rw [h3] at this; exact this)
  have HP5 := Lib.hid (fun (w1 : World) (hd1 : IsDec w1 d v L g k2) => by have := small_any d g k2 v L w1 hd1; rw [h4] at this; exact this)
  clear hD h1 h2 h3 h4 hok hc
  go_enter Try.func49, Try.ntmps49
  go_wp2_with (first | (have _t := S1; clear _t; go_at_call 43; refine (HP2.out _ (S1.out).dd).mono ?_; rintro e w2 ⟨rfl, hD2, hu⟩; unfold Mrm.cells; have S2 := Lib.hid ((S1.out).step hD2 hu); clear hD2 hu S1) | (have _t := S2; clear _t; go_at_call 44; refine (HP3.out _ ((S2.out).same ((Upd.refl [] w2).alloc (.cells m.cells 87))).dd).mono ?_; rintro e w3 ⟨rfl, hD3, hu⟩; have S3 := Lib.hid (((S2.out).same ((Upd.refl [] w2).alloc (.cells m.cells 87))).step hD3 hu); clear hD3 hu S2) | (have _t := S3; clear _t; refine at_store 38 rfl ?_; refine wpList_store_ins ⟨1, 0, o, Opd.none, false, 0⟩ w3.heap.size rfl _ _ rfl rfl rfl (heap_alloc_new w3 (.cells Ins.zero.cells 38)) rfl ?_; intro w4 hw; have h := ins_new (S := [w3.heap.size]) (w0 := w3.alloc (.cells Ins.zero.cells 38)) hw (heap_alloc_new w3 (.cells Ins.zero.cells 38)) rfl (Upd.refl _ _) (.inl (by simp)); have HN := Lib.hid (And.intro (S3.out).lt (And.intro (lt_of_heap (S3.out).dd.h) (S3.out).nn)); have S4 := Lib.hid (((S3.out).same ((Upd.refl [] w3).alloc (.cells Ins.zero.cells 38))).far HD.out h.2 (S3.out).lt); have HI4 := Lib.hid h.1; clear hw h S3) | (have _t := S4; clear _t; go_at_call 37; refine (HP5.out _ (S4.out).dd).mono ?_; rintro e w5 ⟨rfl, hu⟩))
  exact ⟨rfl, rfl, (S4.out).uu.also hu (by simp)⟩

set_option maxRecDepth 100000 in
set_option maxHeartbeats 2000000 in
theorem lays_7 (d g k : Nat) (v : Value) (L : List Int) (w : World) (hD : IsDec w d v L g k) (c : Int) (m : Mrm) (k1 : Nat) (h1 : dcMrm L k = .ok m k1) (h2 : m.reg = 0) (o : Opd) (k2 : Nat) (h3 : dcOne L 1 m k1 = .ok ⟨1, 0, o, Opd.none, false, 0⟩ k2) (hc : c ≠ 199) (o2 : Opd) (k3 : Nat) (h4 : dcSmall L k2 = .ok o2 k3) :
    Calls Try.prog 49 #[.pointer (some ⟨d, 0, none⟩), .int .u8 c] w (DAns d v L g w (.ok ⟨2, 0, o, o2, false, 0⟩ k3) Ins.val) := by
  have HD := Lib.hid hD
  have S1 := Lib.hid (RS.start hD)
  have e2 : (m.reg != 0) = false := by simp [h2]
  have hok := dcMrm_ok hD.r h1
  have ec : (c == 199) = false := by simpa using hc
  have HP2 := Lib.hid (fun (w1 : World) (hd1 : IsDec w1 d v L g k) => by have := modrm_any d g k v L w1 hd1; rw [h1] at this; exact this)
  have HP3 := Lib.hid (fun (w1 : World) (hd1 : IsDec w1 d v L g k1) => by have := one_any d g k1 v L 1 m w1 hd1 hok; rw [h3] at this; exact this)
  have HP5 := Lib.hid (fun (w1 : World) (hd1 : IsDec w1 d v L g k2) => by have := small_any d g k2 v L w1 hd1; rw [h4] at this; exact this)
  clear hD h1 h2 h3 h4 hok hc
  go_enter Try.func49, Try.ntmps49
  go_wp2_with (first | (have _t := S1; clear _t; go_at_call 43; refine (HP2.out _ (S1.out).dd).mono ?_; rintro e w2 ⟨rfl, hD2, hu⟩; unfold Mrm.cells; have S2 := Lib.hid ((S1.out).step hD2 hu); clear hD2 hu S1) | (have _t := S2; clear _t; go_at_call 44; refine (HP3.out _ ((S2.out).same ((Upd.refl [] w2).alloc (.cells m.cells 87))).dd).mono ?_; rintro e w3 ⟨rfl, hD3, hu⟩; have S3 := Lib.hid (((S2.out).same ((Upd.refl [] w2).alloc (.cells m.cells 87))).step hD3 hu); clear hD3 hu S2) | (have _t := S3; clear _t; refine at_store 38 rfl ?_; refine wpList_store_ins ⟨1, 0, o, Opd.none, false, 0⟩ w3.heap.size rfl _ _ rfl rfl rfl (heap_alloc_new w3 (.cells Ins.zero.cells 38)) rfl ?_; intro w4 hw; have h := ins_new (S := [w3.heap.size]) (w0 := w3.alloc (.cells Ins.zero.cells 38)) hw (heap_alloc_new w3 (.cells Ins.zero.cells 38)) rfl (Upd.refl _ _) (.inl (by simp)); have HN := Lib.hid (And.intro (S3.out).lt (And.intro (lt_of_heap (S3.out).dd.h) (S3.out).nn)); have S4 := Lib.hid (((S3.out).same ((Upd.refl [] w3).alloc (.cells Ins.zero.cells 38))).far HD.out h.2 (S3.out).lt); have HI4 := Lib.hid h.1; clear hw h S3) | (have _t := S4; clear _t; go_at_call 37; refine (HP5.out _ (S4.out).dd).mono ?_; rintro e w5 ⟨rfl, hD5, hu⟩; have S5 := Lib.hid ((S4.out).step hD5 hu); have HI5 := Lib.hid (hu.get (HI4.out) (by have := HN.out; simp; omega)); have cq := cells_of HI5.out; unfold Ins.cells at cq; have fq := free_of HI5.out; clear hD5 hu S4) | (have _t := S5; clear _t; refine at_store 36 rfl ?_; refine wpList_store_opd o2 w3.heap.size 8 rfl _ _ rfl rfl rfl (ins_setOp (HI5.out) 2) (by rw [Ins.size]; decide) ?_; intro w6 hw; have h := ins_newB hw (ins_setOp (HI5.out) 2); have S6 := Lib.hid (((S5.out).far HD.out ((Upd.refl [w3.heap.size] w5).setCell (p := ⟨w3.heap.size, 0, none⟩) (by simp) (.int .i64 2)) HN.out.1).far HD.out h.2 HN.out.1); have HI6 := Lib.hid h.1; clear hw h S5 HI5) | (have _t := HI6; clear _t; refine at_load 38 rfl ?_; refine wpList_load_ins ⟨2, 0, o, o2, false, 0⟩ w3.heap.size rfl _ rfl rfl (HI6.out) ?_) | (have _t := S6; clear _t; refine at_store 38 rfl ?_; refine wpList_store_ins ⟨2, 0, o, o2, false, 0⟩ w.heap.size rfl _ _ rfl rfl rfl (S6.out).rr rfl ?_; intro w7 hw; have S7 := Lib.hid ((S6.out).store HD.out rfl hw); clear hw S6))
  exact bodyPost_ret (results_one' rfl (res_ins 4 w.heap.size _ rfl S7.out.rr)) rfl ⟨rfl, S7.out.dd, S7.out.uu⟩

theorem one_ok {L : List Int} {op : Int} {m : Mrm} {k k1 : Nat} {o : Opd} (h : dcPlace L m k = .ok o k1) : dcOne L op m k = .ok ⟨op, 0, o, Opd.none, false, 0⟩ k1 := by
  rw [dcOne, h]; rfl
theorem one_err {L : List Int} {op : Int} {m : Mrm} {k : Nat} {c : Int} (h : dcPlace L m k = .err c) : dcOne L op m k = .err c := by
  rw [dcOne, h]; rfl

theorem lays_any (d g k : Nat) (v : Value) (L : List Int) (c : Int) (w : World) (hD : IsDec w d v L g k) :
    Calls Try.prog 49 #[.pointer (some ⟨d, 0, none⟩), .int .u8 c] w (DAns d v L g w (dcLays L c k) Ins.val) := by
  unfold dcLays
  cases h1 : dcMrm L k with
  | err e => exact lays_1 d g k v L w hD c e h1
  | ok m k1 =>
    rw [DR.bind_ok]
    by_cases h2 : m.reg = 0
    · rw [if_neg (by simpa using h2)]
      cases h3 : dcPlace L m k1 with
      | err e => exact lays_3 d g k v L w hD c e m k1 h1 h2 (one_err h3)
      | ok o k2 =>
        rw [DR.bind_ok]
        by_cases hc : c = 199
        · rw [if_pos hc]
          cases h4 : dcImm32 L k2 with
          | err e => exact lays_4 d g k v L w hD c e m k1 h1 h2 o k2 (one_ok h3) hc h4
          | ok o2 k3 => exact lays_5 d g k v L w hD c m k1 h1 h2 o k2 (one_ok h3) hc o2 k3 h4
        · rw [if_neg hc]
          cases h4 : dcSmall L k2 with
          | err e => exact lays_6 d g k v L w hD c e m k1 h1 h2 o k2 (one_ok h3) hc h4
          | ok o2 k3 => exact lays_7 d g k v L w hD c m k1 h1 h2 o k2 (one_ok h3) hc o2 k3 h4
    · rw [if_pos h2]; exact lays_2 d g k v L w hD c m k1 h1 h2

end Go.Proofs.Yteiplidhkelkbaa
