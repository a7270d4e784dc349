/-
  Parts of the proof (their names shortened by a program). No condition.
-/
import Derived.Test.YthakgjpejhjaoaaGreatMg01
import Derived.Test.YthakgjpejhjaoaaGreatMg11
namespace Go.Proofs.YthakgjpejhjaoaaGreat
open Go Go.RowKit
set_option linter.unusedVariables false
set_option linter.unusedSimpArgs false
set_option maxRecDepth 100000
set_option maxHeartbeats 16000000
theorem lea_1 (d g k : Nat) (v : Value) (L : List Int) (w : World) (hD : Yc w d v L g k) (e : Int) (h1 : Yab L k = .err e) :
  Calls Tryz.prog 125 #[.pointer (some ⟨d, 0, none⟩)] w (Yl d v L g w (.err e) Ins.val) := by
 have HD := Yh_ hD
 have S1 := Yh_ (RS.start hD)
 have HP2 := Yh_ (fun (w1 : World) (hd1 : Yc w1 d v L g k) => by have := Yv d g k v L w1 hd1; rw [h1] at this; exact this)
 clear hD h1
 go_enter Tryz.func125, Tryz.ntmps125
 go_wp2_with (have _t := S1; clear _t; go_at_call 121; refine (HP2.out _ (S1.out).dd).mono ?_; rintro e w2 ⟨rfl, hu⟩)
 exact ⟨rfl, rfl, (S1.out).uu.also hu (by simp)⟩
theorem lea_2 (d g k : Nat) (v : Value) (L : List Int) (w : World) (hD : Yc w d v L g k) (m : Mrm) (k1 : Nat) (h1 : Yab L k = .ok m k1) (h3 : m.mod = 3) :
  Calls Tryz.prog 125 #[.pointer (some ⟨d, 0, none⟩)] w (Yl d v L g w (.err 90) Ins.val) := by
 have HD := Yh_ hD
 have S1 := Yh_ (RS.start hD)
 have em : (m.mod == 3) = true := by simpa using h3
 clear h3
 have HP2 := Yh_ (fun (w1 : World) (hd1 : Yc w1 d v L g k) => by have := Yv d g k v L w1 hd1; rw [h1] at this; exact this)
 clear hD h1
 go_enter Tryz.func125, Tryz.ntmps125
 go_wp2_with (have _t := S1; clear _t; go_at_call 121; refine (HP2.out _ (S1.out).dd).mono ?_; rintro e w2 ⟨rfl, hD2, hu⟩; unfold Mrm.cells; have S2 := Yh_ ((S1.out).step hD2 hu); clear hD2 hu S1)
 exact ⟨rfl, rfl, ((S2.out).same ((Upd.refl [] w2).alloc (.cells m.cells 171))).uu⟩
theorem lea_3 (d g k : Nat) (v : Value) (L : List Int) (w : World) (hD : Yc w d v L g k) (m : Mrm) (k1 : Nat) (h1 : Yab L k = .ok m k1) (h3 : m.mod ≠ 3) (e : Int) (h2 : Ybb L m k1 = .err e) :
  Calls Tryz.prog 125 #[.pointer (some ⟨d, 0, none⟩)] w (Yl d v L g w (.err e) Ins.val) := by
 have hmo : Tryz.prog.follows .mixedOrders = true := by kernel_rfl
 have HD := Yh_ hD
 have hok := Yaj hD.r h1
 have HREG := Yh_ (And.intro hok.reg.1 hok.reg.2)
 have S := Yh_ (RS.start hD)
 have hb := Yv d g k v L _ S.out.dd
 rw [h1] at hb
 have HB1 := Yh_ hb
 have HP := Yh_ (fun (w1 : World) (hd1 : Yc w1 d v L g k1) => by have := Yed d g k1 v L m w1 hd1 hok; rw [h2] at this; exact this)
 have em : (m.mod == 3) = false := by simpa using h3
 clear h3
 clear hD hb h1 h2 hok
 go_enter Tryz.func125, Tryz.ntmps125
 go_upto_region 4 with (go_at_call 121; refine HB1.out.mono ?_; rintro e w2 ⟨rfl, hD2, hu⟩; unfold Mrm.cells; have S2 := Yh_ (S.out.step hD2 hu); clear hD2 hu S)
 have S3 := Yh_ (S2.out.same ((Upd.refl [] w2).alloc (.cells m.cells 171)))
 have HM := Yh_ (heap_alloc_new w2 (.cells m.cells 171))
 have HL := Yh_ (show d < w2.heap.size ∧ w.heap.size < w2.heap.size from ⟨Yj S2.out.dd.h, S2.out.lt⟩)
 clear S2
 refine Yai 7 (TwB w d v L g w.heap.size k1 k1 w2.heap.size m Ins.zero 5 100 101) (fun c2 w9 => c2 = [{ v := .iface 32 (.int .i64 e), recovered := false }] ∧ Upd [d] w w9) (by kernel_rfl) (by kernel_rfl) (fun r0 => TwB.start (S3.out.same (Upd.refl [] _).drew) HM.out (by decide) HL.out r0) (fun c2 a9 w9 hx h4 h5 h6 => by show bodyPost Tryz.prog Tryz.f125 (Yl d v L g w (.err e) Ins.val) (Exit.panic c2) a9 w9; refine ⟨h4, ?_⟩; rw [hx.1]; exact ⟨rfl, hx.2⟩) ?_
 simp only [List.take_succ_cons, List.take_zero, List.drop_succ_cons, List.drop_zero]
 iterate 2
  apply Yb rfl rfl
  ·intro dn r0 K hd hdep hK w5 hB1
   have cm := Ya hB1.m
   unfold Mrm.cells at cm
   have HB := Yh_ hB1
   clear hB1 hdep
   go_wp2_with fail
   first
   |exact hK _ (HB.out.same _ (by decide) (by decide) (by decide))
   |exact HB.out.same _ (by decide) (by decide) (by decide)
  ·exact ⟨_, rfl⟩
 apply Yb rfl rfl
 ·intro dn r0 K hd hdep hK w5 hB1
  have HB := Yh_ hB1
  clear hB1 hdep
  go_wp2_with (go_at_call 89; refine (Ybv m.reg _).mono ?_; rintro e w6 ⟨rfl, hu⟩; unfold Opd.val Yam)
  first
  |exact hK _ (HB.out.quiet hu _ (by decide) (by decide) (by decide))
  |exact HB.out.quiet hu _ (by decide) (by decide) (by decide)
 ·exact ⟨_, rfl⟩
 iterate 2
  apply Yb rfl rfl
  ·intro dn r0 K hd hdep hK w5 hB1
   have cm := Ya hB1.m
   unfold Mrm.cells at cm
   have HB := Yh_ hB1
   clear hB1 hdep
   go_wp2_with fail
   first
   |exact hK _ (HB.out.same _ (by decide) (by decide) (by decide))
   |exact HB.out.same _ (by decide) (by decide) (by decide)
  ·exact ⟨_, rfl⟩
 apply Ye0 rfl rfl
 ·intro dn r0 w5 hd hB1
  have HB := Yh_ hB1
  clear hB1
  go_wp2_with (go_at_call 134; refine (HP.out _ (HB.out.at1 hd)).mono ?_; rintro e w6 ⟨rfl, hu⟩)
  exact ⟨rfl, HB.out.s.uu.also hu (by simp)⟩
 refine Ygq rfl ?_
 exact Yad (fun hdead => by cases hdead)
theorem lea_4 (d g k : Nat) (v : Value) (L : List Int) (w : World) (hD : Yc w d v L g k) (m : Mrm) (k1 : Nat) (h1 : Yab L k = .ok m k1) (h3 : m.mod ≠ 3) (o : Opd) (k2 : Nat) (h2 : Ybb L m k1 = .ok o k2) :
  Calls Tryz.prog 125 #[.pointer (some ⟨d, 0, none⟩)] w (Yl d v L g w (.ok ⟨26, 0, Yam m.reg, o, false, 0⟩ k2) Ins.val) := by
 have hmo : Tryz.prog.follows .mixedOrders = true := by kernel_rfl
 have HD := Yh_ hD
 have hok := Yaj hD.r h1
 have HREG := Yh_ (And.intro hok.reg.1 hok.reg.2)
 have S := Yh_ (RS.start hD)
 have hb := Yv d g k v L _ S.out.dd
 rw [h1] at hb
 have HB1 := Yh_ hb
 have HP := Yh_ (fun (w1 : World) (hd1 : Yc w1 d v L g k1) => by have := Yed d g k1 v L m w1 hd1 hok; rw [h2] at this; exact this)
 have em : (m.mod == 3) = false := by simpa using h3
 clear h3
 clear hD hb h1 h2 hok
 go_enter Tryz.func125, Tryz.ntmps125
 go_upto_region 4 with (go_at_call 121; refine HB1.out.mono ?_; rintro e w2 ⟨rfl, hD2, hu⟩; unfold Mrm.cells; have S2 := Yh_ (S.out.step hD2 hu); clear hD2 hu S)
 have S3 := Yh_ (S2.out.same ((Upd.refl [] w2).alloc (.cells m.cells 171)))
 have HM := Yh_ (heap_alloc_new w2 (.cells m.cells 171))
 have HL := Yh_ (show d < w2.heap.size ∧ w.heap.size < w2.heap.size from ⟨Yj S2.out.dd.h, S2.out.lt⟩)
 clear S2
 refine Yai 7 (TwB w d v L g w.heap.size k1 k2 w2.heap.size m Ins.zero 5 100 101) (fun _ _ => False) (by kernel_rfl) (by kernel_rfl) (fun r0 => TwB.start (S3.out.same (Upd.refl [] _).drew) HM.out (by decide) HL.out r0) (fun _ _ _ h => h.elim) ?_
 simp only [List.take_succ_cons, List.take_zero, List.drop_succ_cons, List.drop_zero]
 iterate 2
  apply Yb rfl rfl
  ·intro dn r0 K hd hdep hK w5 hB1
   have cm := Ya hB1.m
   unfold Mrm.cells at cm
   have HB := Yh_ hB1
   clear hB1 hdep
   go_wp2_with fail
   first
   |exact hK _ (HB.out.same _ (by decide) (by decide) (by decide))
   |exact HB.out.same _ (by decide) (by decide) (by decide)
  ·exact ⟨_, rfl⟩
 apply Yb rfl rfl
 ·intro dn r0 K hd hdep hK w5 hB1
  have HB := Yh_ hB1
  clear hB1 hdep
  go_wp2_with (go_at_call 89; refine (Ybv m.reg _).mono ?_; rintro e w6 ⟨rfl, hu⟩; unfold Opd.val Yam)
  first
  |exact hK _ (HB.out.quiet hu _ (by decide) (by decide) (by decide))
  |exact HB.out.quiet hu _ (by decide) (by decide) (by decide)
 ·exact ⟨_, rfl⟩
 iterate 2
  apply Yb rfl rfl
  ·intro dn r0 K hd hdep hK w5 hB1
   have cm := Ya hB1.m
   unfold Mrm.cells at cm
   have HB := Yh_ hB1
   clear hB1 hdep
   go_wp2_with fail
   first
   |exact hK _ (HB.out.same _ (by decide) (by decide) (by decide))
   |exact HB.out.same _ (by decide) (by decide) (by decide)
  ·exact ⟨_, rfl⟩
 apply Yb rfl rfl
 ·intro dn r0 K hd hdep hK w5 hB1
  have HB := Yh_ hB1
  clear hB1 hdep
  go_wp2_with (go_at_call 134; refine (HP.out _ (HB.out.at1 hd)).mono ?_; rintro e w6 ⟨rfl, hD6, hu⟩; unfold Opd.val)
  first
  |exact hK _ (HB.out.call hD6 hu)
  |exact HB.out.call hD6 hu
 ·exact ⟨_, rfl⟩
 iterate 1
  apply Yb rfl rfl
  ·intro dn r0 K hd hdep hK w5 hB1
   have cm := Ya hB1.m
   unfold Mrm.cells at cm
   have HB := Yh_ hB1
   clear hB1 hdep
   go_wp2_with fail
   first
   |exact hK _ (HB.out.same _ (by decide) (by decide) (by decide))
   |exact HB.out.same _ (by decide) (by decide) (by decide)
  ·exact ⟨_, rfl⟩
 refine Yad (fun _ r0 w7 dn hall hB1 => ?_)
 have hs := hB1.s
 rw [hall 5 (by decide), if_pos rfl] at hs
 have S7 := Yh_ hs
 clear hB1 hall hs S3
 simp only [Yi]
 go_wp2_with (have _t := S7; clear _t; refine Ye 41 rfl ?_; refine Yd ⟨26, 0, Yam m.reg, o, false, 0⟩ w.heap.size rfl _ _ rfl rfl rfl S7.out.rr rfl ?_; intro w8 hw; have S8 := Yh_ (S7.out.store HD.out rfl hw); clear hw S7)
 exact bodyPost_ret (Yf rfl (Ys 2 w.heap.size _ rfl S8.out.rr)) rfl ⟨rfl, S8.out.dd, S8.out.uu⟩
theorem Yn7 (d g k : Nat) (v : Value) (L : List Int) (w : World) (hD : Yc w d v L g k) :
  Calls Tryz.prog 125 #[.pointer (some ⟨d, 0, none⟩)] w (Yl d v L g w (Ygp L k) Ins.val) := by
 unfold Ygp
 cases h1 : Yab L k with
 |err e => exact lea_1 d g k v L w hD e h1
 |ok m k1 =>
  rw [DR.bind_ok]
  by_cases h3 : m.mod = 3
  ·rw [if_pos h3]; exact lea_2 d g k v L w hD m k1 h1 h3
  ·rw [if_neg h3]
   cases h2 : Ybb L m k1 with
   |err e => exact lea_3 d g k v L w hD m k1 h1 h3 e h2
   |ok o k2 => exact lea_4 d g k v L w hD m k1 h1 h3 o k2 h2
theorem mv81_1 (d g k : Nat) (v : Value) (L : List Int) (w : World) (hD : Yc w d v L g k) (e : Int) (h1 : Yab L k = .err e) :
  Calls Tryz.prog 93 #[.pointer (some ⟨d, 0, none⟩), .int .u8 129] w (Yl d v L g w (.err e) Ins.val) := by
 have HD := Yh_ hD
 have S1 := Yh_ (RS.start hD)
 have HP2 := Yh_ (fun (w1 : World) (hd1 : Yc w1 d v L g k) => by have := Yv d g k v L w1 hd1; rw [h1] at this; exact this)
 clear hD h1
 go_enter Tryz.func93, Tryz.ntmps93
 go_wp2_with (have _t := S1; clear _t; go_at_call 121; refine (HP2.out _ (S1.out).dd).mono ?_; rintro e w2 ⟨rfl, hu⟩)
 exact ⟨rfl, rfl, (S1.out).uu.also hu (by simp)⟩
theorem mv81_2 (d g k : Nat) (v : Value) (L : List Int) (w : World) (hD : Yc w d v L g k) (m : Mrm) (k1 : Nat) (h1 : Yab L k = .ok m k1) (e : Int) (h2 : Yba L (Yap m.reg) m k1 = .err e) :
  Calls Tryz.prog 93 #[.pointer (some ⟨d, 0, none⟩), .int .u8 129] w (Yl d v L g w (.err e) Ins.val) := by
 have hmo : Tryz.prog.follows .mixedOrders = true := by kernel_rfl
 have HD := Yh_ hD
 have hok := Yaj hD.r h1
 have HREG := Yh_ (And.intro hok.reg.1 hok.reg.2)
 have S := Yh_ (RS.start hD)
 have hb := Yv d g k v L _ S.out.dd
 rw [h1] at hb
 have HB1 := Yh_ hb
 have HP := Yh_ (fun (w1 : World) (hd1 : Yc w1 d v L g k1) => by have := Ybc d g k1 v L (Yap m.reg) m w1 hd1 hok; rw [h2] at this; exact this)
 clear hD hb h1 h2 hok
 go_enter Tryz.func93, Tryz.ntmps93
 go_upto_region 9 with (go_at_call 121; refine HB1.out.mono ?_; rintro e w2 ⟨rfl, hD2, hu⟩; unfold Mrm.cells; have S2 := Yh_ (S.out.step hD2 hu); clear hD2 hu S)
 have S3 := Yh_ (S2.out.same ((Upd.refl [] w2).alloc (.cells m.cells 171)))
 have HM := Yh_ (heap_alloc_new w2 (.cells m.cells 171))
 have HL := Yh_ (show d < w2.heap.size ∧ w.heap.size < w2.heap.size from ⟨Yj S2.out.dd.h, S2.out.lt⟩)
 clear S2
 refine Yai 7 (TwB w d v L g w.heap.size k1 k1 w2.heap.size m Ins.zero 5 6 100) (fun c2 w9 => c2 = [{ v := .iface 32 (.int .i64 e), recovered := false }] ∧ Upd [d] w w9) (by kernel_rfl) (by kernel_rfl) (fun r0 => TwB.start (S3.out.same (Upd.refl [] _).drew) HM.out (by decide) HL.out r0) (fun c2 a9 w9 hx h4 h5 h6 => by show bodyPost Tryz.prog Tryz.f93 (Yl d v L g w (.err e) Ins.val) (Exit.panic c2) a9 w9; refine ⟨h4, ?_⟩; rw [hx.1]; exact ⟨rfl, hx.2⟩) ?_
 simp only [List.take_succ_cons, List.take_zero, List.drop_succ_cons, List.drop_zero]
 iterate 3
  apply Yb rfl rfl
  ·intro dn r0 K hd hdep hK w5 hB1
   have cm := Ya hB1.m
   unfold Mrm.cells at cm
   have HB := Yh_ hB1
   clear hB1 hdep
   go_wp2_with fail
   first
   |exact hK _ (HB.out.same _ (by decide) (by decide) (by decide))
   |exact HB.out.same _ (by decide) (by decide) (by decide)
  ·exact ⟨_, rfl⟩
 apply Yb rfl rfl
 ·intro dn r0 K hd hdep hK w5 hB1
  have HB := Yh_ hB1
  clear hB1 hdep
  go_wp2_with (go_at_call 123; refine (Ycb m.reg _ HREG.out.1 HREG.out.2).mono ?_; rintro e w6 ⟨rfl, rfl⟩)
  first
  |exact hK _ (HB.out.same _ (by decide) (by decide) (by decide))
  |exact HB.out.same _ (by decide) (by decide) (by decide)
 ·exact ⟨_, rfl⟩
 iterate 1
  apply Yb rfl rfl
  ·intro dn r0 K hd hdep hK w5 hB1
   have cm := Ya hB1.m
   unfold Mrm.cells at cm
   have HB := Yh_ hB1
   clear hB1 hdep
   go_wp2_with fail
   first
   |exact hK _ (HB.out.same _ (by decide) (by decide) (by decide))
   |exact HB.out.same _ (by decide) (by decide) (by decide)
  ·exact ⟨_, rfl⟩
 apply Ye0 rfl rfl
 ·intro dn r0 w5 hd hB1
  have HB := Yh_ hB1
  clear hB1
  go_wp2_with (go_at_call 122; refine (HP.out _ (HB.out.at1 hd)).mono ?_; rintro e w6 ⟨rfl, hu⟩)
  exact ⟨rfl, HB.out.s.uu.also hu (by simp)⟩
 refine Yr rfl (fun _ => rfl) 6 rfl (by simp [Act.put]) ?_ ?_
 ·intro dn r0 K hd w5 hB1 hK
  have HB := Yh_ hB1
  clear hB1
  simp only [Yi]
  go_wp2_with fail
  first
  |exact hK (.pointer (some ⟨w5.heap.size, 0, none⟩)) _ (HB.out.lay hd Ins.zero.cells rfl)
  |exact HB.out.lay hd Ins.zero.cells rfl
 exact Yad (fun hdead => by cases hdead)
theorem mv81_3 (d g k : Nat) (v : Value) (L : List Int) (w : World) (hD : Yc w d v L g k) (m : Mrm) (k1 : Nat) (h1 : Yab L k = .ok m k1) (o : Opd) (k2 : Nat) (h2 : Yba L (Yap m.reg) m k1 = .ok ⟨Yap m.reg, 0, o, Opd.none, false, 0⟩ k2) (e : Int) (h4 : Yak L k2 = .err e) :
  Calls Tryz.prog 93 #[.pointer (some ⟨d, 0, none⟩), .int .u8 129] w (Yl d v L g w (.err e) Ins.val) := by
 have hmo : Tryz.prog.follows .mixedOrders = true := by kernel_rfl
 have HD := Yh_ hD
 have hok := Yaj hD.r h1
 have HREG := Yh_ (And.intro hok.reg.1 hok.reg.2)
 have S := Yh_ (RS.start hD)
 have hb := Yv d g k v L _ S.out.dd
 rw [h1] at hb
 have HB1 := Yh_ hb
 have HP := Yh_ (fun (w1 : World) (hd1 : Yc w1 d v L g k1) => by have := Ybc d g k1 v L (Yap m.reg) m w1 hd1 hok; rw [h2] at this; exact this)
 have HP10 := Yh_ (fun (w1 : World) (hd1 : Yc w1 d v L g k2) => by have := Ybo d g k2 v L w1 hd1; rw [h4] at this; exact this)
 clear h4
 clear hD hb h1 h2 hok
 go_enter Tryz.func93, Tryz.ntmps93
 go_upto_region 9 with (go_at_call 121; refine HB1.out.mono ?_; rintro e w2 ⟨rfl, hD2, hu⟩; unfold Mrm.cells; have S2 := Yh_ (S.out.step hD2 hu); clear hD2 hu S)
 have S3 := Yh_ (S2.out.same ((Upd.refl [] w2).alloc (.cells m.cells 171)))
 have HM := Yh_ (heap_alloc_new w2 (.cells m.cells 171))
 have HL := Yh_ (show d < w2.heap.size ∧ w.heap.size < w2.heap.size from ⟨Yj S2.out.dd.h, S2.out.lt⟩)
 clear S2
 refine Yai 7 (TwB w d v L g w.heap.size k1 k2 w2.heap.size m Ins.zero 5 6 100) (fun _ _ => False) (by kernel_rfl) (by kernel_rfl) (fun r0 => TwB.start (S3.out.same (Upd.refl [] _).drew) HM.out (by decide) HL.out r0) (fun _ _ _ h => h.elim) ?_
 simp only [List.take_succ_cons, List.take_zero, List.drop_succ_cons, List.drop_zero]
 iterate 3
  apply Yb rfl rfl
  ·intro dn r0 K hd hdep hK w5 hB1
   have cm := Ya hB1.m
   unfold Mrm.cells at cm
   have HB := Yh_ hB1
   clear hB1 hdep
   go_wp2_with fail
   first
   |exact hK _ (HB.out.same _ (by decide) (by decide) (by decide))
   |exact HB.out.same _ (by decide) (by decide) (by decide)
  ·exact ⟨_, rfl⟩
 apply Yb rfl rfl
 ·intro dn r0 K hd hdep hK w5 hB1
  have HB := Yh_ hB1
  clear hB1 hdep
  go_wp2_with (go_at_call 123; refine (Ycb m.reg _ HREG.out.1 HREG.out.2).mono ?_; rintro e w6 ⟨rfl, rfl⟩)
  first
  |exact hK _ (HB.out.same _ (by decide) (by decide) (by decide))
  |exact HB.out.same _ (by decide) (by decide) (by decide)
 ·exact ⟨_, rfl⟩
 iterate 1
  apply Yb rfl rfl
  ·intro dn r0 K hd hdep hK w5 hB1
   have cm := Ya hB1.m
   unfold Mrm.cells at cm
   have HB := Yh_ hB1
   clear hB1 hdep
   go_wp2_with fail
   first
   |exact hK _ (HB.out.same _ (by decide) (by decide) (by decide))
   |exact HB.out.same _ (by decide) (by decide) (by decide)
  ·exact ⟨_, rfl⟩
 apply Yb rfl rfl
 ·intro dn r0 K hd hdep hK w5 hB1
  have HB := Yh_ hB1
  clear hB1 hdep
  go_wp2_with (go_at_call 122; refine (HP.out _ (HB.out.at1 hd)).mono ?_; rintro e w6 ⟨rfl, hD6, hu⟩)
  first
  |exact hK _ (HB.out.call hD6 hu)
  |exact HB.out.call hD6 hu
 ·exact ⟨_, rfl⟩
 refine Yr rfl (fun _ => rfl) 6 rfl (by simp [Act.put]) ?_ ?_
 ·intro dn r0 K hd w5 hB1 hK
  have HB := Yh_ hB1
  clear hB1
  simp only [Yi]
  go_wp2_with fail
  first
  |exact hK (.pointer (some ⟨w5.heap.size, 0, none⟩)) _ (HB.out.lay hd Ins.zero.cells rfl)
  |exact HB.out.lay hd Ins.zero.cells rfl
 refine Yad (fun _ r0 w7 dn hall hB1 => ?_)
 obtain ⟨q, Z, e1, e2, e3, e4, _⟩ := hB1.x (hall 6 (by decide))
 have hs := hB1.s
 rw [hall 5 (by decide), if_pos rfl] at hs
 show wpList _ _ _ _ (Act.put (Yi _ _ [] _) (some 6) (r0 6)) _
 rw [e1]
 simp only [Yi]
 have S7 := Yh_ hs
 have HQ := Yh_ e3
 have HN := Yh_ (show w.heap.size < q ∧ d < q ∧ d < w.heap.size ∧ w.heap.size ≤ w.heap.size from ⟨by have := HL.out; omega, by have := HL.out; omega, hs.nn.1, Nat.le_refl _⟩)
 have HZ := Yh_ e4
 clear hB1 e1 e2 e3 hall hs S3 e4
 go_wp2_with (first | (have _t := HZ; clear _t; refine Ye 41 rfl ?_; refine Yd ⟨Yap m.reg, 0, o, Opd.none, false, 0⟩ q rfl _ _ rfl rfl rfl HQ.out HZ.out ?_; intro w8 hw; have h8 := Ya7 (S := [q]) (w0 := w7) hw HQ.out HZ.out (Upd.refl _ _) (.inl (by simp)); have S8 := Yh_ (S7.out.far HD.out h8.2 HN.out.1); have HI8 := Yh_ h8.1; clear hw h8 S7 HQ HZ) | (have _t := S8; clear _t; go_at_call 92; refine (HP10.out _ (S8.out).dd).mono ?_; rintro e w10 ⟨rfl, hu⟩))
 exact ⟨rfl, rfl, (S8.out).uu.also hu (by simp)⟩
theorem mv81_4 (d g k : Nat) (v : Value) (L : List Int) (w : World) (hD : Yc w d v L g k) (m : Mrm) (k1 : Nat) (h1 : Yab L k = .ok m k1) (o : Opd) (k2 : Nat) (h2 : Yba L (Yap m.reg) m k1 = .ok ⟨Yap m.reg, 0, o, Opd.none, false, 0⟩ k2) (o2 : Opd) (k3 : Nat) (h4 : Yak L k2 = .ok o2 k3) :
  Calls Tryz.prog 93 #[.pointer (some ⟨d, 0, none⟩), .int .u8 129] w (Yl d v L g w (.ok ⟨Yap m.reg, 0, o, o2, false, 0⟩ k3) Ins.val) := by
 have hmo : Tryz.prog.follows .mixedOrders = true := by kernel_rfl
 have HD := Yh_ hD
 have hok := Yaj hD.r h1
 have HREG := Yh_ (And.intro hok.reg.1 hok.reg.2)
 have S := Yh_ (RS.start hD)
 have hb := Yv d g k v L _ S.out.dd
 rw [h1] at hb
 have HB1 := Yh_ hb
 have HP := Yh_ (fun (w1 : World) (hd1 : Yc w1 d v L g k1) => by have := Ybc d g k1 v L (Yap m.reg) m w1 hd1 hok; rw [h2] at this; exact this)
 have HP10 := Yh_ (fun (w1 : World) (hd1 : Yc w1 d v L g k2) => by have := Ybo d g k2 v L w1 hd1; rw [h4] at this; exact this)
 clear h4
 clear hD hb h1 h2 hok
 go_enter Tryz.func93, Tryz.ntmps93
 go_upto_region 9 with (go_at_call 121; refine HB1.out.mono ?_; rintro e w2 ⟨rfl, hD2, hu⟩; unfold Mrm.cells; have S2 := Yh_ (S.out.step hD2 hu); clear hD2 hu S)
 have S3 := Yh_ (S2.out.same ((Upd.refl [] w2).alloc (.cells m.cells 171)))
 have HM := Yh_ (heap_alloc_new w2 (.cells m.cells 171))
 have HL := Yh_ (show d < w2.heap.size ∧ w.heap.size < w2.heap.size from ⟨Yj S2.out.dd.h, S2.out.lt⟩)
 clear S2
 refine Yai 7 (TwB w d v L g w.heap.size k1 k2 w2.heap.size m Ins.zero 5 6 100) (fun _ _ => False) (by kernel_rfl) (by kernel_rfl) (fun r0 => TwB.start (S3.out.same (Upd.refl [] _).drew) HM.out (by decide) HL.out r0) (fun _ _ _ h => h.elim) ?_
 simp only [List.take_succ_cons, List.take_zero, List.drop_succ_cons, List.drop_zero]
 iterate 3
  apply Yb rfl rfl
  ·intro dn r0 K hd hdep hK w5 hB1
   have cm := Ya hB1.m
   unfold Mrm.cells at cm
   have HB := Yh_ hB1
   clear hB1 hdep
   go_wp2_with fail
   first
   |exact hK _ (HB.out.same _ (by decide) (by decide) (by decide))
   |exact HB.out.same _ (by decide) (by decide) (by decide)
  ·exact ⟨_, rfl⟩
 apply Yb rfl rfl
 ·intro dn r0 K hd hdep hK w5 hB1
  have HB := Yh_ hB1
  clear hB1 hdep
  go_wp2_with (go_at_call 123; refine (Ycb m.reg _ HREG.out.1 HREG.out.2).mono ?_; rintro e w6 ⟨rfl, rfl⟩)
  first
  |exact hK _ (HB.out.same _ (by decide) (by decide) (by decide))
  |exact HB.out.same _ (by decide) (by decide) (by decide)
 ·exact ⟨_, rfl⟩
 iterate 1
  apply Yb rfl rfl
  ·intro dn r0 K hd hdep hK w5 hB1
   have cm := Ya hB1.m
   unfold Mrm.cells at cm
   have HB := Yh_ hB1
   clear hB1 hdep
   go_wp2_with fail
   first
   |exact hK _ (HB.out.same _ (by decide) (by decide) (by decide))
   |exact HB.out.same _ (by decide) (by decide) (by decide)
  ·exact ⟨_, rfl⟩
 apply Yb rfl rfl
 ·intro dn r0 K hd hdep hK w5 hB1
  have HB := Yh_ hB1
  clear hB1 hdep
  go_wp2_with (go_at_call 122; refine (HP.out _ (HB.out.at1 hd)).mono ?_; rintro e w6 ⟨rfl, hD6, hu⟩)
  first
  |exact hK _ (HB.out.call hD6 hu)
  |exact HB.out.call hD6 hu
 ·exact ⟨_, rfl⟩
 refine Yr rfl (fun _ => rfl) 6 rfl (by simp [Act.put]) ?_ ?_
 ·intro dn r0 K hd w5 hB1 hK
  have HB := Yh_ hB1
  clear hB1
  simp only [Yi]
  go_wp2_with fail
  first
  |exact hK (.pointer (some ⟨w5.heap.size, 0, none⟩)) _ (HB.out.lay hd Ins.zero.cells rfl)
  |exact HB.out.lay hd Ins.zero.cells rfl
 refine Yad (fun _ r0 w7 dn hall hB1 => ?_)
 obtain ⟨q, Z, e1, e2, e3, e4, _⟩ := hB1.x (hall 6 (by decide))
 have hs := hB1.s
 rw [hall 5 (by decide), if_pos rfl] at hs
 show wpList _ _ _ _ (Act.put (Yi _ _ [] _) (some 6) (r0 6)) _
 rw [e1]
 simp only [Yi]
 have S7 := Yh_ hs
 have HQ := Yh_ e3
 have HN := Yh_ (show w.heap.size < q ∧ d < q ∧ d < w.heap.size ∧ w.heap.size ≤ w.heap.size from ⟨by have := HL.out; omega, by have := HL.out; omega, hs.nn.1, Nat.le_refl _⟩)
 have HZ := Yh_ e4
 clear hB1 e1 e2 e3 hall hs S3 e4
 go_wp2_with (first | (have _t := HZ; clear _t; refine Ye 41 rfl ?_; refine Yd ⟨Yap m.reg, 0, o, Opd.none, false, 0⟩ q rfl _ _ rfl rfl rfl HQ.out HZ.out ?_; intro w8 hw; have h8 := Ya7 (S := [q]) (w0 := w7) hw HQ.out HZ.out (Upd.refl _ _) (.inl (by simp)); have S8 := Yh_ (S7.out.far HD.out h8.2 HN.out.1); have HI8 := Yh_ h8.1; clear hw h8 S7 HQ HZ) | (have _t := S8; clear _t; go_at_call 92; refine (HP10.out _ (S8.out).dd).mono ?_; rintro e w10 ⟨rfl, hD10, hu⟩; have S10 := Yh_ ((S8.out).step hD10 hu); have HI10 := Yh_ (hu.get (HI8.out) (by have := HN.out; simp; omega)); clear hD10 hu S8) | (have _t := S10; clear _t; refine Ye 39 rfl ?_; refine Yy o2 q 8 rfl _ _ rfl rfl rfl (HI10.out) (by rw [Ins.size]; decide) ?_; intro w11 hw; have h := Ydm hw (HI10.out); have S11 := Yh_ ((S10.out).far HD.out h.2 HN.out.1); have HI11 := Yh_ h.1; clear hw h S10 HI10) | (have _t := HI11; clear _t; refine Yar 41 rfl ?_; refine Yaw ⟨Yap m.reg, 0, o, o2, false, 0⟩ q rfl _ rfl rfl (HI11.out) ?_) | (have _t := S11; clear _t; refine Ye 41 rfl ?_; refine Yd ⟨Yap m.reg, 0, o, o2, false, 0⟩ w.heap.size rfl _ _ rfl rfl rfl (S11.out).rr rfl ?_; intro w12 hw; have S12 := Yh_ ((S11.out).store HD.out rfl hw); clear hw S11))
 exact bodyPost_ret (Yf rfl (Ys 4 w.heap.size _ rfl S12.out.rr)) rfl ⟨rfl, S12.out.dd, S12.out.uu⟩
theorem mv81_any (d g k : Nat) (v : Value) (L : List Int) (w : World) (hD : Yc w d v L g k) :
  Calls Tryz.prog 93 #[.pointer (some ⟨d, 0, none⟩), .int .u8 129] w (Yl d v L g w (Ya3 L 129 k) Ins.val) := by
 have hm : Ya3 L 129 k = (Yab L k).bind fun m k => (Ybb L m k).bind fun o k => (Yak L k).bind fun i k => .ok ⟨Yap m.reg, 0, o, i, false, 0⟩ k := rfl
 rw [hm]
 cases h1 : Yab L k with
 |err e => exact mv81_1 d g k v L w hD e h1
 |ok m k1 =>
  rw [DR.bind_ok]
  cases h2 : Ybb L m k1 with
  |err e => exact mv81_2 d g k v L w hD m k1 h1 e (Yfn h2)
  |ok o k2 =>
   rw [DR.bind_ok]
   cases h4 : Yak L k2 with
   |err e => exact mv81_3 d g k v L w hD m k1 h1 o k2 (Ycs h2) e h4
   |ok o2 k3 => exact mv81_4 d g k v L w hD m k1 h1 o k2 (Ycs h2) o2 k3 h4
theorem mv83_1 (d g k : Nat) (v : Value) (L : List Int) (w : World) (hD : Yc w d v L g k) (e : Int) (h1 : Yab L k = .err e) :
  Calls Tryz.prog 93 #[.pointer (some ⟨d, 0, none⟩), .int .u8 131] w (Yl d v L g w (.err e) Ins.val) := by
 have HD := Yh_ hD
 have S1 := Yh_ (RS.start hD)
 have HP2 := Yh_ (fun (w1 : World) (hd1 : Yc w1 d v L g k) => by have := Yv d g k v L w1 hd1; rw [h1] at this; exact this)
 clear hD h1
 go_enter Tryz.func93, Tryz.ntmps93
 go_wp2_with (have _t := S1; clear _t; go_at_call 121; refine (HP2.out _ (S1.out).dd).mono ?_; rintro e w2 ⟨rfl, hu⟩)
 exact ⟨rfl, rfl, (S1.out).uu.also hu (by simp)⟩
theorem mv83_2 (d g k : Nat) (v : Value) (L : List Int) (w : World) (hD : Yc w d v L g k) (m : Mrm) (k1 : Nat) (h1 : Yab L k = .ok m k1) (e : Int) (h2 : Yba L (Yap m.reg) m k1 = .err e) :
  Calls Tryz.prog 93 #[.pointer (some ⟨d, 0, none⟩), .int .u8 131] w (Yl d v L g w (.err e) Ins.val) := by
 have hmo : Tryz.prog.follows .mixedOrders = true := by kernel_rfl
 have HD := Yh_ hD
 have hok := Yaj hD.r h1
 have HREG := Yh_ (And.intro hok.reg.1 hok.reg.2)
 have S := Yh_ (RS.start hD)
 have hb := Yv d g k v L _ S.out.dd
 rw [h1] at hb
 have HB1 := Yh_ hb
 have HP := Yh_ (fun (w1 : World) (hd1 : Yc w1 d v L g k1) => by have := Ybc d g k1 v L (Yap m.reg) m w1 hd1 hok; rw [h2] at this; exact this)
 clear hD hb h1 h2 hok
 go_enter Tryz.func93, Tryz.ntmps93
 go_upto_region 9 with (go_at_call 121; refine HB1.out.mono ?_; rintro e w2 ⟨rfl, hD2, hu⟩; unfold Mrm.cells; have S2 := Yh_ (S.out.step hD2 hu); clear hD2 hu S)
 have S3 := Yh_ (S2.out.same ((Upd.refl [] w2).alloc (.cells m.cells 171)))
 have HM := Yh_ (heap_alloc_new w2 (.cells m.cells 171))
 have HL := Yh_ (show d < w2.heap.size ∧ w.heap.size < w2.heap.size from ⟨Yj S2.out.dd.h, S2.out.lt⟩)
 clear S2
 refine Yai 7 (TwB w d v L g w.heap.size k1 k1 w2.heap.size m Ins.zero 5 6 100) (fun c2 w9 => c2 = [{ v := .iface 32 (.int .i64 e), recovered := false }] ∧ Upd [d] w w9) (by kernel_rfl) (by kernel_rfl) (fun r0 => TwB.start (S3.out.same (Upd.refl [] _).drew) HM.out (by decide) HL.out r0) (fun c2 a9 w9 hx h4 h5 h6 => by show bodyPost Tryz.prog Tryz.f93 (Yl d v L g w (.err e) Ins.val) (Exit.panic c2) a9 w9; refine ⟨h4, ?_⟩; rw [hx.1]; exact ⟨rfl, hx.2⟩) ?_
 simp only [List.take_succ_cons, List.take_zero, List.drop_succ_cons, List.drop_zero]
 iterate 3
  apply Yb rfl rfl
  ·intro dn r0 K hd hdep hK w5 hB1
   have cm := Ya hB1.m
   unfold Mrm.cells at cm
   have HB := Yh_ hB1
   clear hB1 hdep
   go_wp2_with fail
   first
   |exact hK _ (HB.out.same _ (by decide) (by decide) (by decide))
   |exact HB.out.same _ (by decide) (by decide) (by decide)
  ·exact ⟨_, rfl⟩
 apply Yb rfl rfl
 ·intro dn r0 K hd hdep hK w5 hB1
  have HB := Yh_ hB1
  clear hB1 hdep
  go_wp2_with (go_at_call 123; refine (Ycb m.reg _ HREG.out.1 HREG.out.2).mono ?_; rintro e w6 ⟨rfl, rfl⟩)
  first
  |exact hK _ (HB.out.same _ (by decide) (by decide) (by decide))
  |exact HB.out.same _ (by decide) (by decide) (by decide)
 ·exact ⟨_, rfl⟩
 iterate 1
  apply Yb rfl rfl
  ·intro dn r0 K hd hdep hK w5 hB1
   have cm := Ya hB1.m
   unfold Mrm.cells at cm
   have HB := Yh_ hB1
   clear hB1 hdep
   go_wp2_with fail
   first
   |exact hK _ (HB.out.same _ (by decide) (by decide) (by decide))
   |exact HB.out.same _ (by decide) (by decide) (by decide)
  ·exact ⟨_, rfl⟩
 apply Ye0 rfl rfl
 ·intro dn r0 w5 hd hB1
  have HB := Yh_ hB1
  clear hB1
  go_wp2_with (go_at_call 122; refine (HP.out _ (HB.out.at1 hd)).mono ?_; rintro e w6 ⟨rfl, hu⟩)
  exact ⟨rfl, HB.out.s.uu.also hu (by simp)⟩
 refine Yr rfl (fun _ => rfl) 6 rfl (by simp [Act.put]) ?_ ?_
 ·intro dn r0 K hd w5 hB1 hK
  have HB := Yh_ hB1
  clear hB1
  simp only [Yi]
  go_wp2_with fail
  first
  |exact hK (.pointer (some ⟨w5.heap.size, 0, none⟩)) _ (HB.out.lay hd Ins.zero.cells rfl)
  |exact HB.out.lay hd Ins.zero.cells rfl
 exact Yad (fun hdead => by cases hdead)
theorem mv83_3 (d g k : Nat) (v : Value) (L : List Int) (w : World) (hD : Yc w d v L g k) (m : Mrm) (k1 : Nat) (h1 : Yab L k = .ok m k1) (o : Opd) (k2 : Nat) (h2 : Yba L (Yap m.reg) m k1 = .ok ⟨Yap m.reg, 0, o, Opd.none, false, 0⟩ k2) (e : Int) (h4 : Yb5 L k2 = .err e) :
  Calls Tryz.prog 93 #[.pointer (some ⟨d, 0, none⟩), .int .u8 131] w (Yl d v L g w (.err e) Ins.val) := by
 have hmo : Tryz.prog.follows .mixedOrders = true := by kernel_rfl
 have HD := Yh_ hD
 have hok := Yaj hD.r h1
 have HREG := Yh_ (And.intro hok.reg.1 hok.reg.2)
 have S := Yh_ (RS.start hD)
 have hb := Yv d g k v L _ S.out.dd
 rw [h1] at hb
 have HB1 := Yh_ hb
 have HP := Yh_ (fun (w1 : World) (hd1 : Yc w1 d v L g k1) => by have := Ybc d g k1 v L (Yap m.reg) m w1 hd1 hok; rw [h2] at this; exact this)
 have HP10 := Yh_ (fun (w1 : World) (hd1 : Yc w1 d v L g k2) => by have := Ydx d g k2 v L w1 hd1; rw [h4] at this; exact this)
 clear h4
 clear hD hb h1 h2 hok
 go_enter Tryz.func93, Tryz.ntmps93
 go_upto_region 9 with (go_at_call 121; refine HB1.out.mono ?_; rintro e w2 ⟨rfl, hD2, hu⟩; unfold Mrm.cells; have S2 := Yh_ (S.out.step hD2 hu); clear hD2 hu S)
 have S3 := Yh_ (S2.out.same ((Upd.refl [] w2).alloc (.cells m.cells 171)))
 have HM := Yh_ (heap_alloc_new w2 (.cells m.cells 171))
 have HL := Yh_ (show d < w2.heap.size ∧ w.heap.size < w2.heap.size from ⟨Yj S2.out.dd.h, S2.out.lt⟩)
 clear S2
 refine Yai 7 (TwB w d v L g w.heap.size k1 k2 w2.heap.size m Ins.zero 5 6 100) (fun _ _ => False) (by kernel_rfl) (by kernel_rfl) (fun r0 => TwB.start (S3.out.same (Upd.refl [] _).drew) HM.out (by decide) HL.out r0) (fun _ _ _ h => h.elim) ?_
 simp only [List.take_succ_cons, List.take_zero, List.drop_succ_cons, List.drop_zero]
 iterate 3
  apply Yb rfl rfl
  ·intro dn r0 K hd hdep hK w5 hB1
   have cm := Ya hB1.m
   unfold Mrm.cells at cm
   have HB := Yh_ hB1
   clear hB1 hdep
   go_wp2_with fail
   first
   |exact hK _ (HB.out.same _ (by decide) (by decide) (by decide))
   |exact HB.out.same _ (by decide) (by decide) (by decide)
  ·exact ⟨_, rfl⟩
 apply Yb rfl rfl
 ·intro dn r0 K hd hdep hK w5 hB1
  have HB := Yh_ hB1
  clear hB1 hdep
  go_wp2_with (go_at_call 123; refine (Ycb m.reg _ HREG.out.1 HREG.out.2).mono ?_; rintro e w6 ⟨rfl, rfl⟩)
  first
  |exact hK _ (HB.out.same _ (by decide) (by decide) (by decide))
  |exact HB.out.same _ (by decide) (by decide) (by decide)
 ·exact ⟨_, rfl⟩
 iterate 1
  apply Yb rfl rfl
  ·intro dn r0 K hd hdep hK w5 hB1
   have cm := Ya hB1.m
   unfold Mrm.cells at cm
   have HB := Yh_ hB1
   clear hB1 hdep
   go_wp2_with fail
   first
   |exact hK _ (HB.out.same _ (by decide) (by decide) (by decide))
   |exact HB.out.same _ (by decide) (by decide) (by decide)
  ·exact ⟨_, rfl⟩
 apply Yb rfl rfl
 ·intro dn r0 K hd hdep hK w5 hB1
  have HB := Yh_ hB1
  clear hB1 hdep
  go_wp2_with (go_at_call 122; refine (HP.out _ (HB.out.at1 hd)).mono ?_; rintro e w6 ⟨rfl, hD6, hu⟩)
  first
  |exact hK _ (HB.out.call hD6 hu)
  |exact HB.out.call hD6 hu
 ·exact ⟨_, rfl⟩
 refine Yr rfl (fun _ => rfl) 6 rfl (by simp [Act.put]) ?_ ?_
 ·intro dn r0 K hd w5 hB1 hK
  have HB := Yh_ hB1
  clear hB1
  simp only [Yi]
  go_wp2_with fail
  first
  |exact hK (.pointer (some ⟨w5.heap.size, 0, none⟩)) _ (HB.out.lay hd Ins.zero.cells rfl)
  |exact HB.out.lay hd Ins.zero.cells rfl
 refine Yad (fun _ r0 w7 dn hall hB1 => ?_)
 obtain ⟨q, Z, e1, e2, e3, e4, _⟩ := hB1.x (hall 6 (by decide))
 have hs := hB1.s
 rw [hall 5 (by decide), if_pos rfl] at hs
 show wpList _ _ _ _ (Act.put (Yi _ _ [] _) (some 6) (r0 6)) _
 rw [e1]
 simp only [Yi]
 have S7 := Yh_ hs
 have HQ := Yh_ e3
 have HN := Yh_ (show w.heap.size < q ∧ d < q ∧ d < w.heap.size ∧ w.heap.size ≤ w.heap.size from ⟨by have := HL.out; omega, by have := HL.out; omega, hs.nn.1, Nat.le_refl _⟩)
 have HZ := Yh_ e4
 clear hB1 e1 e2 e3 hall hs S3 e4
 go_wp2_with (first | (have _t := HZ; clear _t; refine Ye 41 rfl ?_; refine Yd ⟨Yap m.reg, 0, o, Opd.none, false, 0⟩ q rfl _ _ rfl rfl rfl HQ.out HZ.out ?_; intro w8 hw; have h8 := Ya7 (S := [q]) (w0 := w7) hw HQ.out HZ.out (Upd.refl _ _) (.inl (by simp)); have S8 := Yh_ (S7.out.far HD.out h8.2 HN.out.1); have HI8 := Yh_ h8.1; clear hw h8 S7 HQ HZ) | (have _t := S8; clear _t; go_at_call 90; refine (HP10.out _ (S8.out).dd).mono ?_; rintro e w10 ⟨rfl, hu⟩))
 exact ⟨rfl, rfl, (S8.out).uu.also hu (by simp)⟩
theorem mv83_4 (d g k : Nat) (v : Value) (L : List Int) (w : World) (hD : Yc w d v L g k) (m : Mrm) (k1 : Nat) (h1 : Yab L k = .ok m k1) (o : Opd) (k2 : Nat) (h2 : Yba L (Yap m.reg) m k1 = .ok ⟨Yap m.reg, 0, o, Opd.none, false, 0⟩ k2) (o2 : Opd) (k3 : Nat) (h4 : Yb5 L k2 = .ok o2 k3) :
  Calls Tryz.prog 93 #[.pointer (some ⟨d, 0, none⟩), .int .u8 131] w (Yl d v L g w (.ok ⟨Yap m.reg, 0, o, o2, false, 0⟩ k3) Ins.val) := by
 have hmo : Tryz.prog.follows .mixedOrders = true := by kernel_rfl
 have HD := Yh_ hD
 have hok := Yaj hD.r h1
 have HREG := Yh_ (And.intro hok.reg.1 hok.reg.2)
 have S := Yh_ (RS.start hD)
 have hb := Yv d g k v L _ S.out.dd
 rw [h1] at hb
 have HB1 := Yh_ hb
 have HP := Yh_ (fun (w1 : World) (hd1 : Yc w1 d v L g k1) => by have := Ybc d g k1 v L (Yap m.reg) m w1 hd1 hok; rw [h2] at this; exact this)
 have HP10 := Yh_ (fun (w1 : World) (hd1 : Yc w1 d v L g k2) => by have := Ydx d g k2 v L w1 hd1; rw [h4] at this; exact this)
 clear h4
 clear hD hb h1 h2 hok
 go_enter Tryz.func93, Tryz.ntmps93
 go_upto_region 9 with (go_at_call 121; refine HB1.out.mono ?_; rintro e w2 ⟨rfl, hD2, hu⟩; unfold Mrm.cells; have S2 := Yh_ (S.out.step hD2 hu); clear hD2 hu S)
 have S3 := Yh_ (S2.out.same ((Upd.refl [] w2).alloc (.cells m.cells 171)))
 have HM := Yh_ (heap_alloc_new w2 (.cells m.cells 171))
 have HL := Yh_ (show d < w2.heap.size ∧ w.heap.size < w2.heap.size from ⟨Yj S2.out.dd.h, S2.out.lt⟩)
 clear S2
 refine Yai 7 (TwB w d v L g w.heap.size k1 k2 w2.heap.size m Ins.zero 5 6 100) (fun _ _ => False) (by kernel_rfl) (by kernel_rfl) (fun r0 => TwB.start (S3.out.same (Upd.refl [] _).drew) HM.out (by decide) HL.out r0) (fun _ _ _ h => h.elim) ?_
 simp only [List.take_succ_cons, List.take_zero, List.drop_succ_cons, List.drop_zero]
 iterate 3
  apply Yb rfl rfl
  ·intro dn r0 K hd hdep hK w5 hB1
   have cm := Ya hB1.m
   unfold Mrm.cells at cm
   have HB := Yh_ hB1
   clear hB1 hdep
   go_wp2_with fail
   first
   |exact hK _ (HB.out.same _ (by decide) (by decide) (by decide))
   |exact HB.out.same _ (by decide) (by decide) (by decide)
  ·exact ⟨_, rfl⟩
 apply Yb rfl rfl
 ·intro dn r0 K hd hdep hK w5 hB1
  have HB := Yh_ hB1
  clear hB1 hdep
  go_wp2_with (go_at_call 123; refine (Ycb m.reg _ HREG.out.1 HREG.out.2).mono ?_; rintro e w6 ⟨rfl, rfl⟩)
  first
  |exact hK _ (HB.out.same _ (by decide) (by decide) (by decide))
  |exact HB.out.same _ (by decide) (by decide) (by decide)
 ·exact ⟨_, rfl⟩
 iterate 1
  apply Yb rfl rfl
  ·intro dn r0 K hd hdep hK w5 hB1
   have cm := Ya hB1.m
   unfold Mrm.cells at cm
   have HB := Yh_ hB1
   clear hB1 hdep
   go_wp2_with fail
   first
   |exact hK _ (HB.out.same _ (by decide) (by decide) (by decide))
   |exact HB.out.same _ (by decide) (by decide) (by decide)
  ·exact ⟨_, rfl⟩
 apply Yb rfl rfl
 ·intro dn r0 K hd hdep hK w5 hB1
  have HB := Yh_ hB1
  clear hB1 hdep
  go_wp2_with (go_at_call 122; refine (HP.out _ (HB.out.at1 hd)).mono ?_; rintro e w6 ⟨rfl, hD6, hu⟩)
  first
  |exact hK _ (HB.out.call hD6 hu)
  |exact HB.out.call hD6 hu
 ·exact ⟨_, rfl⟩
 refine Yr rfl (fun _ => rfl) 6 rfl (by simp [Act.put]) ?_ ?_
 ·intro dn r0 K hd w5 hB1 hK
  have HB := Yh_ hB1
  clear hB1
  simp only [Yi]
  go_wp2_with fail
  first
  |exact hK (.pointer (some ⟨w5.heap.size, 0, none⟩)) _ (HB.out.lay hd Ins.zero.cells rfl)
  |exact HB.out.lay hd Ins.zero.cells rfl
 refine Yad (fun _ r0 w7 dn hall hB1 => ?_)
 obtain ⟨q, Z, e1, e2, e3, e4, _⟩ := hB1.x (hall 6 (by decide))
 have hs := hB1.s
 rw [hall 5 (by decide), if_pos rfl] at hs
 show wpList _ _ _ _ (Act.put (Yi _ _ [] _) (some 6) (r0 6)) _
 rw [e1]
 simp only [Yi]
 have S7 := Yh_ hs
 have HQ := Yh_ e3
 have HN := Yh_ (show w.heap.size < q ∧ d < q ∧ d < w.heap.size ∧ w.heap.size ≤ w.heap.size from ⟨by have := HL.out; omega, by have := HL.out; omega, hs.nn.1, Nat.le_refl _⟩)
 have HZ := Yh_ e4
 clear hB1 e1 e2 e3 hall hs S3 e4
 go_wp2_with (first | (have _t := HZ; clear _t; refine Ye 41 rfl ?_; refine Yd ⟨Yap m.reg, 0, o, Opd.none, false, 0⟩ q rfl _ _ rfl rfl rfl HQ.out HZ.out ?_; intro w8 hw; have h8 := Ya7 (S := [q]) (w0 := w7) hw HQ.out HZ.out (Upd.refl _ _) (.inl (by simp)); have S8 := Yh_ (S7.out.far HD.out h8.2 HN.out.1); have HI8 := Yh_ h8.1; clear hw h8 S7 HQ HZ) | (have _t := S8; clear _t; go_at_call 90; refine (HP10.out _ (S8.out).dd).mono ?_; rintro e w10 ⟨rfl, hD10, hu⟩; have S10 := Yh_ ((S8.out).step hD10 hu); have HI10 := Yh_ (hu.get (HI8.out) (by have := HN.out; simp; omega)); clear hD10 hu S8) | (have _t := S10; clear _t; refine Ye 39 rfl ?_; refine Yy o2 q 8 rfl _ _ rfl rfl rfl (HI10.out) (by rw [Ins.size]; decide) ?_; intro w11 hw; have h := Ydm hw (HI10.out); have S11 := Yh_ ((S10.out).far HD.out h.2 HN.out.1); have HI11 := Yh_ h.1; clear hw h S10 HI10) | (have _t := HI11; clear _t; refine Yar 41 rfl ?_; refine Yaw ⟨Yap m.reg, 0, o, o2, false, 0⟩ q rfl _ rfl rfl (HI11.out) ?_) | (have _t := S11; clear _t; refine Ye 41 rfl ?_; refine Yd ⟨Yap m.reg, 0, o, o2, false, 0⟩ w.heap.size rfl _ _ rfl rfl rfl (S11.out).rr rfl ?_; intro w12 hw; have S12 := Yh_ ((S11.out).store HD.out rfl hw); clear hw S11))
 exact bodyPost_ret (Yf rfl (Ys 4 w.heap.size _ rfl S12.out.rr)) rfl ⟨rfl, S12.out.dd, S12.out.uu⟩
theorem mv83_any (d g k : Nat) (v : Value) (L : List Int) (w : World) (hD : Yc w d v L g k) :
  Calls Tryz.prog 93 #[.pointer (some ⟨d, 0, none⟩), .int .u8 131] w (Yl d v L g w (Ya3 L 131 k) Ins.val) := by
 have hm : Ya3 L 131 k = (Yab L k).bind fun m k => (Ybb L m k).bind fun o k => (Yb5 L k).bind fun i k => .ok ⟨Yap m.reg, 0, o, i, false, 0⟩ k := rfl
 rw [hm]
 cases h1 : Yab L k with
 |err e => exact mv83_1 d g k v L w hD e h1
 |ok m k1 =>
  rw [DR.bind_ok]
  cases h2 : Ybb L m k1 with
  |err e => exact mv83_2 d g k v L w hD m k1 h1 e (Yfn h2)
  |ok o k2 =>
   rw [DR.bind_ok]
   cases h4 : Yb5 L k2 with
   |err e => exact mv83_3 d g k v L w hD m k1 h1 o k2 (Ycs h2) e h4
   |ok o2 k3 => exact mv83_4 d g k v L w hD m k1 h1 o k2 (Ycs h2) o2 k3 h4
end Go.Proofs.YthakgjpejhjaoaaGreat
