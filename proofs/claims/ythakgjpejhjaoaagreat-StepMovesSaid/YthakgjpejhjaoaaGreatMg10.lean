/-
  Parts of the proof (their names shortened by a program). No condition.
-/
import Derived.Test.YthakgjpejhjaoaaGreatMg01
import Derived.Test.YthakgjpejhjaoaaGreatMg09
namespace Go.Proofs.YthakgjpejhjaoaaGreat
open Go Go.RowKit
set_option linter.unusedVariables false
set_option linter.unusedSimpArgs false
set_option maxRecDepth 100000
set_option maxHeartbeats 16000000
theorem shift_1 (d g k : Nat) (v : Value) (L : List Int) (w : World) (hD : Yc w d v L g k) (c : Int) (e : Int) (h1 : Yab L k = .err e) :
  Calls Tryz.prog 139 #[.pointer (some ⟨d, 0, none⟩), .int .u8 c] w (Yl d v L g w (.err e) Ins.val) := by
 have HD := Yh_ hD
 have S1 := Yh_ (RS.start hD)
 have HP2 := Yh_ (fun (w1 : World) (hd1 : Yc w1 d v L g k) => by have := Yv d g k v L w1 hd1; rw [h1] at this; exact this)
 clear hD h1
 go_enter Tryz.func139, Tryz.ntmps139
 go_wp2_with (have _t := S1; clear _t; go_at_call 121; refine (HP2.out _ (S1.out).dd).mono ?_; rintro e w2 ⟨rfl, hu⟩)
 exact ⟨rfl, rfl, (S1.out).uu.also hu (by simp)⟩
theorem shift_2 (d g k : Nat) (v : Value) (L : List Int) (w : World) (hD : Yc w d v L g k) (c : Int) (m : Mrm) (k1 : Nat) (h1 : Yab L k = .ok m k1) (q : Int) (hq : Ycp m.reg = q) (h0 : q = 0) :
  Calls Tryz.prog 139 #[.pointer (some ⟨d, 0, none⟩), .int .u8 c] w (Yl d v L g w (.err 12) Ins.val) := by
 have HD := Yh_ hD
 have S1 := Yh_ (RS.start hD)
 have hok := Yaj hD.r h1
 have HREG := Yh_ (And.intro hok.reg.1 hok.reg.2)
 have HQ := Yh_ hq
 have e0 : (q == 0) = true := by simpa using h0
 have e0n : (q != 0) = false := by rw [bne, e0]; rfl
 have HP2 := Yh_ (fun (w1 : World) (hd1 : Yc w1 d v L g k) => by have := Yv d g k v L w1 hd1; rw [h1] at this; exact this)
 clear hD h1 hok hq h0
 go_enter Tryz.func139, Tryz.ntmps139
 go_wp2_with (first | (have _t := S1; clear _t; go_at_call 121; refine (HP2.out _ (S1.out).dd).mono ?_; rintro e w2 ⟨rfl, hD2, hu⟩; unfold Mrm.cells; have S2 := Yh_ ((S1.out).step hD2 hu); clear hD2 hu S1) | (go_at_call 143; refine (Yd1 m.reg _ HREG.out.1 HREG.out.2).mono ?_; rintro e w9 ⟨rfl, rfl⟩; rw [HQ.out]))
 exact ⟨rfl, rfl, ((S2.out).same ((Upd.refl [] w2).alloc (.cells m.cells 171))).uu⟩
theorem shift_3 (d g k : Nat) (v : Value) (L : List Int) (w : World) (hD : Yc w d v L g k) (c : Int) (m : Mrm) (k1 : Nat) (h1 : Yab L k = .ok m k1) (q : Int) (hq : Ycp m.reg = q) (h0 : q ≠ 0) (e : Int) (h3 : Yba L q m k1 = .err e) :
  Calls Tryz.prog 139 #[.pointer (some ⟨d, 0, none⟩), .int .u8 c] w (Yl d v L g w (.err e) Ins.val) := by
 have HD := Yh_ hD
 have S1 := Yh_ (RS.start hD)
 have hok := Yaj hD.r h1
 have HREG := Yh_ (And.intro hok.reg.1 hok.reg.2)
 have HQ := Yh_ hq
 have e0 : (q == 0) = false := by simpa using h0
 have e0n : (q != 0) = true := by rw [bne, e0]; rfl
 have HP2 := Yh_ (fun (w1 : World) (hd1 : Yc w1 d v L g k) => by have := Yv d g k v L w1 hd1; rw [h1] at this; exact this)
 have HP3 := Yh_ (fun (w1 : World) (hd1 : Yc w1 d v L g k1) => by have := Ybc d g k1 v L q m w1 hd1 hok; rw [h3] at this; exact this)
 clear hD h1 hok hq h0 h3
 go_enter Tryz.func139, Tryz.ntmps139
 go_wp2_with (first | (have _t := S1; clear _t; go_at_call 121; refine (HP2.out _ (S1.out).dd).mono ?_; rintro e w2 ⟨rfl, hD2, hu⟩; unfold Mrm.cells; have S2 := Yh_ ((S1.out).step hD2 hu); clear hD2 hu S1) | (go_at_call 143; refine (Yd1 m.reg _ HREG.out.1 HREG.out.2).mono ?_; rintro e w9 ⟨rfl, rfl⟩; rw [HQ.out]) | (have _t := S2; clear _t; go_at_call 122; refine (HP3.out _ ((S2.out).same ((Upd.refl [] w2).alloc (.cells m.cells 171))).dd).mono ?_; rintro e w3 ⟨rfl, hu⟩))
 exact ⟨rfl, rfl, ((S2.out).same ((Upd.refl [] w2).alloc (.cells m.cells 171))).uu.also hu (by simp)⟩
theorem shift_4 (d g k : Nat) (v : Value) (L : List Int) (w : World) (hD : Yc w d v L g k) (c : Int) (m : Mrm) (k1 : Nat) (h1 : Yab L k = .ok m k1) (q : Int) (hq : Ycp m.reg = q) (h0 : q ≠ 0) (o : Opd) (k2 : Nat) (h3 : Yba L q m k1 = .ok ⟨q, 0, o, Opd.none, false, 0⟩ k2) (hc : c = 193) (e : Int) (h4 : Ybz L k2 = .err e) :
  Calls Tryz.prog 139 #[.pointer (some ⟨d, 0, none⟩), .int .u8 c] w (Yl d v L g w (.err e) Ins.val) := by
 have HD := Yh_ hD
 have S1 := Yh_ (RS.start hD)
 have hok := Yaj hD.r h1
 have HREG := Yh_ (And.intro hok.reg.1 hok.reg.2)
 have HQ := Yh_ hq
 have e0 : (q == 0) = false := by simpa using h0
 have e0n : (q != 0) = true := by rw [bne, e0]; rfl
 have e1 : (c == 193) = true := by simpa using hc
 have e1n : (c != 193) = false := by rw [bne, e1]; rfl
 have HP2 := Yh_ (fun (w1 : World) (hd1 : Yc w1 d v L g k) => by have := Yv d g k v L w1 hd1; rw [h1] at this; exact this)
 have HP3 := Yh_ (fun (w1 : World) (hd1 : Yc w1 d v L g k1) => by have := Ybc d g k1 v L q m w1 hd1 hok; rw [h3] at this; exact this)
 have HP5 := Yh_ (fun (w1 : World) (hd1 : Yc w1 d v L g k2) => by have := Yc2 d g k2 v L w1 hd1; rw [h4] at this; exact this)
 clear hD h1 hok hq h0 h3 hc h4
 go_enter Tryz.func139, Tryz.ntmps139
 go_wp2_with (first | (have _t := S1; clear _t; go_at_call 121; refine (HP2.out _ (S1.out).dd).mono ?_; rintro e w2 ⟨rfl, hD2, hu⟩; unfold Mrm.cells; have S2 := Yh_ ((S1.out).step hD2 hu); clear hD2 hu S1) | (go_at_call 143; refine (Yd1 m.reg _ HREG.out.1 HREG.out.2).mono ?_; rintro e w9 ⟨rfl, rfl⟩; rw [HQ.out]) | (have _t := S2; clear _t; go_at_call 122; refine (HP3.out _ ((S2.out).same ((Upd.refl [] w2).alloc (.cells m.cells 171))).dd).mono ?_; rintro e w3 ⟨rfl, hD3, hu⟩; have S3 := Yh_ (((S2.out).same ((Upd.refl [] w2).alloc (.cells m.cells 171))).step hD3 hu); clear hD3 hu S2) | (have _t := S3; clear _t; refine Ye 41 rfl ?_; refine Yd ⟨q, 0, o, Opd.none, false, 0⟩ w3.heap.size rfl _ _ rfl rfl rfl (heap_alloc_new w3 (.cells Ins.zero.cells 41)) rfl ?_; intro w4 hw; have h := Ya7 (S := [w3.heap.size]) (w0 := w3.alloc (.cells Ins.zero.cells 41)) hw (heap_alloc_new w3 (.cells Ins.zero.cells 41)) rfl (Upd.refl _ _) (.inl (by simp)); have HN := Yh_ (And.intro (S3.out).lt (And.intro (Yj (S3.out).dd.h) (S3.out).nn)); have S4 := Yh_ (((S3.out).same ((Upd.refl [] w3).alloc (.cells Ins.zero.cells 41))).far HD.out h.2 (S3.out).lt); have HI4 := Yh_ h.1; clear hw h S3) | (have _t := S4; clear _t; go_at_call 91; refine (HP5.out _ (S4.out).dd).mono ?_; rintro e w5 ⟨rfl, hu⟩))
 exact ⟨rfl, rfl, (S4.out).uu.also hu (by simp)⟩
theorem shift_5 (d g k : Nat) (v : Value) (L : List Int) (w : World) (hD : Yc w d v L g k) (c : Int) (m : Mrm) (k1 : Nat) (h1 : Yab L k = .ok m k1) (q : Int) (hq : Ycp m.reg = q) (h0 : q ≠ 0) (o : Opd) (k2 : Nat) (h3 : Yba L q m k1 = .ok ⟨q, 0, o, Opd.none, false, 0⟩ k2) (hc : c = 193) (o2 : Opd) (k3 : Nat) (h4 : Ybz L k2 = .ok o2 k3) :
  Calls Tryz.prog 139 #[.pointer (some ⟨d, 0, none⟩), .int .u8 c] w (Yl d v L g w (.ok ⟨q, 0, o, o2, false, 0⟩ k3) Ins.val) := by
 have HD := Yh_ hD
 have S1 := Yh_ (RS.start hD)
 have hok := Yaj hD.r h1
 have HREG := Yh_ (And.intro hok.reg.1 hok.reg.2)
 have HQ := Yh_ hq
 have e0 : (q == 0) = false := by simpa using h0
 have e0n : (q != 0) = true := by rw [bne, e0]; rfl
 have e1 : (c == 193) = true := by simpa using hc
 have e1n : (c != 193) = false := by rw [bne, e1]; rfl
 have HP2 := Yh_ (fun (w1 : World) (hd1 : Yc w1 d v L g k) => by have := Yv d g k v L w1 hd1; rw [h1] at this; exact this)
 have HP3 := Yh_ (fun (w1 : World) (hd1 : Yc w1 d v L g k1) => by have := Ybc d g k1 v L q m w1 hd1 hok; rw [h3] at this; exact this)
 have HP5 := Yh_ (fun (w1 : World) (hd1 : Yc w1 d v L g k2) => by have := Yc2 d g k2 v L w1 hd1; rw [h4] at this; exact this)
 clear hD h1 hok hq h0 h3 hc h4
 go_enter Tryz.func139, Tryz.ntmps139
 go_wp2_with (first | (have _t := S1; clear _t; go_at_call 121; refine (HP2.out _ (S1.out).dd).mono ?_; rintro e w2 ⟨rfl, hD2, hu⟩; unfold Mrm.cells; have S2 := Yh_ ((S1.out).step hD2 hu); clear hD2 hu S1) | (go_at_call 143; refine (Yd1 m.reg _ HREG.out.1 HREG.out.2).mono ?_; rintro e w9 ⟨rfl, rfl⟩; rw [HQ.out]) | (have _t := S2; clear _t; go_at_call 122; refine (HP3.out _ ((S2.out).same ((Upd.refl [] w2).alloc (.cells m.cells 171))).dd).mono ?_; rintro e w3 ⟨rfl, hD3, hu⟩; have S3 := Yh_ (((S2.out).same ((Upd.refl [] w2).alloc (.cells m.cells 171))).step hD3 hu); clear hD3 hu S2) | (have _t := S3; clear _t; refine Ye 41 rfl ?_; refine Yd ⟨q, 0, o, Opd.none, false, 0⟩ w3.heap.size rfl _ _ rfl rfl rfl (heap_alloc_new w3 (.cells Ins.zero.cells 41)) rfl ?_; intro w4 hw; have h := Ya7 (S := [w3.heap.size]) (w0 := w3.alloc (.cells Ins.zero.cells 41)) hw (heap_alloc_new w3 (.cells Ins.zero.cells 41)) rfl (Upd.refl _ _) (.inl (by simp)); have HN := Yh_ (And.intro (S3.out).lt (And.intro (Yj (S3.out).dd.h) (S3.out).nn)); have S4 := Yh_ (((S3.out).same ((Upd.refl [] w3).alloc (.cells Ins.zero.cells 41))).far HD.out h.2 (S3.out).lt); have HI4 := Yh_ h.1; clear hw h S3) | (have _t := S4; clear _t; go_at_call 91; refine (HP5.out _ (S4.out).dd).mono ?_; rintro e w5 ⟨rfl, hD5, hu⟩; have S5 := Yh_ ((S4.out).step hD5 hu); have HI5 := Yh_ (hu.get (HI4.out) (by have := HN.out; simp; omega)); clear hD5 hu S4) | (have _t := S5; clear _t; refine Ye 39 rfl ?_; refine Yy o2 w3.heap.size 8 rfl _ _ rfl rfl rfl (HI5.out) (by rw [Ins.size]; decide) ?_; intro w6 hw; have h := Ydm hw (HI5.out); have S6 := Yh_ ((S5.out).far HD.out h.2 HN.out.1); have HI6 := Yh_ h.1; clear hw h S5 HI5) | (have _t := HI6; clear _t; refine Yar 41 rfl ?_; refine Yaw ⟨q, 0, o, o2, false, 0⟩ w3.heap.size rfl _ rfl rfl (HI6.out) ?_) | (have _t := S6; clear _t; refine Ye 41 rfl ?_; refine Yd ⟨q, 0, o, o2, false, 0⟩ w.heap.size rfl _ _ rfl rfl rfl (S6.out).rr rfl ?_; intro w7 hw; have S7 := Yh_ ((S6.out).store HD.out rfl hw); clear hw S6))
 exact bodyPost_ret (Yf rfl (Ys 4 w.heap.size _ rfl S7.out.rr)) rfl ⟨rfl, S7.out.dd, S7.out.uu⟩
theorem shift_6 (d g k : Nat) (v : Value) (L : List Int) (w : World) (hD : Yc w d v L g k) (c : Int) (m : Mrm) (k1 : Nat) (h1 : Yab L k = .ok m k1) (q : Int) (hq : Ycp m.reg = q) (h0 : q ≠ 0) (o : Opd) (k2 : Nat) (h3 : Yba L q m k1 = .ok ⟨q, 0, o, Opd.none, false, 0⟩ k2) (hc : c ≠ 193) (hc2 : c = 209) :
  Calls Tryz.prog 139 #[.pointer (some ⟨d, 0, none⟩), .int .u8 c] w (Yl d v L g w (.ok ⟨q, 0, o, Yfs 1, false, 0⟩ k2) Ins.val) := by
 have HD := Yh_ hD
 have S1 := Yh_ (RS.start hD)
 have hok := Yaj hD.r h1
 have HREG := Yh_ (And.intro hok.reg.1 hok.reg.2)
 have HQ := Yh_ hq
 have e0 : (q == 0) = false := by simpa using h0
 have e0n : (q != 0) = true := by rw [bne, e0]; rfl
 have e1 : (c == 193) = false := by simpa using hc
 have e1n : (c != 193) = true := by rw [bne, e1]; rfl
 have e2 : (c == 209) = true := by simpa using hc2
 have e2n : (c != 209) = false := by rw [bne, e2]; rfl
 have HP2 := Yh_ (fun (w1 : World) (hd1 : Yc w1 d v L g k) => by have := Yv d g k v L w1 hd1; rw [h1] at this; exact this)
 have HP3 := Yh_ (fun (w1 : World) (hd1 : Yc w1 d v L g k1) => by have := Ybc d g k1 v L q m w1 hd1 hok; rw [h3] at this; exact this)
 clear hD h1 hok hq h0 h3 hc hc2
 go_enter Tryz.func139, Tryz.ntmps139
 go_wp2_with (first | (have _t := S1; clear _t; go_at_call 121; refine (HP2.out _ (S1.out).dd).mono ?_; rintro e w2 ⟨rfl, hD2, hu⟩; unfold Mrm.cells; have S2 := Yh_ ((S1.out).step hD2 hu); clear hD2 hu S1) | (go_at_call 143; refine (Yd1 m.reg _ HREG.out.1 HREG.out.2).mono ?_; rintro e w9 ⟨rfl, rfl⟩; rw [HQ.out]) | (have _t := S2; clear _t; go_at_call 122; refine (HP3.out _ ((S2.out).same ((Upd.refl [] w2).alloc (.cells m.cells 171))).dd).mono ?_; rintro e w3 ⟨rfl, hD3, hu⟩; have S3 := Yh_ (((S2.out).same ((Upd.refl [] w2).alloc (.cells m.cells 171))).step hD3 hu); clear hD3 hu S2) | (have _t := S3; clear _t; refine Ye 41 rfl ?_; refine Yd ⟨q, 0, o, Opd.none, false, 0⟩ w3.heap.size rfl _ _ rfl rfl rfl (heap_alloc_new w3 (.cells Ins.zero.cells 41)) rfl ?_; intro w4 hw; have h := Ya7 (S := [w3.heap.size]) (w0 := w3.alloc (.cells Ins.zero.cells 41)) hw (heap_alloc_new w3 (.cells Ins.zero.cells 41)) rfl (Upd.refl _ _) (.inl (by simp)); have HN := Yh_ (And.intro (S3.out).lt (And.intro (Yj (S3.out).dd.h) (S3.out).nn)); have S4 := Yh_ (((S3.out).same ((Upd.refl [] w3).alloc (.cells Ins.zero.cells 41))).far HD.out h.2 (S3.out).lt); have HI4 := Yh_ h.1; clear hw h S3) | (have _t := S4; clear _t; refine Ye 39 rfl ?_; refine Yy (Yfs 1) w3.heap.size 8 rfl _ _ rfl rfl rfl (HI4.out) (by rw [Ins.size]; decide) ?_; intro w5 hw; have h := Ydm hw (HI4.out); have S5 := Yh_ ((S4.out).far HD.out h.2 HN.out.1); have HI5 := Yh_ h.1; clear hw h S4 HI4) | (have _t := HI5; clear _t; refine Yar 41 rfl ?_; refine Yaw ⟨q, 0, o, Yfs 1, false, 0⟩ w3.heap.size rfl _ rfl rfl (HI5.out) ?_) | (have _t := S5; clear _t; refine Ye 41 rfl ?_; refine Yd ⟨q, 0, o, Yfs 1, false, 0⟩ w.heap.size rfl _ _ rfl rfl rfl (S5.out).rr rfl ?_; intro w6 hw; have S6 := Yh_ ((S5.out).store HD.out rfl hw); clear hw S5))
 exact bodyPost_ret (Yf rfl (Ys 4 w.heap.size _ rfl S6.out.rr)) rfl ⟨rfl, S6.out.dd, S6.out.uu⟩
theorem shift_7 (d g k : Nat) (v : Value) (L : List Int) (w : World) (hD : Yc w d v L g k) (c : Int) (m : Mrm) (k1 : Nat) (h1 : Yab L k = .ok m k1) (q : Int) (hq : Ycp m.reg = q) (h0 : q ≠ 0) (o : Opd) (k2 : Nat) (h3 : Yba L q m k1 = .ok ⟨q, 0, o, Opd.none, false, 0⟩ k2) (hc : c ≠ 193) (hc2 : c ≠ 209) :
  Calls Tryz.prog 139 #[.pointer (some ⟨d, 0, none⟩), .int .u8 c] w (Yl d v L g w (.ok ⟨q, 0, o, Yam 1, false, 0⟩ k2) Ins.val) := by
 have HD := Yh_ hD
 have S1 := Yh_ (RS.start hD)
 have hok := Yaj hD.r h1
 have HREG := Yh_ (And.intro hok.reg.1 hok.reg.2)
 have HQ := Yh_ hq
 have e0 : (q == 0) = false := by simpa using h0
 have e0n : (q != 0) = true := by rw [bne, e0]; rfl
 have e1 : (c == 193) = false := by simpa using hc
 have e1n : (c != 193) = true := by rw [bne, e1]; rfl
 have e2 : (c == 209) = false := by simpa using hc2
 have e2n : (c != 209) = true := by rw [bne, e2]; rfl
 have HP2 := Yh_ (fun (w1 : World) (hd1 : Yc w1 d v L g k) => by have := Yv d g k v L w1 hd1; rw [h1] at this; exact this)
 have HP3 := Yh_ (fun (w1 : World) (hd1 : Yc w1 d v L g k1) => by have := Ybc d g k1 v L q m w1 hd1 hok; rw [h3] at this; exact this)
 clear hD h1 hok hq h0 h3 hc hc2
 go_enter Tryz.func139, Tryz.ntmps139
 go_wp2_with (first | (have _t := S1; clear _t; go_at_call 121; refine (HP2.out _ (S1.out).dd).mono ?_; rintro e w2 ⟨rfl, hD2, hu⟩; unfold Mrm.cells; have S2 := Yh_ ((S1.out).step hD2 hu); clear hD2 hu S1) | (go_at_call 143; refine (Yd1 m.reg _ HREG.out.1 HREG.out.2).mono ?_; rintro e w9 ⟨rfl, rfl⟩; rw [HQ.out]) | (have _t := S2; clear _t; go_at_call 122; refine (HP3.out _ ((S2.out).same ((Upd.refl [] w2).alloc (.cells m.cells 171))).dd).mono ?_; rintro e w3 ⟨rfl, hD3, hu⟩; have S3 := Yh_ (((S2.out).same ((Upd.refl [] w2).alloc (.cells m.cells 171))).step hD3 hu); clear hD3 hu S2) | (have _t := S3; clear _t; refine Ye 41 rfl ?_; refine Yd ⟨q, 0, o, Opd.none, false, 0⟩ w3.heap.size rfl _ _ rfl rfl rfl (heap_alloc_new w3 (.cells Ins.zero.cells 41)) rfl ?_; intro w4 hw; have h := Ya7 (S := [w3.heap.size]) (w0 := w3.alloc (.cells Ins.zero.cells 41)) hw (heap_alloc_new w3 (.cells Ins.zero.cells 41)) rfl (Upd.refl _ _) (.inl (by simp)); have HN := Yh_ (And.intro (S3.out).lt (And.intro (Yj (S3.out).dd.h) (S3.out).nn)); have S4 := Yh_ (((S3.out).same ((Upd.refl [] w3).alloc (.cells Ins.zero.cells 41))).far HD.out h.2 (S3.out).lt); have HI4 := Yh_ h.1; clear hw h S3) | (have _t := S4; clear _t; go_at_call 89; refine (Ybv 1 _).mono ?_; rintro e w5 ⟨rfl, hu⟩; have S5 := Yh_ ((S4.out).same hu); have HI5 := Yh_ (hu.get (HI4.out) (by simp)); clear hu S4) | (have _t := S5; clear _t; refine Ye 39 rfl ?_; refine Yy (Yam 1) w3.heap.size 8 rfl _ _ rfl rfl rfl (HI5.out) (by rw [Ins.size]; decide) ?_; intro w6 hw; have h := Ydm hw (HI5.out); have S6 := Yh_ ((S5.out).far HD.out h.2 HN.out.1); have HI6 := Yh_ h.1; clear hw h S5 HI5) | (have _t := HI6; clear _t; refine Yar 41 rfl ?_; refine Yaw ⟨q, 0, o, Yam 1, false, 0⟩ w3.heap.size rfl _ rfl rfl (HI6.out) ?_) | (have _t := S6; clear _t; refine Ye 41 rfl ?_; refine Yd ⟨q, 0, o, Yam 1, false, 0⟩ w.heap.size rfl _ _ rfl rfl rfl (S6.out).rr rfl ?_; intro w7 hw; have S7 := Yh_ ((S6.out).store HD.out rfl hw); clear hw S6))
 exact bodyPost_ret (Yf rfl (Ys 4 w.heap.size _ rfl S7.out.rr)) rfl ⟨rfl, S7.out.dd, S7.out.uu⟩
theorem Yee (d g k : Nat) (v : Value) (L : List Int) (c : Int) (w : World) (hD : Yc w d v L g k) :
  Calls Tryz.prog 139 #[.pointer (some ⟨d, 0, none⟩), .int .u8 c] w (Yl d v L g w (Ycf L c k) Ins.val) := by
 unfold Ycf
 cases h1 : Yab L k with
 |err e => exact shift_1 d g k v L w hD c e h1
 |ok m k1 =>
  rw [DR.bind_ok]
  by_cases h0 : Ycp m.reg = 0
  ·rw [if_pos h0]; exact shift_2 d g k v L w hD c m k1 h1 _ rfl h0
  ·rw [if_neg h0]
   cases h3 : Ybb L m k1 with
   |err e => exact shift_3 d g k v L w hD c m k1 h1 _ rfl h0 e (Yfn h3)
   |ok o k2 =>
    rw [DR.bind_ok]
    by_cases hc : c = 193
    ·rw [if_pos hc]
     cases h4 : Ybz L k2 with
     |err e => exact shift_4 d g k v L w hD c m k1 h1 _ rfl h0 o k2 (Ycs h3) hc e h4
     |ok o2 k3 => exact shift_5 d g k v L w hD c m k1 h1 _ rfl h0 o k2 (Ycs h3) hc o2 k3 h4
    ·rw [if_neg hc]
     by_cases hc2 : c = 209
     ·rw [if_pos hc2]; exact shift_6 d g k v L w hD c m k1 h1 _ rfl h0 o k2 (Ycs h3) hc hc2
     ·rw [if_neg hc2]; exact shift_7 d g k v L w hD c m k1 h1 _ rfl h0 o k2 (Ycs h3) hc hc2
theorem unary_1 (d g k : Nat) (v : Value) (L : List Int) (w : World) (hD : Yc w d v L g k) (e : Int) (h1 : Yab L k = .err e) :
  Calls Tryz.prog 141 #[.pointer (some ⟨d, 0, none⟩)] w (Yl d v L g w (.err e) Ins.val) := by
 have HD := Yh_ hD
 have S1 := Yh_ (RS.start hD)
 have HP2 := Yh_ (fun (w1 : World) (hd1 : Yc w1 d v L g k) => by have := Yv d g k v L w1 hd1; rw [h1] at this; exact this)
 clear hD h1
 go_enter Tryz.func141, Tryz.ntmps141
 go_wp2_with (have _t := S1; clear _t; go_at_call 121; refine (HP2.out _ (S1.out).dd).mono ?_; rintro e w2 ⟨rfl, hu⟩)
 exact ⟨rfl, rfl, (S1.out).uu.also hu (by simp)⟩
theorem unary_2 (d g k : Nat) (v : Value) (L : List Int) (w : World) (hD : Yc w d v L g k) (m : Mrm) (k1 : Nat) (h1 : Yab L k = .ok m k1) (q : Int) (hq : Yc0 m.reg = q) (hr : m.reg = 0) (e : Int) (h3 : Yba L 11 m k1 = .err e) :
  Calls Tryz.prog 141 #[.pointer (some ⟨d, 0, none⟩)] w (Yl d v L g w (.err e) Ins.val) := by
 have HD := Yh_ hD
 have S1 := Yh_ (RS.start hD)
 have hok := Yaj hD.r h1
 have HREG := Yh_ (And.intro hok.reg.1 hok.reg.2)
 have HQ := Yh_ hq
 have er : (m.reg == 0) = true := by simpa using hr
 have ern : (m.reg != 0) = false := by rw [bne, er]; rfl
 have HP2 := Yh_ (fun (w1 : World) (hd1 : Yc w1 d v L g k) => by have := Yv d g k v L w1 hd1; rw [h1] at this; exact this)
 have HP3 := Yh_ (fun (w1 : World) (hd1 : Yc w1 d v L g k1) => by have := Ybc d g k1 v L 11 m w1 hd1 hok; rw [h3] at this; exact this)
 clear hD h1 hok hq hr h3
 go_enter Tryz.func141, Tryz.ntmps141
 go_wp2_with (first | (have _t := S1; clear _t; go_at_call 121; refine (HP2.out _ (S1.out).dd).mono ?_; rintro e w2 ⟨rfl, hD2, hu⟩; unfold Mrm.cells; have S2 := Yh_ ((S1.out).step hD2 hu); clear hD2 hu S1) | (go_at_call 145; refine (Yd2 m.reg _ HREG.out.1 HREG.out.2).mono ?_; rintro e w9 ⟨rfl, rfl⟩; rw [HQ.out]) | (have _t := S2; clear _t; go_at_call 122; refine (HP3.out _ ((S2.out).same ((Upd.refl [] w2).alloc (.cells m.cells 171))).dd).mono ?_; rintro e w3 ⟨rfl, hu⟩))
 exact ⟨rfl, rfl, ((S2.out).same ((Upd.refl [] w2).alloc (.cells m.cells 171))).uu.also hu (by simp)⟩
theorem unary_3 (d g k : Nat) (v : Value) (L : List Int) (w : World) (hD : Yc w d v L g k) (m : Mrm) (k1 : Nat) (h1 : Yab L k = .ok m k1) (q : Int) (hq : Yc0 m.reg = q) (hr : m.reg = 0) (o : Opd) (k2 : Nat) (h3 : Yba L 11 m k1 = .ok ⟨11, 0, o, Opd.none, false, 0⟩ k2) (e : Int) (h4 : Yak L k2 = .err e) :
  Calls Tryz.prog 141 #[.pointer (some ⟨d, 0, none⟩)] w (Yl d v L g w (.err e) Ins.val) := by
 have HD := Yh_ hD
 have S1 := Yh_ (RS.start hD)
 have hok := Yaj hD.r h1
 have HREG := Yh_ (And.intro hok.reg.1 hok.reg.2)
 have HQ := Yh_ hq
 have er : (m.reg == 0) = true := by simpa using hr
 have ern : (m.reg != 0) = false := by rw [bne, er]; rfl
 have HP2 := Yh_ (fun (w1 : World) (hd1 : Yc w1 d v L g k) => by have := Yv d g k v L w1 hd1; rw [h1] at this; exact this)
 have HP3 := Yh_ (fun (w1 : World) (hd1 : Yc w1 d v L g k1) => by have := Ybc d g k1 v L 11 m w1 hd1 hok; rw [h3] at this; exact this)
 have HP5 := Yh_ (fun (w1 : World) (hd1 : Yc w1 d v L g k2) => by have := Ybo d g k2 v L w1 hd1; rw [h4] at this; exact this)
 clear hD h1 hok hq hr h3 h4
 go_enter Tryz.func141, Tryz.ntmps141
 go_wp2_with (first | (have _t := S1; clear _t; go_at_call 121; refine (HP2.out _ (S1.out).dd).mono ?_; rintro e w2 ⟨rfl, hD2, hu⟩; unfold Mrm.cells; have S2 := Yh_ ((S1.out).step hD2 hu); clear hD2 hu S1) | (go_at_call 145; refine (Yd2 m.reg _ HREG.out.1 HREG.out.2).mono ?_; rintro e w9 ⟨rfl, rfl⟩; rw [HQ.out]) | (have _t := S2; clear _t; go_at_call 122; refine (HP3.out _ ((S2.out).same ((Upd.refl [] w2).alloc (.cells m.cells 171))).dd).mono ?_; rintro e w3 ⟨rfl, hD3, hu⟩; have S3 := Yh_ (((S2.out).same ((Upd.refl [] w2).alloc (.cells m.cells 171))).step hD3 hu); clear hD3 hu S2) | (have _t := S3; clear _t; refine Ye 41 rfl ?_; refine Yd ⟨11, 0, o, Opd.none, false, 0⟩ w3.heap.size rfl _ _ rfl rfl rfl (heap_alloc_new w3 (.cells Ins.zero.cells 41)) rfl ?_; intro w4 hw; have h := Ya7 (S := [w3.heap.size]) (w0 := w3.alloc (.cells Ins.zero.cells 41)) hw (heap_alloc_new w3 (.cells Ins.zero.cells 41)) rfl (Upd.refl _ _) (.inl (by simp)); have HN := Yh_ (And.intro (S3.out).lt (And.intro (Yj (S3.out).dd.h) (S3.out).nn)); have S4 := Yh_ (((S3.out).same ((Upd.refl [] w3).alloc (.cells Ins.zero.cells 41))).far HD.out h.2 (S3.out).lt); have HI4 := Yh_ h.1; clear hw h S3) | (have _t := S4; clear _t; go_at_call 92; refine (HP5.out _ (S4.out).dd).mono ?_; rintro e w5 ⟨rfl, hu⟩))
 exact ⟨rfl, rfl, (S4.out).uu.also hu (by simp)⟩
theorem unary_4 (d g k : Nat) (v : Value) (L : List Int) (w : World) (hD : Yc w d v L g k) (m : Mrm) (k1 : Nat) (h1 : Yab L k = .ok m k1) (q : Int) (hq : Yc0 m.reg = q) (hr : m.reg = 0) (o : Opd) (k2 : Nat) (h3 : Yba L 11 m k1 = .ok ⟨11, 0, o, Opd.none, false, 0⟩ k2) (o2 : Opd) (k3 : Nat) (h4 : Yak L k2 = .ok o2 k3) :
  Calls Tryz.prog 141 #[.pointer (some ⟨d, 0, none⟩)] w (Yl d v L g w (.ok ⟨11, 0, o, o2, false, 0⟩ k3) Ins.val) := by
 have HD := Yh_ hD
 have S1 := Yh_ (RS.start hD)
 have hok := Yaj hD.r h1
 have HREG := Yh_ (And.intro hok.reg.1 hok.reg.2)
 have HQ := Yh_ hq
 have er : (m.reg == 0) = true := by simpa using hr
 have ern : (m.reg != 0) = false := by rw [bne, er]; rfl
 have HP2 := Yh_ (fun (w1 : World) (hd1 : Yc w1 d v L g k) => by have := Yv d g k v L w1 hd1; rw [h1] at this; exact this)
 have HP3 := Yh_ (fun (w1 : World) (hd1 : Yc w1 d v L g k1) => by have := Ybc d g k1 v L 11 m w1 hd1 hok; rw [h3] at this; exact this)
 have HP5 := Yh_ (fun (w1 : World) (hd1 : Yc w1 d v L g k2) => by have := Ybo d g k2 v L w1 hd1; rw [h4] at this; exact this)
 clear hD h1 hok hq hr h3 h4
 go_enter Tryz.func141, Tryz.ntmps141
 go_wp2_with (first | (have _t := S1; clear _t; go_at_call 121; refine (HP2.out _ (S1.out).dd).mono ?_; rintro e w2 ⟨rfl, hD2, hu⟩; unfold Mrm.cells; have S2 := Yh_ ((S1.out).step hD2 hu); clear hD2 hu S1) | (go_at_call 145; refine (Yd2 m.reg _ HREG.out.1 HREG.out.2).mono ?_; rintro e w9 ⟨rfl, rfl⟩; rw [HQ.out]) | (have _t := S2; clear _t; go_at_call 122; refine (HP3.out _ ((S2.out).same ((Upd.refl [] w2).alloc (.cells m.cells 171))).dd).mono ?_; rintro e w3 ⟨rfl, hD3, hu⟩; have S3 := Yh_ (((S2.out).same ((Upd.refl [] w2).alloc (.cells m.cells 171))).step hD3 hu); clear hD3 hu S2) | (have _t := S3; clear _t; refine Ye 41 rfl ?_; refine Yd ⟨11, 0, o, Opd.none, false, 0⟩ w3.heap.size rfl _ _ rfl rfl rfl (heap_alloc_new w3 (.cells Ins.zero.cells 41)) rfl ?_; intro w4 hw; have h := Ya7 (S := [w3.heap.size]) (w0 := w3.alloc (.cells Ins.zero.cells 41)) hw (heap_alloc_new w3 (.cells Ins.zero.cells 41)) rfl (Upd.refl _ _) (.inl (by simp)); have HN := Yh_ (And.intro (S3.out).lt (And.intro (Yj (S3.out).dd.h) (S3.out).nn)); have S4 := Yh_ (((S3.out).same ((Upd.refl [] w3).alloc (.cells Ins.zero.cells 41))).far HD.out h.2 (S3.out).lt); have HI4 := Yh_ h.1; clear hw h S3) | (have _t := S4; clear _t; go_at_call 92; refine (HP5.out _ (S4.out).dd).mono ?_; rintro e w5 ⟨rfl, hD5, hu⟩; have S5 := Yh_ ((S4.out).step hD5 hu); have HI5 := Yh_ (hu.get (HI4.out) (by have := HN.out; simp; omega)); clear hD5 hu S4) | (have _t := S5; clear _t; refine Ye 39 rfl ?_; refine Yy o2 w3.heap.size 8 rfl _ _ rfl rfl rfl (HI5.out) (by rw [Ins.size]; decide) ?_; intro w6 hw; have h := Ydm hw (HI5.out); have S6 := Yh_ ((S5.out).far HD.out h.2 HN.out.1); have HI6 := Yh_ h.1; clear hw h S5 HI5) | (have _t := HI6; clear _t; refine Yar 41 rfl ?_; refine Yaw ⟨11, 0, o, o2, false, 0⟩ w3.heap.size rfl _ rfl rfl (HI6.out) ?_) | (have _t := S6; clear _t; refine Ye 41 rfl ?_; refine Yd ⟨11, 0, o, o2, false, 0⟩ w.heap.size rfl _ _ rfl rfl rfl (S6.out).rr rfl ?_; intro w7 hw; have S7 := Yh_ ((S6.out).store HD.out rfl hw); clear hw S6))
 exact bodyPost_ret (Yf rfl (Ys 2 w.heap.size _ rfl S7.out.rr)) rfl ⟨rfl, S7.out.dd, S7.out.uu⟩
theorem unary_5 (d g k : Nat) (v : Value) (L : List Int) (w : World) (hD : Yc w d v L g k) (m : Mrm) (k1 : Nat) (h1 : Yab L k = .ok m k1) (q : Int) (hq : Yc0 m.reg = q) (hr : m.reg ≠ 0) (h0 : q = 0) :
  Calls Tryz.prog 141 #[.pointer (some ⟨d, 0, none⟩)] w (Yl d v L g w (.err 12) Ins.val) := by
 have HD := Yh_ hD
 have S1 := Yh_ (RS.start hD)
 have hok := Yaj hD.r h1
 have HREG := Yh_ (And.intro hok.reg.1 hok.reg.2)
 have HQ := Yh_ hq
 have er : (m.reg == 0) = false := by simpa using hr
 have ern : (m.reg != 0) = true := by rw [bne, er]; rfl
 have e0 : (q == 0) = true := by simpa using h0
 have e0n : (q != 0) = false := by rw [bne, e0]; rfl
 have HP2 := Yh_ (fun (w1 : World) (hd1 : Yc w1 d v L g k) => by have := Yv d g k v L w1 hd1; rw [h1] at this; exact this)
 clear hD h1 hok hq hr h0
 go_enter Tryz.func141, Tryz.ntmps141
 go_wp2_with (first | (have _t := S1; clear _t; go_at_call 121; refine (HP2.out _ (S1.out).dd).mono ?_; rintro e w2 ⟨rfl, hD2, hu⟩; unfold Mrm.cells; have S2 := Yh_ ((S1.out).step hD2 hu); clear hD2 hu S1) | (go_at_call 145; refine (Yd2 m.reg _ HREG.out.1 HREG.out.2).mono ?_; rintro e w9 ⟨rfl, rfl⟩; rw [HQ.out]))
 exact ⟨rfl, rfl, ((S2.out).same ((Upd.refl [] w2).alloc (.cells m.cells 171))).uu⟩
theorem unary_6 (d g k : Nat) (v : Value) (L : List Int) (w : World) (hD : Yc w d v L g k) (m : Mrm) (k1 : Nat) (h1 : Yab L k = .ok m k1) (q : Int) (hq : Yc0 m.reg = q) (hr : m.reg ≠ 0) (h0 : q ≠ 0) (e : Int) (h3 : Yba L q m k1 = .err e) :
  Calls Tryz.prog 141 #[.pointer (some ⟨d, 0, none⟩)] w (Yl d v L g w (.err e) Ins.val) := by
 have HD := Yh_ hD
 have S1 := Yh_ (RS.start hD)
 have hok := Yaj hD.r h1
 have HREG := Yh_ (And.intro hok.reg.1 hok.reg.2)
 have HQ := Yh_ hq
 have er : (m.reg == 0) = false := by simpa using hr
 have ern : (m.reg != 0) = true := by rw [bne, er]; rfl
 have e0 : (q == 0) = false := by simpa using h0
 have e0n : (q != 0) = true := by rw [bne, e0]; rfl
 have HP2 := Yh_ (fun (w1 : World) (hd1 : Yc w1 d v L g k) => by have := Yv d g k v L w1 hd1; rw [h1] at this; exact this)
 have HP3 := Yh_ (fun (w1 : World) (hd1 : Yc w1 d v L g k1) => by have := Ybc d g k1 v L q m w1 hd1 hok; rw [h3] at this; exact this)
 clear hD h1 hok hq hr h0 h3
 go_enter Tryz.func141, Tryz.ntmps141
 go_wp2_with (first | (have _t := S1; clear _t; go_at_call 121; refine (HP2.out _ (S1.out).dd).mono ?_; rintro e w2 ⟨rfl, hD2, hu⟩; unfold Mrm.cells; have S2 := Yh_ ((S1.out).step hD2 hu); clear hD2 hu S1) | (go_at_call 145; refine (Yd2 m.reg _ HREG.out.1 HREG.out.2).mono ?_; rintro e w9 ⟨rfl, rfl⟩; rw [HQ.out]) | (have _t := S2; clear _t; go_at_call 122; refine (HP3.out _ ((S2.out).same ((Upd.refl [] w2).alloc (.cells m.cells 171))).dd).mono ?_; rintro e w3 ⟨rfl, hu⟩))
 exact ⟨rfl, rfl, ((S2.out).same ((Upd.refl [] w2).alloc (.cells m.cells 171))).uu.also hu (by simp)⟩
theorem unary_7 (d g k : Nat) (v : Value) (L : List Int) (w : World) (hD : Yc w d v L g k) (m : Mrm) (k1 : Nat) (h1 : Yab L k = .ok m k1) (q : Int) (hq : Yc0 m.reg = q) (hr : m.reg ≠ 0) (h0 : q ≠ 0) (i : Ins) (k2 : Nat) (h3 : Yba L q m k1 = .ok i k2) :
  Calls Tryz.prog 141 #[.pointer (some ⟨d, 0, none⟩)] w (Yl d v L g w (.ok i k2) Ins.val) := by
 have HD := Yh_ hD
 have S1 := Yh_ (RS.start hD)
 have hok := Yaj hD.r h1
 have HREG := Yh_ (And.intro hok.reg.1 hok.reg.2)
 have HQ := Yh_ hq
 have er : (m.reg == 0) = false := by simpa using hr
 have ern : (m.reg != 0) = true := by rw [bne, er]; rfl
 have e0 : (q == 0) = false := by simpa using h0
 have e0n : (q != 0) = true := by rw [bne, e0]; rfl
 have HP2 := Yh_ (fun (w1 : World) (hd1 : Yc w1 d v L g k) => by have := Yv d g k v L w1 hd1; rw [h1] at this; exact this)
 have HP3 := Yh_ (fun (w1 : World) (hd1 : Yc w1 d v L g k1) => by have := Ybc d g k1 v L q m w1 hd1 hok; rw [h3] at this; exact this)
 clear hD h1 hok hq hr h0 h3
 go_enter Tryz.func141, Tryz.ntmps141
 go_wp2_with (first | (have _t := S1; clear _t; go_at_call 121; refine (HP2.out _ (S1.out).dd).mono ?_; rintro e w2 ⟨rfl, hD2, hu⟩; unfold Mrm.cells; have S2 := Yh_ ((S1.out).step hD2 hu); clear hD2 hu S1) | (go_at_call 145; refine (Yd2 m.reg _ HREG.out.1 HREG.out.2).mono ?_; rintro e w9 ⟨rfl, rfl⟩; rw [HQ.out]) | (have _t := S2; clear _t; go_at_call 122; refine (HP3.out _ ((S2.out).same ((Upd.refl [] w2).alloc (.cells m.cells 171))).dd).mono ?_; rintro e w3 ⟨rfl, hD3, hu⟩; have S3 := Yh_ (((S2.out).same ((Upd.refl [] w2).alloc (.cells m.cells 171))).step hD3 hu); clear hD3 hu S2) | (have _t := S3; clear _t; refine Ye 41 rfl ?_; refine Yd i w.heap.size rfl _ _ rfl rfl rfl (S3.out).rr rfl ?_; intro w4 hw; have S4 := Yh_ ((S3.out).store HD.out rfl hw); clear hw S3))
 exact bodyPost_ret (Yf rfl (Ys 2 w.heap.size _ rfl S4.out.rr)) rfl ⟨rfl, S4.out.dd, S4.out.uu⟩
theorem Yjk (d g k : Nat) (v : Value) (L : List Int) (w : World) (hD : Yc w d v L g k) :
  Calls Tryz.prog 141 #[.pointer (some ⟨d, 0, none⟩)] w (Yl d v L g w (Yeu L k) Ins.val) := by
 unfold Yeu
 cases h1 : Yab L k with
 |err e => exact unary_1 d g k v L w hD e h1
 |ok m k1 =>
  rw [DR.bind_ok]
  by_cases hr : m.reg = 0
  ·rw [if_pos hr]
   cases h3 : Ybb L m k1 with
   |err e => exact unary_2 d g k v L w hD m k1 h1 _ rfl hr e (Yfn h3)
   |ok o k2 =>
    rw [DR.bind_ok]
    cases h4 : Yak L k2 with
    |err e => exact unary_3 d g k v L w hD m k1 h1 _ rfl hr o k2 (Ycs h3) e h4
    |ok o2 k3 => exact unary_4 d g k v L w hD m k1 h1 _ rfl hr o k2 (Ycs h3) o2 k3 h4
  ·rw [if_neg hr]
   by_cases h0 : Yc0 m.reg = 0
   ·rw [if_neg (by simpa using h0)]; exact unary_5 d g k v L w hD m k1 h1 _ rfl hr h0
   ·rw [if_pos h0]
    cases h3 : Yba L (Yc0 m.reg) m k1 with
    |err e => exact unary_6 d g k v L w hD m k1 h1 _ rfl hr h0 e h3
    |ok i k2 => exact unary_7 d g k v L w hD m k1 h1 _ rfl hr h0 i k2 h3
theorem last_1 (d g k : Nat) (v : Value) (L : List Int) (w : World) (hD : Yc w d v L g k) (e : Int) (h1 : Yab L k = .err e) :
  Calls Tryz.prog 142 #[.pointer (some ⟨d, 0, none⟩)] w (Yl d v L g w (.err e) Ins.val) := by
 have HD := Yh_ hD
 have S1 := Yh_ (RS.start hD)
 have HP2 := Yh_ (fun (w1 : World) (hd1 : Yc w1 d v L g k) => by have := Yv d g k v L w1 hd1; rw [h1] at this; exact this)
 clear hD h1
 go_enter Tryz.func142, Tryz.ntmps142
 go_wp2_with (have _t := S1; clear _t; go_at_call 121; refine (HP2.out _ (S1.out).dd).mono ?_; rintro e w2 ⟨rfl, hu⟩)
 exact ⟨rfl, rfl, (S1.out).uu.also hu (by simp)⟩
theorem last_2 (d g k : Nat) (v : Value) (L : List Int) (w : World) (hD : Yc w d v L g k) (m : Mrm) (k1 : Nat) (h1 : Yab L k = .ok m k1) (q : Int) (hq : Yfk m.reg = q) (h0 : q ≠ 0) (e : Int) (h3 : Yba L q m k1 = .err e) :
  Calls Tryz.prog 142 #[.pointer (some ⟨d, 0, none⟩)] w (Yl d v L g w (.err e) Ins.val) := by
 have HD := Yh_ hD
 have S1 := Yh_ (RS.start hD)
 have hok := Yaj hD.r h1
 have hix := fun w : World => Yfj hok.reg.1 hok.reg.2 w
 rw [hq] at hix
 have e0 : (q == 0) = false := by simpa using h0
 have e0n : (q != 0) = true := by rw [bne, e0]; rfl
 have HP2 := Yh_ (fun (w1 : World) (hd1 : Yc w1 d v L g k) => by have := Yv d g k v L w1 hd1; rw [h1] at this; exact this)
 have HP3 := Yh_ (fun (w1 : World) (hd1 : Yc w1 d v L g k1) => by have := Ybc d g k1 v L q m w1 hd1 hok; rw [h3] at this; exact this)
 clear hD h1 hok hq h0 h3
 go_enter Tryz.func142, Tryz.ntmps142
 go_wp2_with (first | (have _t := S1; clear _t; go_at_call 121; refine (HP2.out _ (S1.out).dd).mono ?_; rintro e w2 ⟨rfl, hD2, hu⟩; unfold Mrm.cells; have S2 := Yh_ ((S1.out).step hD2 hu); clear hD2 hu S1) | (have _t := S2; clear _t; go_at_call 122; refine (HP3.out _ ((S2.out).same ((Upd.refl [] w2).alloc (.cells m.cells 171))).dd).mono ?_; rintro e w3 ⟨rfl, hu⟩))
 exact ⟨rfl, rfl, ((S2.out).same ((Upd.refl [] w2).alloc (.cells m.cells 171))).uu.also hu (by simp)⟩
theorem last_3 (d g k : Nat) (v : Value) (L : List Int) (w : World) (hD : Yc w d v L g k) (m : Mrm) (k1 : Nat) (h1 : Yab L k = .ok m k1) (q : Int) (hq : Yfk m.reg = q) (h0 : q ≠ 0) (i : Ins) (k2 : Nat) (h3 : Yba L q m k1 = .ok i k2) :
  Calls Tryz.prog 142 #[.pointer (some ⟨d, 0, none⟩)] w (Yl d v L g w (.ok i k2) Ins.val) := by
 have HD := Yh_ hD
 have S1 := Yh_ (RS.start hD)
 have hok := Yaj hD.r h1
 have hix := fun w : World => Yfj hok.reg.1 hok.reg.2 w
 rw [hq] at hix
 have e0 : (q == 0) = false := by simpa using h0
 have e0n : (q != 0) = true := by rw [bne, e0]; rfl
 have HP2 := Yh_ (fun (w1 : World) (hd1 : Yc w1 d v L g k) => by have := Yv d g k v L w1 hd1; rw [h1] at this; exact this)
 have HP3 := Yh_ (fun (w1 : World) (hd1 : Yc w1 d v L g k1) => by have := Ybc d g k1 v L q m w1 hd1 hok; rw [h3] at this; exact this)
 clear hD h1 hok hq h0 h3
 go_enter Tryz.func142, Tryz.ntmps142
 go_wp2_with (first | (have _t := S1; clear _t; go_at_call 121; refine (HP2.out _ (S1.out).dd).mono ?_; rintro e w2 ⟨rfl, hD2, hu⟩; unfold Mrm.cells; have S2 := Yh_ ((S1.out).step hD2 hu); clear hD2 hu S1) | (have _t := S2; clear _t; go_at_call 122; refine (HP3.out _ ((S2.out).same ((Upd.refl [] w2).alloc (.cells m.cells 171))).dd).mono ?_; rintro e w3 ⟨rfl, hD3, hu⟩; have S3 := Yh_ (((S2.out).same ((Upd.refl [] w2).alloc (.cells m.cells 171))).step hD3 hu); clear hD3 hu S2) | (have _t := S3; clear _t; refine Ye 41 rfl ?_; refine Yd i w.heap.size rfl _ _ rfl rfl rfl (S3.out).rr rfl ?_; intro w4 hw; have S4 := Yh_ ((S3.out).store HD.out rfl hw); clear hw S3))
 exact bodyPost_ret (Yf rfl (Ys 2 w.heap.size _ rfl S4.out.rr)) rfl ⟨rfl, S4.out.dd, S4.out.uu⟩
theorem last_4 (d g k : Nat) (v : Value) (L : List Int) (w : World) (hD : Yc w d v L g k) (m : Mrm) (k1 : Nat) (h1 : Yab L k = .ok m k1) (q : Int) (hq : Yfk m.reg = q) (h0 : q = 0) (hr : m.reg = 7) :
  Calls Tryz.prog 142 #[.pointer (some ⟨d, 0, none⟩)] w (Yl d v L g w (.err 90) Ins.val) := by
 have HD := Yh_ hD
 have S1 := Yh_ (RS.start hD)
 have hok := Yaj hD.r h1
 have hix := fun w : World => Yfj hok.reg.1 hok.reg.2 w
 rw [hq] at hix
 have e0 : (q == 0) = true := by simpa using h0
 have e0n : (q != 0) = false := by rw [bne, e0]; rfl
 have er : (m.reg == 7) = true := by simpa using hr
 have ern : (m.reg != 7) = false := by rw [bne, er]; rfl
 have HP2 := Yh_ (fun (w1 : World) (hd1 : Yc w1 d v L g k) => by have := Yv d g k v L w1 hd1; rw [h1] at this; exact this)
 clear hD h1 hok hq h0 hr
 go_enter Tryz.func142, Tryz.ntmps142
 go_wp2_with (have _t := S1; clear _t; go_at_call 121; refine (HP2.out _ (S1.out).dd).mono ?_; rintro e w2 ⟨rfl, hD2, hu⟩; unfold Mrm.cells; have S2 := Yh_ ((S1.out).step hD2 hu); clear hD2 hu S1)
 exact ⟨rfl, rfl, ((S2.out).same ((Upd.refl [] w2).alloc (.cells m.cells 171))).uu⟩
theorem last_5 (d g k : Nat) (v : Value) (L : List Int) (w : World) (hD : Yc w d v L g k) (m : Mrm) (k1 : Nat) (h1 : Yab L k = .ok m k1) (q : Int) (hq : Yfk m.reg = q) (h0 : q = 0) (hr : m.reg ≠ 7) :
  Calls Tryz.prog 142 #[.pointer (some ⟨d, 0, none⟩)] w (Yl d v L g w (.err 12) Ins.val) := by
 have HD := Yh_ hD
 have S1 := Yh_ (RS.start hD)
 have hok := Yaj hD.r h1
 have hix := fun w : World => Yfj hok.reg.1 hok.reg.2 w
 rw [hq] at hix
 have e0 : (q == 0) = true := by simpa using h0
 have e0n : (q != 0) = false := by rw [bne, e0]; rfl
 have er : (m.reg == 7) = false := by simpa using hr
 have ern : (m.reg != 7) = true := by rw [bne, er]; rfl
 have HP2 := Yh_ (fun (w1 : World) (hd1 : Yc w1 d v L g k) => by have := Yv d g k v L w1 hd1; rw [h1] at this; exact this)
 clear hD h1 hok hq h0 hr
 go_enter Tryz.func142, Tryz.ntmps142
 go_wp2_with (have _t := S1; clear _t; go_at_call 121; refine (HP2.out _ (S1.out).dd).mono ?_; rintro e w2 ⟨rfl, hD2, hu⟩; unfold Mrm.cells; have S2 := Yh_ ((S1.out).step hD2 hu); clear hD2 hu S1)
 exact ⟨rfl, rfl, ((S2.out).same ((Upd.refl [] w2).alloc (.cells m.cells 171))).uu⟩
theorem Yj0 (d g k : Nat) (v : Value) (L : List Int) (w : World) (hD : Yc w d v L g k) :
  Calls Tryz.prog 142 #[.pointer (some ⟨d, 0, none⟩)] w (Yl d v L g w (Yft L k) Ins.val) := by
 unfold Yft
 cases h1 : Yab L k with
 |err e => exact last_1 d g k v L w hD e h1
 |ok m k1 =>
  rw [DR.bind_ok]
  by_cases h0 : Yfk m.reg = 0
  ·rw [if_neg (by simpa using h0)]
   by_cases hr : m.reg = 7
   ·rw [if_pos hr]; exact last_4 d g k v L w hD m k1 h1 _ rfl h0 hr
   ·rw [if_neg hr]; exact last_5 d g k v L w hD m k1 h1 _ rfl h0 hr
  ·rw [if_pos h0]
   cases h3 : Yba L (Yfk m.reg) m k1 with
   |err e => exact last_2 d g k v L w hD m k1 h1 _ rfl h0 e h3
   |ok i k2 => exact last_3 d g k v L w hD m k1 h1 _ rfl h0 i k2 h3
end Go.Proofs.YthakgjpejhjaoaaGreat
