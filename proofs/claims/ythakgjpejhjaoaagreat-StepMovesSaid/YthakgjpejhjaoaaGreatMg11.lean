/-
  Parts of the proof (their names shortened by a program). No condition.
-/
import Derived.Test.YthakgjpejhjaoaaGreatMg01
import Derived.Test.YthakgjpejhjaoaaGreatMg10
namespace Go.Proofs.YthakgjpejhjaoaaGreat
open Go Go.RowKit
set_option linter.unusedVariables false
set_option linter.unusedSimpArgs false
set_option maxRecDepth 100000
set_option maxHeartbeats 16000000
theorem Ybh {c : Int} (h0 : 0 ≤ c) (h1 : c < 256) : bits .and .u8 c 7 = c % 8 := by
 obtain ⟨c, rfl⟩ := Int.eq_ofNat_of_zero_le h0
 have h := u8_and_nat c 7 (by omega) (by decide)
 rw [show (7 : Nat) = 2 ^ 3 - 1 from rfl, Nat.and_two_pow_sub_one_eq_mod] at h
 exact h
theorem number_1 (d g k : Nat) (v : Value) (L : List Int) (w : World) (hD : Yc w d v L g k) (c : Int) (e : Int) (h1 : Yab L k = .err e) :
  Calls Tryz.prog 140 #[.pointer (some ⟨d, 0, none⟩), .int .u8 c] w (Yl d v L g w (.err e) Ins.val) := by
 have HD := Yh_ hD
 have S1 := Yh_ (RS.start hD)
 have HP2 := Yh_ (fun (w1 : World) (hd1 : Yc w1 d v L g k) => by have := Yv d g k v L w1 hd1; rw [h1] at this; exact this)
 clear hD h1
 go_enter Tryz.func140, Tryz.ntmps140
 go_wp2_with (have _t := S1; clear _t; go_at_call 121; refine (HP2.out _ (S1.out).dd).mono ?_; rintro e w2 ⟨rfl, hu⟩)
 exact ⟨rfl, rfl, (S1.out).uu.also hu (by simp)⟩
theorem Yo4 (d g k : Nat) (v : Value) (L : List Int) (w : World) (hD : Yc w d v L g k) (c : Int) (m : Mrm) (k1 : Nat) (h1 : Yab L k = .ok m k1) (q : Int) (hq : fldI m.reg = q) (hc : c = 221) (h0 : q = 0) :
  Calls Tryz.prog 140 #[.pointer (some ⟨d, 0, none⟩), .int .u8 c] w (Yl d v L g w (.err 12) Ins.val) := by
 have HD := Yh_ hD
 have S1 := Yh_ (RS.start hD)
 have hok := Yaj hD.r h1
 have HREG := Yh_ (And.intro hok.reg.1 hok.reg.2)
 have HQ := Yh_ hq
 have hix := fun w : World => Yga hok.reg.1 hok.reg.2 w
 rw [hq] at hix
 have ec : (c == 221) = true := by simpa using hc
 have ecn : (c != 221) = false := by rw [bne, ec]; rfl
 have e0 : (q == 0) = true := by simpa using h0
 have e0n : (q != 0) = false := by rw [bne, e0]; rfl
 have HP2 := Yh_ (fun (w1 : World) (hd1 : Yc w1 d v L g k) => by have := Yv d g k v L w1 hd1; rw [h1] at this; exact this)
 clear hD h1 hok hq hc h0
 go_enter Tryz.func140, Tryz.ntmps140
 go_wp2_with (first | (have _t := S1; clear _t; go_at_call 121; refine (HP2.out _ (S1.out).dd).mono ?_; rintro e w2 ⟨rfl, hD2, hu⟩; unfold Mrm.cells; have S2 := Yh_ ((S1.out).step hD2 hu); clear hD2 hu S1) | (go_at_call 144; refine (Yco m.reg _ HREG.out.1 HREG.out.2).mono ?_; rintro e w9 ⟨rfl, rfl⟩))
 exact ⟨rfl, rfl, ((S2.out).same ((Upd.refl [] w2).alloc (.cells m.cells 171))).uu⟩
theorem Ypq (d g k : Nat) (v : Value) (L : List Int) (w : World) (hD : Yc w d v L g k) (c : Int) (m : Mrm) (k1 : Nat) (h1 : Yab L k = .ok m k1) (q : Int) (hq : fldI m.reg = q) (hc : c = 221) (h0 : q ≠ 0) (h3 : m.mod = 3) :
  Calls Tryz.prog 140 #[.pointer (some ⟨d, 0, none⟩), .int .u8 c] w (Yl d v L g w (.err 12) Ins.val) := by
 have HD := Yh_ hD
 have S1 := Yh_ (RS.start hD)
 have hok := Yaj hD.r h1
 have HREG := Yh_ (And.intro hok.reg.1 hok.reg.2)
 have HQ := Yh_ hq
 have hix := fun w : World => Yga hok.reg.1 hok.reg.2 w
 rw [hq] at hix
 have ec : (c == 221) = true := by simpa using hc
 have ecn : (c != 221) = false := by rw [bne, ec]; rfl
 have e0 : (q == 0) = false := by simpa using h0
 have e0n : (q != 0) = true := by rw [bne, e0]; rfl
 have em : (m.mod == 3) = true := by simpa using h3
 have emn : (m.mod != 3) = false := by rw [bne, em]; rfl
 have HP2 := Yh_ (fun (w1 : World) (hd1 : Yc w1 d v L g k) => by have := Yv d g k v L w1 hd1; rw [h1] at this; exact this)
 clear hD h1 hok hq hc h0 h3
 go_enter Tryz.func140, Tryz.ntmps140
 go_wp2_with (first | (have _t := S1; clear _t; go_at_call 121; refine (HP2.out _ (S1.out).dd).mono ?_; rintro e w2 ⟨rfl, hD2, hu⟩; unfold Mrm.cells; have S2 := Yh_ ((S1.out).step hD2 hu); clear hD2 hu S1) | (go_at_call 144; refine (Yco m.reg _ HREG.out.1 HREG.out.2).mono ?_; rintro e w9 ⟨rfl, rfl⟩))
 exact ⟨rfl, rfl, ((S2.out).same ((Upd.refl [] w2).alloc (.cells m.cells 171))).uu⟩
theorem Ypw (d g k : Nat) (v : Value) (L : List Int) (w : World) (hD : Yc w d v L g k) (c : Int) (m : Mrm) (k1 : Nat) (h1 : Yab L k = .ok m k1) (q : Int) (hq : fldI m.reg = q) (hc : c = 221) (h0 : q ≠ 0) (h3 : m.mod ≠ 3) (e : Int) (h4 : Yba L q m k1 = .err e) :
  Calls Tryz.prog 140 #[.pointer (some ⟨d, 0, none⟩), .int .u8 c] w (Yl d v L g w (.err e) Ins.val) := by
 have HD := Yh_ hD
 have S1 := Yh_ (RS.start hD)
 have hok := Yaj hD.r h1
 have HREG := Yh_ (And.intro hok.reg.1 hok.reg.2)
 have HQ := Yh_ hq
 have hix := fun w : World => Yga hok.reg.1 hok.reg.2 w
 rw [hq] at hix
 have ec : (c == 221) = true := by simpa using hc
 have ecn : (c != 221) = false := by rw [bne, ec]; rfl
 have e0 : (q == 0) = false := by simpa using h0
 have e0n : (q != 0) = true := by rw [bne, e0]; rfl
 have em : (m.mod == 3) = false := by simpa using h3
 have emn : (m.mod != 3) = true := by rw [bne, em]; rfl
 have HP2 := Yh_ (fun (w1 : World) (hd1 : Yc w1 d v L g k) => by have := Yv d g k v L w1 hd1; rw [h1] at this; exact this)
 have HP3 := Yh_ (fun (w1 : World) (hd1 : Yc w1 d v L g k1) => by have := Ybc d g k1 v L q m w1 hd1 hok; rw [h4] at this; exact this)
 clear hD h1 hok hq hc h0 h3 h4
 go_enter Tryz.func140, Tryz.ntmps140
 go_wp2_with (first | (have _t := S1; clear _t; go_at_call 121; refine (HP2.out _ (S1.out).dd).mono ?_; rintro e w2 ⟨rfl, hD2, hu⟩; unfold Mrm.cells; have S2 := Yh_ ((S1.out).step hD2 hu); clear hD2 hu S1) | (go_at_call 144; refine (Yco m.reg _ HREG.out.1 HREG.out.2).mono ?_; rintro e w9 ⟨rfl, rfl⟩) | (have _t := S2; clear _t; go_at_call 122; refine (HP3.out _ ((S2.out).same ((Upd.refl [] w2).alloc (.cells m.cells 171))).dd).mono ?_; rintro e w3 ⟨rfl, hu⟩))
 exact ⟨rfl, rfl, ((S2.out).same ((Upd.refl [] w2).alloc (.cells m.cells 171))).uu.also hu (by simp)⟩
theorem Yo8 (d g k : Nat) (v : Value) (L : List Int) (w : World) (hD : Yc w d v L g k) (c : Int) (m : Mrm) (k1 : Nat) (h1 : Yab L k = .ok m k1) (q : Int) (hq : fldI m.reg = q) (hc : c = 221) (h0 : q ≠ 0) (h3 : m.mod ≠ 3) (i : Ins) (k2 : Nat) (h4 : Yba L q m k1 = .ok i k2) :
  Calls Tryz.prog 140 #[.pointer (some ⟨d, 0, none⟩), .int .u8 c] w (Yl d v L g w (.ok i k2) Ins.val) := by
 have HD := Yh_ hD
 have S1 := Yh_ (RS.start hD)
 have hok := Yaj hD.r h1
 have HREG := Yh_ (And.intro hok.reg.1 hok.reg.2)
 have HQ := Yh_ hq
 have hix := fun w : World => Yga hok.reg.1 hok.reg.2 w
 rw [hq] at hix
 have ec : (c == 221) = true := by simpa using hc
 have ecn : (c != 221) = false := by rw [bne, ec]; rfl
 have e0 : (q == 0) = false := by simpa using h0
 have e0n : (q != 0) = true := by rw [bne, e0]; rfl
 have em : (m.mod == 3) = false := by simpa using h3
 have emn : (m.mod != 3) = true := by rw [bne, em]; rfl
 have HP2 := Yh_ (fun (w1 : World) (hd1 : Yc w1 d v L g k) => by have := Yv d g k v L w1 hd1; rw [h1] at this; exact this)
 have HP3 := Yh_ (fun (w1 : World) (hd1 : Yc w1 d v L g k1) => by have := Ybc d g k1 v L q m w1 hd1 hok; rw [h4] at this; exact this)
 clear hD h1 hok hq hc h0 h3 h4
 go_enter Tryz.func140, Tryz.ntmps140
 go_wp2_with (first | (have _t := S1; clear _t; go_at_call 121; refine (HP2.out _ (S1.out).dd).mono ?_; rintro e w2 ⟨rfl, hD2, hu⟩; unfold Mrm.cells; have S2 := Yh_ ((S1.out).step hD2 hu); clear hD2 hu S1) | (go_at_call 144; refine (Yco m.reg _ HREG.out.1 HREG.out.2).mono ?_; rintro e w9 ⟨rfl, rfl⟩) | (have _t := S2; clear _t; go_at_call 122; refine (HP3.out _ ((S2.out).same ((Upd.refl [] w2).alloc (.cells m.cells 171))).dd).mono ?_; rintro e w3 ⟨rfl, hD3, hu⟩; have S3 := Yh_ (((S2.out).same ((Upd.refl [] w2).alloc (.cells m.cells 171))).step hD3 hu); clear hD3 hu S2) | (have _t := S3; clear _t; refine Ye 41 rfl ?_; refine Yd i w.heap.size rfl _ _ rfl rfl rfl (S3.out).rr rfl ?_; intro w4 hw; have S4 := Yh_ ((S3.out).store HD.out rfl hw); clear hw S3))
 exact bodyPost_ret (Yf rfl (Ys 4 w.heap.size _ rfl S4.out.rr)) rfl ⟨rfl, S4.out.dd, S4.out.uu⟩
theorem Ypu (d g k : Nat) (v : Value) (L : List Int) (w : World) (hD : Yc w d v L g k) (c : Int) (m : Mrm) (k1 : Nat) (h1 : Yab L k = .ok m k1) (q : Int) (hq : Ydz m.reg = q) (hc : c ≠ 221) (h0 : q = 0) :
  Calls Tryz.prog 140 #[.pointer (some ⟨d, 0, none⟩), .int .u8 c] w (Yl d v L g w (.err 12) Ins.val) := by
 have HD := Yh_ hD
 have S1 := Yh_ (RS.start hD)
 have hok := Yaj hD.r h1
 have HREG := Yh_ (And.intro hok.reg.1 hok.reg.2)
 have HQ := Yh_ hq
 have ec : (c == 221) = false := by simpa using hc
 have ecn : (c != 221) = true := by rw [bne, ec]; rfl
 have e0 : (q == 0) = true := by simpa using h0
 have e0n : (q != 0) = false := by rw [bne, e0]; rfl
 have HP2 := Yh_ (fun (w1 : World) (hd1 : Yc w1 d v L g k) => by have := Yv d g k v L w1 hd1; rw [h1] at this; exact this)
 clear hD h1 hok hq hc h0
 go_enter Tryz.func140, Tryz.ntmps140
 go_wp2_with (first | (have _t := S1; clear _t; go_at_call 121; refine (HP2.out _ (S1.out).dd).mono ?_; rintro e w2 ⟨rfl, hD2, hu⟩; unfold Mrm.cells; have S2 := Yh_ ((S1.out).step hD2 hu); clear hD2 hu S1) | (go_at_call 144; refine (Yco m.reg _ HREG.out.1 HREG.out.2).mono ?_; rintro e w9 ⟨rfl, rfl⟩; rw [HQ.out]))
 exact ⟨rfl, rfl, ((S2.out).same ((Upd.refl [] w2).alloc (.cells m.cells 171))).uu⟩
theorem Yo2 (d g k : Nat) (v : Value) (L : List Int) (w : World) (hD : Yc w d v L g k) (c : Int) (m : Mrm) (k1 : Nat) (h1 : Yab L k = .ok m k1) (q : Int) (hq : Ydz m.reg = q) (hc : c ≠ 221) (h0 : q ≠ 0) (h3 : m.mod = 3) :
  Calls Tryz.prog 140 #[.pointer (some ⟨d, 0, none⟩), .int .u8 c] w (Yl d v L g w (.err 12) Ins.val) := by
 have HD := Yh_ hD
 have S1 := Yh_ (RS.start hD)
 have hok := Yaj hD.r h1
 have HREG := Yh_ (And.intro hok.reg.1 hok.reg.2)
 have HQ := Yh_ hq
 have ec : (c == 221) = false := by simpa using hc
 have ecn : (c != 221) = true := by rw [bne, ec]; rfl
 have e0 : (q == 0) = false := by simpa using h0
 have e0n : (q != 0) = true := by rw [bne, e0]; rfl
 have em : (m.mod == 3) = true := by simpa using h3
 have emn : (m.mod != 3) = false := by rw [bne, em]; rfl
 have HP2 := Yh_ (fun (w1 : World) (hd1 : Yc w1 d v L g k) => by have := Yv d g k v L w1 hd1; rw [h1] at this; exact this)
 clear hD h1 hok hq hc h0 h3
 go_enter Tryz.func140, Tryz.ntmps140
 go_wp2_with (first | (have _t := S1; clear _t; go_at_call 121; refine (HP2.out _ (S1.out).dd).mono ?_; rintro e w2 ⟨rfl, hD2, hu⟩; unfold Mrm.cells; have S2 := Yh_ ((S1.out).step hD2 hu); clear hD2 hu S1) | (go_at_call 144; refine (Yco m.reg _ HREG.out.1 HREG.out.2).mono ?_; rintro e w9 ⟨rfl, rfl⟩; rw [HQ.out]))
 exact ⟨rfl, rfl, ((S2.out).same ((Upd.refl [] w2).alloc (.cells m.cells 171))).uu⟩
theorem Yph (d g k : Nat) (v : Value) (L : List Int) (w : World) (hD : Yc w d v L g k) (c : Int) (m : Mrm) (k1 : Nat) (h1 : Yab L k = .ok m k1) (q : Int) (hq : Ydz m.reg = q) (hc : c ≠ 221) (h0 : q ≠ 0) (h3 : m.mod ≠ 3) (e : Int) (h4 : Yba L q m k1 = .err e) :
  Calls Tryz.prog 140 #[.pointer (some ⟨d, 0, none⟩), .int .u8 c] w (Yl d v L g w (.err e) Ins.val) := by
 have HD := Yh_ hD
 have S1 := Yh_ (RS.start hD)
 have hok := Yaj hD.r h1
 have HREG := Yh_ (And.intro hok.reg.1 hok.reg.2)
 have HQ := Yh_ hq
 have ec : (c == 221) = false := by simpa using hc
 have ecn : (c != 221) = true := by rw [bne, ec]; rfl
 have e0 : (q == 0) = false := by simpa using h0
 have e0n : (q != 0) = true := by rw [bne, e0]; rfl
 have em : (m.mod == 3) = false := by simpa using h3
 have emn : (m.mod != 3) = true := by rw [bne, em]; rfl
 have HP2 := Yh_ (fun (w1 : World) (hd1 : Yc w1 d v L g k) => by have := Yv d g k v L w1 hd1; rw [h1] at this; exact this)
 have HP3 := Yh_ (fun (w1 : World) (hd1 : Yc w1 d v L g k1) => by have := Ybc d g k1 v L q m w1 hd1 hok; rw [h4] at this; exact this)
 clear hD h1 hok hq hc h0 h3 h4
 go_enter Tryz.func140, Tryz.ntmps140
 go_wp2_with (first | (have _t := S1; clear _t; go_at_call 121; refine (HP2.out _ (S1.out).dd).mono ?_; rintro e w2 ⟨rfl, hD2, hu⟩; unfold Mrm.cells; have S2 := Yh_ ((S1.out).step hD2 hu); clear hD2 hu S1) | (go_at_call 144; refine (Yco m.reg _ HREG.out.1 HREG.out.2).mono ?_; rintro e w9 ⟨rfl, rfl⟩; rw [HQ.out]) | (have _t := S2; clear _t; go_at_call 122; refine (HP3.out _ ((S2.out).same ((Upd.refl [] w2).alloc (.cells m.cells 171))).dd).mono ?_; rintro e w3 ⟨rfl, hu⟩))
 exact ⟨rfl, rfl, ((S2.out).same ((Upd.refl [] w2).alloc (.cells m.cells 171))).uu.also hu (by simp)⟩
theorem Ypr (d g k : Nat) (v : Value) (L : List Int) (w : World) (hD : Yc w d v L g k) (c : Int) (m : Mrm) (k1 : Nat) (h1 : Yab L k = .ok m k1) (q : Int) (hq : Ydz m.reg = q) (hc : c ≠ 221) (h0 : q ≠ 0) (h3 : m.mod ≠ 3) (i : Ins) (k2 : Nat) (h4 : Yba L q m k1 = .ok i k2) :
  Calls Tryz.prog 140 #[.pointer (some ⟨d, 0, none⟩), .int .u8 c] w (Yl d v L g w (.ok i k2) Ins.val) := by
 have HD := Yh_ hD
 have S1 := Yh_ (RS.start hD)
 have hok := Yaj hD.r h1
 have HREG := Yh_ (And.intro hok.reg.1 hok.reg.2)
 have HQ := Yh_ hq
 have ec : (c == 221) = false := by simpa using hc
 have ecn : (c != 221) = true := by rw [bne, ec]; rfl
 have e0 : (q == 0) = false := by simpa using h0
 have e0n : (q != 0) = true := by rw [bne, e0]; rfl
 have em : (m.mod == 3) = false := by simpa using h3
 have emn : (m.mod != 3) = true := by rw [bne, em]; rfl
 have HP2 := Yh_ (fun (w1 : World) (hd1 : Yc w1 d v L g k) => by have := Yv d g k v L w1 hd1; rw [h1] at this; exact this)
 have HP3 := Yh_ (fun (w1 : World) (hd1 : Yc w1 d v L g k1) => by have := Ybc d g k1 v L q m w1 hd1 hok; rw [h4] at this; exact this)
 clear hD h1 hok hq hc h0 h3 h4
 go_enter Tryz.func140, Tryz.ntmps140
 go_wp2_with (first | (have _t := S1; clear _t; go_at_call 121; refine (HP2.out _ (S1.out).dd).mono ?_; rintro e w2 ⟨rfl, hD2, hu⟩; unfold Mrm.cells; have S2 := Yh_ ((S1.out).step hD2 hu); clear hD2 hu S1) | (go_at_call 144; refine (Yco m.reg _ HREG.out.1 HREG.out.2).mono ?_; rintro e w9 ⟨rfl, rfl⟩; rw [HQ.out]) | (have _t := S2; clear _t; go_at_call 122; refine (HP3.out _ ((S2.out).same ((Upd.refl [] w2).alloc (.cells m.cells 171))).dd).mono ?_; rintro e w3 ⟨rfl, hD3, hu⟩; have S3 := Yh_ (((S2.out).same ((Upd.refl [] w2).alloc (.cells m.cells 171))).step hD3 hu); clear hD3 hu S2) | (have _t := S3; clear _t; refine Ye 41 rfl ?_; refine Yd i w.heap.size rfl _ _ rfl rfl rfl (S3.out).rr rfl ?_; intro w4 hw; have S4 := Yh_ ((S3.out).store HD.out rfl hw); clear hw S3))
 exact bodyPost_ret (Yf rfl (Ys 4 w.heap.size _ rfl S4.out.rr)) rfl ⟨rfl, S4.out.dd, S4.out.uu⟩
theorem Yfh (d g k : Nat) (v : Value) (L : List Int) (c : Int) (w : World) (hD : Yc w d v L g k) :
  Calls Tryz.prog 140 #[.pointer (some ⟨d, 0, none⟩), .int .u8 c] w (Yl d v L g w (Ycr L c k) Ins.val) := by
 unfold Ycr
 cases h1 : Yab L k with
 |err e => exact number_1 d g k v L w hD c e h1
 |ok m k1 =>
  rw [DR.bind_ok]
  by_cases hc : c = 221
  ·have hq : fldI m.reg = Ye2 c m := by rw [Ye2, if_pos hc]
   by_cases h0 : Ye2 c m = 0
   ·rw [if_pos (.inl h0)]; exact Yo4 d g k v L w hD c m k1 h1 _ hq hc h0
   ·by_cases h3 : m.mod = 3
    ·rw [if_pos (.inr h3)]; exact Ypq d g k v L w hD c m k1 h1 _ hq hc h0 h3
    ·rw [if_neg (by simp [h0, h3])]
     cases h4 : Yba L (Ye2 c m) m k1 with
     |err e => exact Ypw d g k v L w hD c m k1 h1 _ hq hc h0 h3 e h4
     |ok i k2 => exact Yo8 d g k v L w hD c m k1 h1 _ hq hc h0 h3 i k2 h4
  ·have hq : Ydz m.reg = Ye2 c m := by rw [Ye2, if_neg hc]
   by_cases h0 : Ye2 c m = 0
   ·rw [if_pos (.inl h0)]; exact Ypu d g k v L w hD c m k1 h1 _ hq hc h0
   ·by_cases h3 : m.mod = 3
    ·rw [if_pos (.inr h3)]; exact Yo2 d g k v L w hD c m k1 h1 _ hq hc h0 h3
    ·rw [if_neg (by simp [h0, h3])]
     cases h4 : Yba L (Ye2 c m) m k1 with
     |err e => exact Yph d g k v L w hD c m k1 h1 _ hq hc h0 h3 e h4
     |ok i k2 => exact Ypr d g k v L w hD c m k1 h1 _ hq hc h0 h3 i k2 h4
theorem row_1a (d g k : Nat) (v : Value) (L : List Int) (w : World) (hD : Yc w d v L g k) (c : Int) (hc : 0 ≤ c ∧ c < 64) (h8 : c % 8 = 1) (e : Int) (h4 : Yat L (Yap (c / 8)) false k = .err e) :
  Calls Tryz.prog 88 #[.pointer (some ⟨d, 0, none⟩), .int .u8 c] w (Yl d v L g w (.err e) Ins.val) := by
 have HD := Yh_ hD
 have S1 := Yh_ (RS.start hD)
 obtain ⟨z, hz⟩ : ∃ z : Int, c / 8 = z := ⟨_, rfl⟩
 have qz : wrap64 z = z := by unfold wrap64; omega
 have HZ := Yh_ (show 0 ≤ z ∧ z < 8 by omega)
 have ha : bits .and .u8 c 7 = c % 8 := Ybh hc.1 (by omega)
 obtain ⟨r, hr⟩ : ∃ r : Int, c % 8 = r := ⟨_, rfl⟩
 rw [hr] at ha h8
 have e1 : (r == 1) = true := by rw [h8]; rfl
 rw [hz] at h4
 have HP2 := Yh_ (fun (w1 : World) (hd1 : Yc w1 d v L g k) => by have := Ybq d g k v L (Yap z) false w1 hd1; rw [h4] at this; exact this)
 clear hD hc h8 hr h4
 go_enter Tryz.func88, Tryz.ntmps88
 go_wp2_with (first | (go_at_call 123; refine (Ycb z _ HZ.out.1 HZ.out.2).mono ?_; rintro e w9 ⟨rfl, rfl⟩) | (have _t := S1; clear _t; go_at_call 120; refine (HP2.out _ (S1.out).dd).mono ?_; rintro e w2 ⟨rfl, hu⟩))
 exact ⟨rfl, rfl, (S1.out).uu.also hu (by simp)⟩
theorem row_1b (d g k : Nat) (v : Value) (L : List Int) (w : World) (hD : Yc w d v L g k) (c : Int) (hc : 0 ≤ c ∧ c < 64) (h8 : c % 8 = 1) (i : Ins) (k1 : Nat) (h4 : Yat L (Yap (c / 8)) false k = .ok i k1) :
  Calls Tryz.prog 88 #[.pointer (some ⟨d, 0, none⟩), .int .u8 c] w (Yl d v L g w (.ok i k1) Ins.val) := by
 have HD := Yh_ hD
 have S1 := Yh_ (RS.start hD)
 obtain ⟨z, hz⟩ : ∃ z : Int, c / 8 = z := ⟨_, rfl⟩
 have qz : wrap64 z = z := by unfold wrap64; omega
 have HZ := Yh_ (show 0 ≤ z ∧ z < 8 by omega)
 have ha : bits .and .u8 c 7 = c % 8 := Ybh hc.1 (by omega)
 obtain ⟨r, hr⟩ : ∃ r : Int, c % 8 = r := ⟨_, rfl⟩
 rw [hr] at ha h8
 have e1 : (r == 1) = true := by rw [h8]; rfl
 rw [hz] at h4
 have HP2 := Yh_ (fun (w1 : World) (hd1 : Yc w1 d v L g k) => by have := Ybq d g k v L (Yap z) false w1 hd1; rw [h4] at this; exact this)
 clear hD hc h8 hr h4
 go_enter Tryz.func88, Tryz.ntmps88
 go_wp2_with (first | (go_at_call 123; refine (Ycb z _ HZ.out.1 HZ.out.2).mono ?_; rintro e w9 ⟨rfl, rfl⟩) | (have _t := S1; clear _t; go_at_call 120; refine (HP2.out _ (S1.out).dd).mono ?_; rintro e w2 ⟨rfl, hD2, hu⟩; have S2 := Yh_ ((S1.out).step hD2 hu); clear hD2 hu S1) | (have _t := S2; clear _t; refine Ye 41 rfl ?_; refine Yd i w.heap.size rfl _ _ rfl rfl rfl (S2.out).rr rfl ?_; intro w3 hw; have S3 := Yh_ ((S2.out).store HD.out rfl hw); clear hw S2))
 exact bodyPost_ret (Yf rfl (Ys 4 w.heap.size _ rfl S3.out.rr)) rfl ⟨rfl, S3.out.dd, S3.out.uu⟩
theorem row_3a (d g k : Nat) (v : Value) (L : List Int) (w : World) (hD : Yc w d v L g k) (c : Int) (hc : 0 ≤ c ∧ c < 64) (h8 : c % 8 = 3) (e : Int) (h4 : Yat L (Yap (c / 8)) true k = .err e) :
  Calls Tryz.prog 88 #[.pointer (some ⟨d, 0, none⟩), .int .u8 c] w (Yl d v L g w (.err e) Ins.val) := by
 have HD := Yh_ hD
 have S1 := Yh_ (RS.start hD)
 obtain ⟨z, hz⟩ : ∃ z : Int, c / 8 = z := ⟨_, rfl⟩
 have qz : wrap64 z = z := by unfold wrap64; omega
 have HZ := Yh_ (show 0 ≤ z ∧ z < 8 by omega)
 have ha : bits .and .u8 c 7 = c % 8 := Ybh hc.1 (by omega)
 obtain ⟨r, hr⟩ : ∃ r : Int, c % 8 = r := ⟨_, rfl⟩
 rw [hr] at ha h8
 have e1 : (r == 1) = false := by rw [h8]; rfl
 have e3 : (r == 3) = true := by rw [h8]; rfl
 rw [hz] at h4
 have HP2 := Yh_ (fun (w1 : World) (hd1 : Yc w1 d v L g k) => by have := Ybq d g k v L (Yap z) true w1 hd1; rw [h4] at this; exact this)
 clear hD hc h8 hr h4
 go_enter Tryz.func88, Tryz.ntmps88
 go_wp2_with (first | (go_at_call 123; refine (Ycb z _ HZ.out.1 HZ.out.2).mono ?_; rintro e w9 ⟨rfl, rfl⟩) | (have _t := S1; clear _t; go_at_call 120; refine (HP2.out _ (S1.out).dd).mono ?_; rintro e w2 ⟨rfl, hu⟩))
 exact ⟨rfl, rfl, (S1.out).uu.also hu (by simp)⟩
theorem row_3b (d g k : Nat) (v : Value) (L : List Int) (w : World) (hD : Yc w d v L g k) (c : Int) (hc : 0 ≤ c ∧ c < 64) (h8 : c % 8 = 3) (i : Ins) (k1 : Nat) (h4 : Yat L (Yap (c / 8)) true k = .ok i k1) :
  Calls Tryz.prog 88 #[.pointer (some ⟨d, 0, none⟩), .int .u8 c] w (Yl d v L g w (.ok i k1) Ins.val) := by
 have HD := Yh_ hD
 have S1 := Yh_ (RS.start hD)
 obtain ⟨z, hz⟩ : ∃ z : Int, c / 8 = z := ⟨_, rfl⟩
 have qz : wrap64 z = z := by unfold wrap64; omega
 have HZ := Yh_ (show 0 ≤ z ∧ z < 8 by omega)
 have ha : bits .and .u8 c 7 = c % 8 := Ybh hc.1 (by omega)
 obtain ⟨r, hr⟩ : ∃ r : Int, c % 8 = r := ⟨_, rfl⟩
 rw [hr] at ha h8
 have e1 : (r == 1) = false := by rw [h8]; rfl
 have e3 : (r == 3) = true := by rw [h8]; rfl
 rw [hz] at h4
 have HP2 := Yh_ (fun (w1 : World) (hd1 : Yc w1 d v L g k) => by have := Ybq d g k v L (Yap z) true w1 hd1; rw [h4] at this; exact this)
 clear hD hc h8 hr h4
 go_enter Tryz.func88, Tryz.ntmps88
 go_wp2_with (first | (go_at_call 123; refine (Ycb z _ HZ.out.1 HZ.out.2).mono ?_; rintro e w9 ⟨rfl, rfl⟩) | (have _t := S1; clear _t; go_at_call 120; refine (HP2.out _ (S1.out).dd).mono ?_; rintro e w2 ⟨rfl, hD2, hu⟩; have S2 := Yh_ ((S1.out).step hD2 hu); clear hD2 hu S1) | (have _t := S2; clear _t; refine Ye 41 rfl ?_; refine Yd i w.heap.size rfl _ _ rfl rfl rfl (S2.out).rr rfl ?_; intro w3 hw; have S3 := Yh_ ((S2.out).store HD.out rfl hw); clear hw S2))
 exact bodyPost_ret (Yf rfl (Ys 4 w.heap.size _ rfl S3.out.rr)) rfl ⟨rfl, S3.out.dd, S3.out.uu⟩
theorem row_5a (d g k : Nat) (v : Value) (L : List Int) (w : World) (hD : Yc w d v L g k) (c : Int) (hc : 0 ≤ c ∧ c < 64) (h8 : c % 8 = 5) (e : Int) (h4 : Yak L k = .err e) :
  Calls Tryz.prog 88 #[.pointer (some ⟨d, 0, none⟩), .int .u8 c] w (Yl d v L g w (.err e) Ins.val) := by
 have HD := Yh_ hD
 have S1 := Yh_ (RS.start hD)
 obtain ⟨z, hz⟩ : ∃ z : Int, c / 8 = z := ⟨_, rfl⟩
 have qz : wrap64 z = z := by unfold wrap64; omega
 have HZ := Yh_ (show 0 ≤ z ∧ z < 8 by omega)
 have ha : bits .and .u8 c 7 = c % 8 := Ybh hc.1 (by omega)
 obtain ⟨r, hr⟩ : ∃ r : Int, c % 8 = r := ⟨_, rfl⟩
 rw [hr] at ha h8
 have e1 : (r == 1) = false := by rw [h8]; rfl
 have e3 : (r == 3) = false := by rw [h8]; rfl
 have e5 : (r == 5) = true := by rw [h8]; rfl
 have HP3 := Yh_ (fun (w1 : World) (hd1 : Yc w1 d v L g k) => by have := Ybo d g k v L w1 hd1; rw [h4] at this; exact this)
 clear hD hc h8 hr h4
 go_enter Tryz.func88, Tryz.ntmps88
 go_wp2_with (first | (go_at_call 123; refine (Ycb z _ HZ.out.1 HZ.out.2).mono ?_; rintro e w9 ⟨rfl, rfl⟩) | (have _t := S1; clear _t; go_at_call 89; refine (Ybv 0 _).mono ?_; rintro e w2 ⟨rfl, hu⟩; unfold Opd.val Yam; have S2 := Yh_ ((S1.out).same hu); clear hu S1) | (have _t := S2; clear _t; go_at_call 92; refine (HP3.out _ (S2.out).dd).mono ?_; rintro e w3 ⟨rfl, hu⟩))
 exact ⟨rfl, rfl, (S2.out).uu.also hu (by simp)⟩
theorem row_5b (d g k : Nat) (v : Value) (L : List Int) (w : World) (hD : Yc w d v L g k) (c : Int) (hc : 0 ≤ c ∧ c < 64) (h8 : c % 8 = 5) (o : Opd) (k1 : Nat) (h4 : Yak L k = .ok o k1) :
  Calls Tryz.prog 88 #[.pointer (some ⟨d, 0, none⟩), .int .u8 c] w (Yl d v L g w (.ok ⟨Yap (c / 8), 0, Yam 0, o, false, 0⟩ k1) Ins.val) := by
 have HD := Yh_ hD
 have S1 := Yh_ (RS.start hD)
 obtain ⟨z, hz⟩ : ∃ z : Int, c / 8 = z := ⟨_, rfl⟩
 have qz : wrap64 z = z := by unfold wrap64; omega
 have HZ := Yh_ (show 0 ≤ z ∧ z < 8 by omega)
 have ha : bits .and .u8 c 7 = c % 8 := Ybh hc.1 (by omega)
 obtain ⟨r, hr⟩ : ∃ r : Int, c % 8 = r := ⟨_, rfl⟩
 rw [hr] at ha h8
 have e1 : (r == 1) = false := by rw [h8]; rfl
 have e3 : (r == 3) = false := by rw [h8]; rfl
 have e5 : (r == 5) = true := by rw [h8]; rfl
 rw [hz]
 have HP3 := Yh_ (fun (w1 : World) (hd1 : Yc w1 d v L g k) => by have := Ybo d g k v L w1 hd1; rw [h4] at this; exact this)
 clear hD hc h8 hr h4
 go_enter Tryz.func88, Tryz.ntmps88
 go_wp2_with (first | (go_at_call 123; refine (Ycb z _ HZ.out.1 HZ.out.2).mono ?_; rintro e w9 ⟨rfl, rfl⟩) | (have _t := S1; clear _t; go_at_call 89; refine (Ybv 0 _).mono ?_; rintro e w2 ⟨rfl, hu⟩; unfold Opd.val Yam; have S2 := Yh_ ((S1.out).same hu); clear hu S1) | (have _t := S2; clear _t; go_at_call 92; refine (HP3.out _ (S2.out).dd).mono ?_; rintro e w3 ⟨rfl, hD3, hu⟩; unfold Opd.val; have S3 := Yh_ ((S2.out).step hD3 hu); clear hD3 hu S2) | (have _t := S3; clear _t; refine Ye 41 rfl ?_; refine Yd ⟨Yap z, 0, Yam 0, o, false, 0⟩ w.heap.size rfl _ _ rfl rfl rfl (S3.out).rr rfl ?_; intro w4 hw; have S4 := Yh_ ((S3.out).store HD.out rfl hw); clear hw S3))
 exact bodyPost_ret (Yf rfl (Ys 4 w.heap.size _ rfl S4.out.rr)) rfl ⟨rfl, S4.out.dd, S4.out.uu⟩
theorem row_n (d g k : Nat) (v : Value) (L : List Int) (w : World) (hD : Yc w d v L g k) (c : Int) (hc : 0 ≤ c ∧ c < 64) (h8 : c % 8 ≠ 1 ∧ c % 8 ≠ 3 ∧ c % 8 ≠ 5)  :
  Calls Tryz.prog 88 #[.pointer (some ⟨d, 0, none⟩), .int .u8 c] w (Yl d v L g w (.err 12) Ins.val) := by
 have HD := Yh_ hD
 have S1 := Yh_ (RS.start hD)
 obtain ⟨z, hz⟩ : ∃ z : Int, c / 8 = z := ⟨_, rfl⟩
 have qz : wrap64 z = z := by unfold wrap64; omega
 have HZ := Yh_ (show 0 ≤ z ∧ z < 8 by omega)
 have ha : bits .and .u8 c 7 = c % 8 := Ybh hc.1 (by omega)
 obtain ⟨r, hr⟩ : ∃ r : Int, c % 8 = r := ⟨_, rfl⟩
 rw [hr] at ha h8
 have e1 : (r == 1) = false := by simpa using h8.1
 have e3 : (r == 3) = false := by simpa using h8.2.1
 have e5 : (r == 5) = false := by simpa using h8.2.2
 clear hD hc h8 hr
 go_enter Tryz.func88, Tryz.ntmps88
 go_wp2_with (go_at_call 123; refine (Ycb z _ HZ.out.1 HZ.out.2).mono ?_; rintro e w9 ⟨rfl, rfl⟩)
 exact ⟨rfl, rfl, (S1.out).uu⟩
theorem Yn6 (d g k : Nat) (v : Value) (L : List Int) (c : Int) (w : World) (hD : Yc w d v L g k) (hc : 0 ≤ c ∧ c < 64) :
  Calls Tryz.prog 88 #[.pointer (some ⟨d, 0, none⟩), .int .u8 c] w (Yl d v L g w (Yhp L c k) Ins.val) := by
 unfold Yhp
 by_cases h1 : c % 8 = 1
 ·rw [if_pos h1]
  cases h4 : Yat L (Yap (c / 8)) false k with
  |err e => exact row_1a d g k v L w hD c hc h1 e h4
  |ok i k1 => exact row_1b d g k v L w hD c hc h1 i k1 h4
 ·rw [if_neg h1]
  by_cases h3 : c % 8 = 3
  ·rw [if_pos h3]
   cases h4 : Yat L (Yap (c / 8)) true k with
   |err e => exact row_3a d g k v L w hD c hc h3 e h4
   |ok i k1 => exact row_3b d g k v L w hD c hc h3 i k1 h4
  ·rw [if_neg h3]
   by_cases h5 : c % 8 = 5
   ·rw [if_pos h5]
    cases h4 : Yak L k with
    |err e => exact row_5a d g k v L w hD c hc h5 e h4
    |ok o k1 => exact row_5b d g k v L w hD c hc h5 o k1 h4
   ·rw [if_neg h5]; exact row_n d g k v L w hD c hc ⟨h1, h3, h5⟩
end Go.Proofs.YthakgjpejhjaoaaGreat
