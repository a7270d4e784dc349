/-
  Parts of the proof (their names shortened by a program). No condition.
-/
import Derived.Test.YteiplidhkelkbaaGreatMg01
import Derived.Test.YteiplidhkelkbaaGreatMg11
namespace Go.Proofs.YteiplidhkelkbaaGreat
open Go Go.RowKit
set_option linter.unusedVariables false
set_option linter.unusedSimpArgs false
set_option maxRecDepth 100000
set_option maxHeartbeats 16000000
theorem Ypt (d g k : Nat) (v : Value) (L : List Int) (w : World) (hD : Yd w d v L g k) (e : Int) (h : Yas L k = .err e) :
  Calls Tryz.prog 71 #[.pointer (some ⟨d, 0, none⟩), .int .u8 104] w (Yp d v L g w (.err e) Ins.val) := by
 have HD := Yh_ hD
 have S1 := Yh_ (RS.start hD)
 have HP2 := Yh_ (fun (w1 : World) (hd1 : Yd w1 d v L g k) => by have := Yb4 d g k v L w1 hd1; rw [h] at this; exact this)
 clear hD h
 go_enter Tryz.func71, Tryz.ntmps71
 go_wp2_with (have _t := S1; clear _t; go_at_call 70; refine (HP2.out _ (S1.out).dd).mono ?_; rintro e w2 ⟨rfl, hu⟩)
 exact ⟨rfl, rfl, (S1.out).uu.also hu (by simp)⟩
theorem Yq3 (d g k : Nat) (v : Value) (L : List Int) (w : World) (hD : Yd w d v L g k) (o : Opd) (k1 : Nat) (h : Yas L k = .ok o k1) :
  Calls Tryz.prog 71 #[.pointer (some ⟨d, 0, none⟩), .int .u8 104] w (Yp d v L g w (.ok ⟨28, 0, o, Opd.none, false, 0⟩ k1) Ins.val) := by
 have HD := Yh_ hD
 have S1 := Yh_ (RS.start hD)
 have HP2 := Yh_ (fun (w1 : World) (hd1 : Yd w1 d v L g k) => by have := Yb4 d g k v L w1 hd1; rw [h] at this; exact this)
 clear hD h
 go_enter Tryz.func71, Tryz.ntmps71
 go_wp2_with (first | (have _t := S1; clear _t; go_at_call 70; refine (HP2.out _ (S1.out).dd).mono ?_; rintro e w2 ⟨rfl, hD2, hu⟩; unfold Opd.val; have S2 := Yh_ ((S1.out).step hD2 hu); clear hD2 hu S1) | (have _t := S2; clear _t; refine Ye 42 rfl ?_; refine Yb ⟨28, 0, o, Opd.none, false, 0⟩ w.heap.size rfl _ _ rfl rfl rfl (S2.out).rr rfl ?_; intro w3 hw; have S3 := Yh_ ((S2.out).store HD.out rfl hw); clear hw S2))
 exact bodyPost_ret (Yj rfl (Yi 4 w.heap.size _ rfl S3.out.rr)) rfl ⟨rfl, S3.out.dd, S3.out.uu⟩
theorem Ypb (d g k : Nat) (v : Value) (L : List Int) (w : World) (hD : Yd w d v L g k) (e : Int) (h : Yce L k = .err e) :
  Calls Tryz.prog 71 #[.pointer (some ⟨d, 0, none⟩), .int .u8 106] w (Yp d v L g w (.err e) Ins.val) := by
 have HD := Yh_ hD
 have S1 := Yh_ (RS.start hD)
 have HP2 := Yh_ (fun (w1 : World) (hd1 : Yd w1 d v L g k) => by have := Yfo d g k v L w1 hd1; rw [h] at this; exact this)
 clear hD h
 go_enter Tryz.func71, Tryz.ntmps71
 go_wp2_with (have _t := S1; clear _t; go_at_call 68; refine (HP2.out _ (S1.out).dd).mono ?_; rintro e w2 ⟨rfl, hu⟩)
 exact ⟨rfl, rfl, (S1.out).uu.also hu (by simp)⟩
theorem Yoy (d g k : Nat) (v : Value) (L : List Int) (w : World) (hD : Yd w d v L g k) (o : Opd) (k1 : Nat) (h : Yce L k = .ok o k1) :
  Calls Tryz.prog 71 #[.pointer (some ⟨d, 0, none⟩), .int .u8 106] w (Yp d v L g w (.ok ⟨28, 0, o, Opd.none, false, 0⟩ k1) Ins.val) := by
 have HD := Yh_ hD
 have S1 := Yh_ (RS.start hD)
 have HP2 := Yh_ (fun (w1 : World) (hd1 : Yd w1 d v L g k) => by have := Yfo d g k v L w1 hd1; rw [h] at this; exact this)
 clear hD h
 go_enter Tryz.func71, Tryz.ntmps71
 go_wp2_with (first | (have _t := S1; clear _t; go_at_call 68; refine (HP2.out _ (S1.out).dd).mono ?_; rintro e w2 ⟨rfl, hD2, hu⟩; unfold Opd.val; have S2 := Yh_ ((S1.out).step hD2 hu); clear hD2 hu S1) | (have _t := S2; clear _t; refine Ye 42 rfl ?_; refine Yb ⟨28, 0, o, Opd.none, false, 0⟩ w.heap.size rfl _ _ rfl rfl rfl (S2.out).rr rfl ?_; intro w3 hw; have S3 := Yh_ ((S2.out).store HD.out rfl hw); clear hw S2))
 exact bodyPost_ret (Yj rfl (Yi 4 w.heap.size _ rfl S3.out.rr)) rfl ⟨rfl, S3.out.dd, S3.out.uu⟩
theorem Yo7 (d g k : Nat) (v : Value) (L : List Int) (w : World) (hD : Yd w d v L g k) (e : Int) (h : Yaz L 11 false k = .err e) :
  Calls Tryz.prog 71 #[.pointer (some ⟨d, 0, none⟩), .int .u8 133] w (Yp d v L g w (.err e) Ins.val) := by
 have HD := Yh_ hD
 have S1 := Yh_ (RS.start hD)
 have HP2 := Yh_ (fun (w1 : World) (hd1 : Yd w1 d v L g k) => by have := Yb8 d g k v L 11 false w1 hd1; rw [h] at this; exact this)
 clear hD h
 go_enter Tryz.func71, Tryz.ntmps71
 go_wp2_with (have _t := S1; clear _t; go_at_call 85; refine (HP2.out _ (S1.out).dd).mono ?_; rintro e w2 ⟨rfl, hu⟩)
 exact ⟨rfl, rfl, (S1.out).uu.also hu (by simp)⟩
theorem Yo8 (d g k : Nat) (v : Value) (L : List Int) (w : World) (hD : Yd w d v L g k) (i : Ins) (k1 : Nat) (h : Yaz L 11 false k = .ok i k1) :
  Calls Tryz.prog 71 #[.pointer (some ⟨d, 0, none⟩), .int .u8 133] w (Yp d v L g w (.ok i k1) Ins.val) := by
 have HD := Yh_ hD
 have S1 := Yh_ (RS.start hD)
 have HP2 := Yh_ (fun (w1 : World) (hd1 : Yd w1 d v L g k) => by have := Yb8 d g k v L 11 false w1 hd1; rw [h] at this; exact this)
 clear hD h
 go_enter Tryz.func71, Tryz.ntmps71
 go_wp2_with (first | (have _t := S1; clear _t; go_at_call 85; refine (HP2.out _ (S1.out).dd).mono ?_; rintro e w2 ⟨rfl, hD2, hu⟩; have S2 := Yh_ ((S1.out).step hD2 hu); clear hD2 hu S1) | (have _t := S2; clear _t; refine Ye 42 rfl ?_; refine Yb i w.heap.size rfl _ _ rfl rfl rfl (S2.out).rr rfl ?_; intro w3 hw; have S3 := Yh_ ((S2.out).store HD.out rfl hw); clear hw S2))
 exact bodyPost_ret (Yj rfl (Yi 4 w.heap.size _ rfl S3.out.rr)) rfl ⟨rfl, S3.out.dd, S3.out.uu⟩
theorem Yqb (d g k : Nat) (v : Value) (L : List Int) (w : World) (hD : Yd w d v L g k) (e : Int) (h : Yaz L 27 false k = .err e) :
  Calls Tryz.prog 71 #[.pointer (some ⟨d, 0, none⟩), .int .u8 135] w (Yp d v L g w (.err e) Ins.val) := by
 have HD := Yh_ hD
 have S1 := Yh_ (RS.start hD)
 have HP2 := Yh_ (fun (w1 : World) (hd1 : Yd w1 d v L g k) => by have := Yb8 d g k v L 27 false w1 hd1; rw [h] at this; exact this)
 clear hD h
 go_enter Tryz.func71, Tryz.ntmps71
 go_wp2_with (have _t := S1; clear _t; go_at_call 85; refine (HP2.out _ (S1.out).dd).mono ?_; rintro e w2 ⟨rfl, hu⟩)
 exact ⟨rfl, rfl, (S1.out).uu.also hu (by simp)⟩
theorem Yp0 (d g k : Nat) (v : Value) (L : List Int) (w : World) (hD : Yd w d v L g k) (i : Ins) (k1 : Nat) (h : Yaz L 27 false k = .ok i k1) :
  Calls Tryz.prog 71 #[.pointer (some ⟨d, 0, none⟩), .int .u8 135] w (Yp d v L g w (.ok i k1) Ins.val) := by
 have HD := Yh_ hD
 have S1 := Yh_ (RS.start hD)
 have HP2 := Yh_ (fun (w1 : World) (hd1 : Yd w1 d v L g k) => by have := Yb8 d g k v L 27 false w1 hd1; rw [h] at this; exact this)
 clear hD h
 go_enter Tryz.func71, Tryz.ntmps71
 go_wp2_with (first | (have _t := S1; clear _t; go_at_call 85; refine (HP2.out _ (S1.out).dd).mono ?_; rintro e w2 ⟨rfl, hD2, hu⟩; have S2 := Yh_ ((S1.out).step hD2 hu); clear hD2 hu S1) | (have _t := S2; clear _t; refine Ye 42 rfl ?_; refine Yb i w.heap.size rfl _ _ rfl rfl rfl (S2.out).rr rfl ?_; intro w3 hw; have S3 := Yh_ ((S2.out).store HD.out rfl hw); clear hw S2))
 exact bodyPost_ret (Yj rfl (Yi 4 w.heap.size _ rfl S3.out.rr)) rfl ⟨rfl, S3.out.dd, S3.out.uu⟩
theorem Yqi (d g k : Nat) (v : Value) (L : List Int) (w : World) (hD : Yd w d v L g k) (e : Int) (h : Yaz L 2 false k = .err e) :
  Calls Tryz.prog 71 #[.pointer (some ⟨d, 0, none⟩), .int .u8 136] w (Yp d v L g w (.err e) Ins.val) := by
 have HD := Yh_ hD
 have S1 := Yh_ (RS.start hD)
 have HP2 := Yh_ (fun (w1 : World) (hd1 : Yd w1 d v L g k) => by have := Yb8 d g k v L 2 false w1 hd1; rw [h] at this; exact this)
 clear hD h
 go_enter Tryz.func71, Tryz.ntmps71
 go_wp2_with (have _t := S1; clear _t; go_at_call 85; refine (HP2.out _ (S1.out).dd).mono ?_; rintro e w2 ⟨rfl, hu⟩)
 exact ⟨rfl, rfl, (S1.out).uu.also hu (by simp)⟩
theorem Ypk (d g k : Nat) (v : Value) (L : List Int) (w : World) (hD : Yd w d v L g k) (i : Ins) (k1 : Nat) (h : Yaz L 2 false k = .ok i k1) :
  Calls Tryz.prog 71 #[.pointer (some ⟨d, 0, none⟩), .int .u8 136] w (Yp d v L g w (.ok i k1) Ins.val) := by
 have HD := Yh_ hD
 have S1 := Yh_ (RS.start hD)
 have HP2 := Yh_ (fun (w1 : World) (hd1 : Yd w1 d v L g k) => by have := Yb8 d g k v L 2 false w1 hd1; rw [h] at this; exact this)
 clear hD h
 go_enter Tryz.func71, Tryz.ntmps71
 go_wp2_with (first | (have _t := S1; clear _t; go_at_call 85; refine (HP2.out _ (S1.out).dd).mono ?_; rintro e w2 ⟨rfl, hD2, hu⟩; have S2 := Yh_ ((S1.out).step hD2 hu); clear hD2 hu S1) | (have _t := S2; clear _t; refine Ye 42 rfl ?_; refine Yb i w.heap.size rfl _ _ rfl rfl rfl (S2.out).rr rfl ?_; intro w3 hw; have S3 := Yh_ ((S2.out).store HD.out rfl hw); clear hw S2))
 exact bodyPost_ret (Yj rfl (Yi 4 w.heap.size _ rfl S3.out.rr)) rfl ⟨rfl, S3.out.dd, S3.out.uu⟩
theorem Ypj (d g k : Nat) (v : Value) (L : List Int) (w : World) (hD : Yd w d v L g k) (e : Int) (h : Yaz L 2 true k = .err e) :
  Calls Tryz.prog 71 #[.pointer (some ⟨d, 0, none⟩), .int .u8 138] w (Yp d v L g w (.err e) Ins.val) := by
 have HD := Yh_ hD
 have S1 := Yh_ (RS.start hD)
 have HP2 := Yh_ (fun (w1 : World) (hd1 : Yd w1 d v L g k) => by have := Yb8 d g k v L 2 true w1 hd1; rw [h] at this; exact this)
 clear hD h
 go_enter Tryz.func71, Tryz.ntmps71
 go_wp2_with (have _t := S1; clear _t; go_at_call 85; refine (HP2.out _ (S1.out).dd).mono ?_; rintro e w2 ⟨rfl, hu⟩)
 exact ⟨rfl, rfl, (S1.out).uu.also hu (by simp)⟩
theorem Yo3 (d g k : Nat) (v : Value) (L : List Int) (w : World) (hD : Yd w d v L g k) (i : Ins) (k1 : Nat) (h : Yaz L 2 true k = .ok i k1) :
  Calls Tryz.prog 71 #[.pointer (some ⟨d, 0, none⟩), .int .u8 138] w (Yp d v L g w (.ok i k1) Ins.val) := by
 have HD := Yh_ hD
 have S1 := Yh_ (RS.start hD)
 have HP2 := Yh_ (fun (w1 : World) (hd1 : Yd w1 d v L g k) => by have := Yb8 d g k v L 2 true w1 hd1; rw [h] at this; exact this)
 clear hD h
 go_enter Tryz.func71, Tryz.ntmps71
 go_wp2_with (first | (have _t := S1; clear _t; go_at_call 85; refine (HP2.out _ (S1.out).dd).mono ?_; rintro e w2 ⟨rfl, hD2, hu⟩; have S2 := Yh_ ((S1.out).step hD2 hu); clear hD2 hu S1) | (have _t := S2; clear _t; refine Ye 42 rfl ?_; refine Yb i w.heap.size rfl _ _ rfl rfl rfl (S2.out).rr rfl ?_; intro w3 hw; have S3 := Yh_ ((S2.out).store HD.out rfl hw); clear hw S2))
 exact bodyPost_ret (Yj rfl (Yi 4 w.heap.size _ rfl S3.out.rr)) rfl ⟨rfl, S3.out.dd, S3.out.uu⟩
theorem Yps (d g k : Nat) (v : Value) (L : List Int) (w : World) (hD : Yd w d v L g k) (e : Int) (h : Yaz L 1 false k = .err e) :
  Calls Tryz.prog 71 #[.pointer (some ⟨d, 0, none⟩), .int .u8 137] w (Yp d v L g w (.err e) Ins.val) := by
 have HD := Yh_ hD
 have S1 := Yh_ (RS.start hD)
 have HP2 := Yh_ (fun (w1 : World) (hd1 : Yd w1 d v L g k) => by have := Yb8 d g k v L 1 false w1 hd1; rw [h] at this; exact this)
 clear hD h
 go_enter Tryz.func71, Tryz.ntmps71
 go_wp2_with (have _t := S1; clear _t; go_at_call 85; refine (HP2.out _ (S1.out).dd).mono ?_; rintro e w2 ⟨rfl, hu⟩)
 exact ⟨rfl, rfl, (S1.out).uu.also hu (by simp)⟩
theorem Yp7 (d g k : Nat) (v : Value) (L : List Int) (w : World) (hD : Yd w d v L g k) (i : Ins) (k1 : Nat) (h : Yaz L 1 false k = .ok i k1) :
  Calls Tryz.prog 71 #[.pointer (some ⟨d, 0, none⟩), .int .u8 137] w (Yp d v L g w (.ok i k1) Ins.val) := by
 have HD := Yh_ hD
 have S1 := Yh_ (RS.start hD)
 have HP2 := Yh_ (fun (w1 : World) (hd1 : Yd w1 d v L g k) => by have := Yb8 d g k v L 1 false w1 hd1; rw [h] at this; exact this)
 clear hD h
 go_enter Tryz.func71, Tryz.ntmps71
 go_wp2_with (first | (have _t := S1; clear _t; go_at_call 85; refine (HP2.out _ (S1.out).dd).mono ?_; rintro e w2 ⟨rfl, hD2, hu⟩; have S2 := Yh_ ((S1.out).step hD2 hu); clear hD2 hu S1) | (have _t := S2; clear _t; refine Ye 42 rfl ?_; refine Yb i w.heap.size rfl _ _ rfl rfl rfl (S2.out).rr rfl ?_; intro w3 hw; have S3 := Yh_ ((S2.out).store HD.out rfl hw); clear hw S2))
 exact bodyPost_ret (Yj rfl (Yi 4 w.heap.size _ rfl S3.out.rr)) rfl ⟨rfl, S3.out.dd, S3.out.uu⟩
theorem Ypg (d g k : Nat) (v : Value) (L : List Int) (w : World) (hD : Yd w d v L g k) (e : Int) (h : Yaz L 1 true k = .err e) :
  Calls Tryz.prog 71 #[.pointer (some ⟨d, 0, none⟩), .int .u8 139] w (Yp d v L g w (.err e) Ins.val) := by
 have HD := Yh_ hD
 have S1 := Yh_ (RS.start hD)
 have HP2 := Yh_ (fun (w1 : World) (hd1 : Yd w1 d v L g k) => by have := Yb8 d g k v L 1 true w1 hd1; rw [h] at this; exact this)
 clear hD h
 go_enter Tryz.func71, Tryz.ntmps71
 go_wp2_with (have _t := S1; clear _t; go_at_call 85; refine (HP2.out _ (S1.out).dd).mono ?_; rintro e w2 ⟨rfl, hu⟩)
 exact ⟨rfl, rfl, (S1.out).uu.also hu (by simp)⟩
theorem Yox (d g k : Nat) (v : Value) (L : List Int) (w : World) (hD : Yd w d v L g k) (i : Ins) (k1 : Nat) (h : Yaz L 1 true k = .ok i k1) :
  Calls Tryz.prog 71 #[.pointer (some ⟨d, 0, none⟩), .int .u8 139] w (Yp d v L g w (.ok i k1) Ins.val) := by
 have HD := Yh_ hD
 have S1 := Yh_ (RS.start hD)
 have HP2 := Yh_ (fun (w1 : World) (hd1 : Yd w1 d v L g k) => by have := Yb8 d g k v L 1 true w1 hd1; rw [h] at this; exact this)
 clear hD h
 go_enter Tryz.func71, Tryz.ntmps71
 go_wp2_with (first | (have _t := S1; clear _t; go_at_call 85; refine (HP2.out _ (S1.out).dd).mono ?_; rintro e w2 ⟨rfl, hD2, hu⟩; have S2 := Yh_ ((S1.out).step hD2 hu); clear hD2 hu S1) | (have _t := S2; clear _t; refine Ye 42 rfl ?_; refine Yb i w.heap.size rfl _ _ rfl rfl rfl (S2.out).rr rfl ?_; intro w3 hw; have S3 := Yh_ ((S2.out).store HD.out rfl hw); clear hw S2))
 exact bodyPost_ret (Yj rfl (Yi 4 w.heap.size _ rfl S3.out.rr)) rfl ⟨rfl, S3.out.dd, S3.out.uu⟩
theorem Yp2 (d g k : Nat) (v : Value) (L : List Int) (w : World) (hD : Yd w d v L g k) (e : Int) (h : Yhq L k = .err e) :
  Calls Tryz.prog 71 #[.pointer (some ⟨d, 0, none⟩), .int .u8 141] w (Yp d v L g w (.err e) Ins.val) := by
 have HD := Yh_ hD
 have S1 := Yh_ (RS.start hD)
 have HP2 := Yh_ (fun (w1 : World) (hd1 : Yd w1 d v L g k) => by have := Yrh d g k v L w1 hd1; rw [h] at this; exact this)
 clear hD h
 go_enter Tryz.func71, Tryz.ntmps71
 go_wp2_with (have _t := S1; clear _t; go_at_call 91; refine (HP2.out _ (S1.out).dd).mono ?_; rintro e w2 ⟨rfl, hu⟩)
 exact ⟨rfl, rfl, (S1.out).uu.also hu (by simp)⟩
theorem Yqj (d g k : Nat) (v : Value) (L : List Int) (w : World) (hD : Yd w d v L g k) (i : Ins) (k1 : Nat) (h : Yhq L k = .ok i k1) :
  Calls Tryz.prog 71 #[.pointer (some ⟨d, 0, none⟩), .int .u8 141] w (Yp d v L g w (.ok i k1) Ins.val) := by
 have HD := Yh_ hD
 have S1 := Yh_ (RS.start hD)
 have HP2 := Yh_ (fun (w1 : World) (hd1 : Yd w1 d v L g k) => by have := Yrh d g k v L w1 hd1; rw [h] at this; exact this)
 clear hD h
 go_enter Tryz.func71, Tryz.ntmps71
 go_wp2_with (first | (have _t := S1; clear _t; go_at_call 91; refine (HP2.out _ (S1.out).dd).mono ?_; rintro e w2 ⟨rfl, hD2, hu⟩; have S2 := Yh_ ((S1.out).step hD2 hu); clear hD2 hu S1) | (have _t := S2; clear _t; refine Ye 42 rfl ?_; refine Yb i w.heap.size rfl _ _ rfl rfl rfl (S2.out).rr rfl ?_; intro w3 hw; have S3 := Yh_ ((S2.out).store HD.out rfl hw); clear hw S2))
 exact bodyPost_ret (Yj rfl (Yi 4 w.heap.size _ rfl S3.out.rr)) rfl ⟨rfl, S3.out.dd, S3.out.uu⟩
theorem Ypr (d g k : Nat) (v : Value) (L : List Int) (w : World) (hD : Yd w d v L g k) (e : Int) (h : Yas L k = .err e) :
  Calls Tryz.prog 71 #[.pointer (some ⟨d, 0, none⟩), .int .u8 169] w (Yp d v L g w (.err e) Ins.val) := by
 have HD := Yh_ hD
 have S1 := Yh_ (RS.start hD)
 have HP3 := Yh_ (fun (w1 : World) (hd1 : Yd w1 d v L g k) => by have := Yb4 d g k v L w1 hd1; rw [h] at this; exact this)
 clear hD h
 go_enter Tryz.func71, Tryz.ntmps71
 go_wp2_with (first | (have _t := S1; clear _t; go_at_call 67; refine (Ycj 0 _).mono ?_; rintro e w2 ⟨rfl, hu⟩; unfold Opd.val Yn; have S2 := Yh_ ((S1.out).same hu); clear hu S1) | (have _t := S2; clear _t; go_at_call 70; refine (HP3.out _ (S2.out).dd).mono ?_; rintro e w3 ⟨rfl, hu⟩))
 exact ⟨rfl, rfl, (S2.out).uu.also hu (by simp)⟩
theorem Yqr (d g k : Nat) (v : Value) (L : List Int) (w : World) (hD : Yd w d v L g k) (o : Opd) (k1 : Nat) (h : Yas L k = .ok o k1) :
  Calls Tryz.prog 71 #[.pointer (some ⟨d, 0, none⟩), .int .u8 169] w (Yp d v L g w (.ok ⟨11, 0, Yn 0, o, false, 0⟩ k1) Ins.val) := by
 have HD := Yh_ hD
 have S1 := Yh_ (RS.start hD)
 have HP3 := Yh_ (fun (w1 : World) (hd1 : Yd w1 d v L g k) => by have := Yb4 d g k v L w1 hd1; rw [h] at this; exact this)
 clear hD h
 go_enter Tryz.func71, Tryz.ntmps71
 go_wp2_with (first | (have _t := S1; clear _t; go_at_call 67; refine (Ycj 0 _).mono ?_; rintro e w2 ⟨rfl, hu⟩; unfold Opd.val Yn; have S2 := Yh_ ((S1.out).same hu); clear hu S1) | (have _t := S2; clear _t; go_at_call 70; refine (HP3.out _ (S2.out).dd).mono ?_; rintro e w3 ⟨rfl, hD3, hu⟩; unfold Opd.val; have S3 := Yh_ ((S2.out).step hD3 hu); clear hD3 hu S2) | (have _t := S3; clear _t; refine Ye 42 rfl ?_; refine Yb ⟨11, 0, Yn 0, o, false, 0⟩ w.heap.size rfl _ _ rfl rfl rfl (S3.out).rr rfl ?_; intro w4 hw; have S4 := Yh_ ((S3.out).store HD.out rfl hw); clear hw S3))
 exact bodyPost_ret (Yj rfl (Yi 4 w.heap.size _ rfl S4.out.rr)) rfl ⟨rfl, S4.out.dd, S4.out.uu⟩
theorem Yp4 (d g k : Nat) (v : Value) (L : List Int) (w : World) (hD : Yd w d v L g k) (e : Int) (h : Yea L 198 k = .err e) :
  Calls Tryz.prog 71 #[.pointer (some ⟨d, 0, none⟩), .int .u8 198] w (Yp d v L g w (.err e) Ins.val) := by
 have HD := Yh_ hD
 have S1 := Yh_ (RS.start hD)
 have HP2 := Yh_ (fun (w1 : World) (hd1 : Yd w1 d v L g k) => by have := Yit d g k v L 198 w1 hd1; rw [h] at this; exact this)
 clear hD h
 go_enter Tryz.func71, Tryz.ntmps71
 go_wp2_with (have _t := S1; clear _t; go_at_call 92; refine (HP2.out _ (S1.out).dd).mono ?_; rintro e w2 ⟨rfl, hu⟩)
 exact ⟨rfl, rfl, (S1.out).uu.also hu (by simp)⟩
theorem Yql (d g k : Nat) (v : Value) (L : List Int) (w : World) (hD : Yd w d v L g k) (i : Ins) (k1 : Nat) (h : Yea L 198 k = .ok i k1) :
  Calls Tryz.prog 71 #[.pointer (some ⟨d, 0, none⟩), .int .u8 198] w (Yp d v L g w (.ok i k1) Ins.val) := by
 have HD := Yh_ hD
 have S1 := Yh_ (RS.start hD)
 have HP2 := Yh_ (fun (w1 : World) (hd1 : Yd w1 d v L g k) => by have := Yit d g k v L 198 w1 hd1; rw [h] at this; exact this)
 clear hD h
 go_enter Tryz.func71, Tryz.ntmps71
 go_wp2_with (first | (have _t := S1; clear _t; go_at_call 92; refine (HP2.out _ (S1.out).dd).mono ?_; rintro e w2 ⟨rfl, hD2, hu⟩; have S2 := Yh_ ((S1.out).step hD2 hu); clear hD2 hu S1) | (have _t := S2; clear _t; refine Ye 42 rfl ?_; refine Yb i w.heap.size rfl _ _ rfl rfl rfl (S2.out).rr rfl ?_; intro w3 hw; have S3 := Yh_ ((S2.out).store HD.out rfl hw); clear hw S2))
 exact bodyPost_ret (Yj rfl (Yi 4 w.heap.size _ rfl S3.out.rr)) rfl ⟨rfl, S3.out.dd, S3.out.uu⟩
theorem Yp8 (d g k : Nat) (v : Value) (L : List Int) (w : World) (hD : Yd w d v L g k) (e : Int) (h : Yea L 199 k = .err e) :
  Calls Tryz.prog 71 #[.pointer (some ⟨d, 0, none⟩), .int .u8 199] w (Yp d v L g w (.err e) Ins.val) := by
 have HD := Yh_ hD
 have S1 := Yh_ (RS.start hD)
 have HP2 := Yh_ (fun (w1 : World) (hd1 : Yd w1 d v L g k) => by have := Yit d g k v L 199 w1 hd1; rw [h] at this; exact this)
 clear hD h
 go_enter Tryz.func71, Tryz.ntmps71
 go_wp2_with (have _t := S1; clear _t; go_at_call 92; refine (HP2.out _ (S1.out).dd).mono ?_; rintro e w2 ⟨rfl, hu⟩)
 exact ⟨rfl, rfl, (S1.out).uu.also hu (by simp)⟩
theorem Yqk (d g k : Nat) (v : Value) (L : List Int) (w : World) (hD : Yd w d v L g k) (i : Ins) (k1 : Nat) (h : Yea L 199 k = .ok i k1) :
  Calls Tryz.prog 71 #[.pointer (some ⟨d, 0, none⟩), .int .u8 199] w (Yp d v L g w (.ok i k1) Ins.val) := by
 have HD := Yh_ hD
 have S1 := Yh_ (RS.start hD)
 have HP2 := Yh_ (fun (w1 : World) (hd1 : Yd w1 d v L g k) => by have := Yit d g k v L 199 w1 hd1; rw [h] at this; exact this)
 clear hD h
 go_enter Tryz.func71, Tryz.ntmps71
 go_wp2_with (first | (have _t := S1; clear _t; go_at_call 92; refine (HP2.out _ (S1.out).dd).mono ?_; rintro e w2 ⟨rfl, hD2, hu⟩; have S2 := Yh_ ((S1.out).step hD2 hu); clear hD2 hu S1) | (have _t := S2; clear _t; refine Ye 42 rfl ?_; refine Yb i w.heap.size rfl _ _ rfl rfl rfl (S2.out).rr rfl ?_; intro w3 hw; have S3 := Yh_ ((S2.out).store HD.out rfl hw); clear hw S2))
 exact bodyPost_ret (Yj rfl (Yi 4 w.heap.size _ rfl S3.out.rr)) rfl ⟨rfl, S3.out.dd, S3.out.uu⟩
theorem Yqz (d g k : Nat) (v : Value) (L : List Int) (w : World) (hD : Yd w d v L g k) (c : Int) (hc0 : 0 ≤ c) (hc1 : c ≤ 255) (h104 : c ≠ 104) (h106 : c ≠ 106) (h129 : c ≠ 129) (h131 : c ≠ 131) (h133 : c ≠ 133) (h135 : c ≠ 135) (h136 : c ≠ 136) (h138 : c ≠ 138) (h137 : c ≠ 137) (h139 : c ≠ 139) (h141 : c ≠ 141) (h169 : c ≠ 169) (h198 : c ≠ 198) (h199 : c ≠ 199) (e : Int) (h : Ycg L c k = .err e) :
  Calls Tryz.prog 71 #[.pointer (some ⟨d, 0, none⟩), .int .u8 c] w (Yp d v L g w (.err e) Ins.val) := by
 have HD := Yh_ hD
 have S1 := Yh_ (RS.start hD)
 have e104 : (c == 104) = false := by simpa using h104
 have e106 : (c == 106) = false := by simpa using h106
 have e129 : (c == 129) = false := by simpa using h129
 have e131 : (c == 131) = false := by simpa using h131
 have e133 : (c == 133) = false := by simpa using h133
 have e135 : (c == 135) = false := by simpa using h135
 have e136 : (c == 136) = false := by simpa using h136
 have e138 : (c == 138) = false := by simpa using h138
 have e137 : (c == 137) = false := by simpa using h137
 have e139 : (c == 139) = false := by simpa using h139
 have e141 : (c == 141) = false := by simpa using h141
 have e169 : (c == 169) = false := by simpa using h169
 have e198 : (c == 198) = false := by simpa using h198
 have e199 : (c == 199) = false := by simpa using h199
 have HP2 := Yh_ (fun (w1 : World) (hd1 : Yd w1 d v L g k) => by have := Ymi d g k v L c w1 hd1 hc0 hc1; rw [h] at this; exact this)
 clear hD h104 h106 h129 h131 h133 h135 h136 h138 h137 h139 h141 h169 h198 h199 h
 go_enter Tryz.func71, Tryz.ntmps71
 go_wp2_with (have _t := S1; clear _t; go_at_call 93; refine (HP2.out _ (S1.out).dd).mono ?_; rintro e w2 ⟨rfl, hu⟩)
 exact ⟨rfl, rfl, (S1.out).uu.also hu (by simp)⟩
theorem Yqg (d g k : Nat) (v : Value) (L : List Int) (w : World) (hD : Yd w d v L g k) (c : Int) (hc0 : 0 ≤ c) (hc1 : c ≤ 255) (h104 : c ≠ 104) (h106 : c ≠ 106) (h129 : c ≠ 129) (h131 : c ≠ 131) (h133 : c ≠ 133) (h135 : c ≠ 135) (h136 : c ≠ 136) (h138 : c ≠ 138) (h137 : c ≠ 137) (h139 : c ≠ 139) (h141 : c ≠ 141) (h169 : c ≠ 169) (h198 : c ≠ 198) (h199 : c ≠ 199) (i : Ins) (k1 : Nat) (h : Ycg L c k = .ok i k1) :
  Calls Tryz.prog 71 #[.pointer (some ⟨d, 0, none⟩), .int .u8 c] w (Yp d v L g w (.ok i k1) Ins.val) := by
 have HD := Yh_ hD
 have S1 := Yh_ (RS.start hD)
 have e104 : (c == 104) = false := by simpa using h104
 have e106 : (c == 106) = false := by simpa using h106
 have e129 : (c == 129) = false := by simpa using h129
 have e131 : (c == 131) = false := by simpa using h131
 have e133 : (c == 133) = false := by simpa using h133
 have e135 : (c == 135) = false := by simpa using h135
 have e136 : (c == 136) = false := by simpa using h136
 have e138 : (c == 138) = false := by simpa using h138
 have e137 : (c == 137) = false := by simpa using h137
 have e139 : (c == 139) = false := by simpa using h139
 have e141 : (c == 141) = false := by simpa using h141
 have e169 : (c == 169) = false := by simpa using h169
 have e198 : (c == 198) = false := by simpa using h198
 have e199 : (c == 199) = false := by simpa using h199
 have HP2 := Yh_ (fun (w1 : World) (hd1 : Yd w1 d v L g k) => by have := Ymi d g k v L c w1 hd1 hc0 hc1; rw [h] at this; exact this)
 clear hD h104 h106 h129 h131 h133 h135 h136 h138 h137 h139 h141 h169 h198 h199 h
 go_enter Tryz.func71, Tryz.ntmps71
 go_wp2_with (first | (have _t := S1; clear _t; go_at_call 93; refine (HP2.out _ (S1.out).dd).mono ?_; rintro e w2 ⟨rfl, hD2, hu⟩; have S2 := Yh_ ((S1.out).step hD2 hu); clear hD2 hu S1) | (have _t := S2; clear _t; refine Ye 42 rfl ?_; refine Yb i w.heap.size rfl _ _ rfl rfl rfl (S2.out).rr rfl ?_; intro w3 hw; have S3 := Yh_ ((S2.out).store HD.out rfl hw); clear hw S2))
 exact bodyPost_ret (Yj rfl (Yi 4 w.heap.size _ rfl S3.out.rr)) rfl ⟨rfl, S3.out.dd, S3.out.uu⟩
theorem Yge (d g k : Nat) (v : Value) (L : List Int) (c : Int) (w : World) (hD : Yd w d v L g k) (hc0 : 0 ≤ c) (hc1 : c ≤ 255) :
  Calls Tryz.prog 71 #[.pointer (some ⟨d, 0, none⟩), .int .u8 c] w (Yp d v L g w (Ya2 L c k) Ins.val) := by
 by_cases h104 : c = 104
 ·subst h104
  have e : Ya2 L 104 k = ((Yas L k).bind fun o k => .ok ⟨28, 0, o, Opd.none, false, 0⟩ k) := rfl
  rw [e]
  cases h : Yas L k with
  |err e => exact Ypt d g k v L w hD e h
  |ok o k1 => exact Yq3 d g k v L w hD o k1 h
 by_cases h106 : c = 106
 ·subst h106
  have e : Ya2 L 106 k = ((Yce L k).bind fun o k => .ok ⟨28, 0, o, Opd.none, false, 0⟩ k) := rfl
  rw [e]
  cases h : Yce L k with
  |err e => exact Ypb d g k v L w hD e h
  |ok o k1 => exact Yoy d g k v L w hD o k1 h
 by_cases h129 : c = 129
 ·subst h129
  have e : Ya2 L 129 k = (Ya2 L 129 k) := rfl
  rw [e]
  exact mv81_any d g k v L w hD
 by_cases h131 : c = 131
 ·subst h131
  have e : Ya2 L 131 k = (Ya2 L 131 k) := rfl
  rw [e]
  exact mv83_any d g k v L w hD
 by_cases h133 : c = 133
 ·subst h133
  have e : Ya2 L 133 k = (Yaz L 11 false k) := rfl
  rw [e]
  cases h : Yaz L 11 false k with
  |err e => exact Yo7 d g k v L w hD e h
  |ok i k1 => exact Yo8 d g k v L w hD i k1 h
 by_cases h135 : c = 135
 ·subst h135
  have e : Ya2 L 135 k = (Yaz L 27 false k) := rfl
  rw [e]
  cases h : Yaz L 27 false k with
  |err e => exact Yqb d g k v L w hD e h
  |ok i k1 => exact Yp0 d g k v L w hD i k1 h
 by_cases h136 : c = 136
 ·subst h136
  have e : Ya2 L 136 k = (Yaz L 2 false k) := rfl
  rw [e]
  cases h : Yaz L 2 false k with
  |err e => exact Yqi d g k v L w hD e h
  |ok i k1 => exact Ypk d g k v L w hD i k1 h
 by_cases h138 : c = 138
 ·subst h138
  have e : Ya2 L 138 k = (Yaz L 2 true k) := rfl
  rw [e]
  cases h : Yaz L 2 true k with
  |err e => exact Ypj d g k v L w hD e h
  |ok i k1 => exact Yo3 d g k v L w hD i k1 h
 by_cases h137 : c = 137
 ·subst h137
  have e : Ya2 L 137 k = (Yaz L 1 false k) := rfl
  rw [e]
  cases h : Yaz L 1 false k with
  |err e => exact Yps d g k v L w hD e h
  |ok i k1 => exact Yp7 d g k v L w hD i k1 h
 by_cases h139 : c = 139
 ·subst h139
  have e : Ya2 L 139 k = (Yaz L 1 true k) := rfl
  rw [e]
  cases h : Yaz L 1 true k with
  |err e => exact Ypg d g k v L w hD e h
  |ok i k1 => exact Yox d g k v L w hD i k1 h
 by_cases h141 : c = 141
 ·subst h141
  have e : Ya2 L 141 k = (Yhq L k) := rfl
  rw [e]
  cases h : Yhq L k with
  |err e => exact Yp2 d g k v L w hD e h
  |ok i k1 => exact Yqj d g k v L w hD i k1 h
 by_cases h169 : c = 169
 ·subst h169
  have e : Ya2 L 169 k = ((Yas L k).bind fun o k => .ok ⟨11, 0, Yn 0, o, false, 0⟩ k) := rfl
  rw [e]
  cases h : Yas L k with
  |err e => exact Ypr d g k v L w hD e h
  |ok o k1 => exact Yqr d g k v L w hD o k1 h
 by_cases h198 : c = 198
 ·subst h198
  have e : Ya2 L 198 k = (Yea L 198 k) := rfl
  rw [e]
  cases h : Yea L 198 k with
  |err e => exact Yp4 d g k v L w hD e h
  |ok i k1 => exact Yql d g k v L w hD i k1 h
 by_cases h199 : c = 199
 ·subst h199
  have e : Ya2 L 199 k = (Yea L 199 k) := rfl
  rw [e]
  cases h : Yea L 199 k with
  |err e => exact Yp8 d g k v L w hD e h
  |ok i k1 => exact Yqk d g k v L w hD i k1 h
 have e : Ya2 L c k = Ycg L c k := by simp [Ya2, h104, h106, h129, h131, h133, h135, h136, h138, h137, h139, h141, h169, h198, h199]
 rw [e]
 cases h : Ycg L c k with
 |err e => exact Yqz d g k v L w hD c hc0 hc1 h104 h106 h129 h131 h133 h135 h136 h138 h137 h139 h141 h169 h198 h199 e h
 |ok i k1 => exact Yqg d g k v L w hD c hc0 hc1 h104 h106 h129 h131 h133 h135 h136 h138 h137 h139 h141 h169 h198 h199 i k1 h
end Go.Proofs.YteiplidhkelkbaaGreat
