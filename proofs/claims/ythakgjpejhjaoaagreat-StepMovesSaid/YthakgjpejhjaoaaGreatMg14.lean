/-
  Parts of the proof (their names shortened by a program). No condition.
-/
import Derived.Test.YthakgjpejhjaoaaGreatMg01
import Derived.Test.YthakgjpejhjaoaaGreatMg13
namespace Go.Proofs.YthakgjpejhjaoaaGreat
open Go Go.RowKit
set_option linter.unusedVariables false
set_option linter.unusedSimpArgs false
set_option maxRecDepth 100000
set_option maxHeartbeats 16000000
theorem Ym3 (d g k : Nat) (v : Value) (L : List Int) (w : World) (hD : Yc w d v L g k) (e : Int) (h : Yak L k = .err e) :
  Calls Tryz.prog 93 #[.pointer (some ⟨d, 0, none⟩), .int .u8 104] w (Yl d v L g w (.err e) Ins.val) := by
 have HD := Yh_ hD
 have S1 := Yh_ (RS.start hD)
 have HP2 := Yh_ (fun (w1 : World) (hd1 : Yc w1 d v L g k) => by have := Ybo d g k v L w1 hd1; rw [h] at this; exact this)
 clear hD h
 go_enter Tryz.func93, Tryz.ntmps93
 go_wp2_with (have _t := S1; clear _t; go_at_call 92; refine (HP2.out _ (S1.out).dd).mono ?_; rintro e w2 ⟨rfl, hu⟩)
 exact ⟨rfl, rfl, (S1.out).uu.also hu (by simp)⟩
theorem Ymu (d g k : Nat) (v : Value) (L : List Int) (w : World) (hD : Yc w d v L g k) (o : Opd) (k1 : Nat) (h : Yak L k = .ok o k1) :
  Calls Tryz.prog 93 #[.pointer (some ⟨d, 0, none⟩), .int .u8 104] w (Yl d v L g w (.ok ⟨28, 0, o, Opd.none, false, 0⟩ k1) Ins.val) := by
 have HD := Yh_ hD
 have S1 := Yh_ (RS.start hD)
 have HP2 := Yh_ (fun (w1 : World) (hd1 : Yc w1 d v L g k) => by have := Ybo d g k v L w1 hd1; rw [h] at this; exact this)
 clear hD h
 go_enter Tryz.func93, Tryz.ntmps93
 go_wp2_with (first | (have _t := S1; clear _t; go_at_call 92; refine (HP2.out _ (S1.out).dd).mono ?_; rintro e w2 ⟨rfl, hD2, hu⟩; unfold Opd.val; have S2 := Yh_ ((S1.out).step hD2 hu); clear hD2 hu S1) | (have _t := S2; clear _t; refine Ye 41 rfl ?_; refine Yd ⟨28, 0, o, Opd.none, false, 0⟩ w.heap.size rfl _ _ rfl rfl rfl (S2.out).rr rfl ?_; intro w3 hw; have S3 := Yh_ ((S2.out).store HD.out rfl hw); clear hw S2))
 exact bodyPost_ret (Yf rfl (Ys 4 w.heap.size _ rfl S3.out.rr)) rfl ⟨rfl, S3.out.dd, S3.out.uu⟩
theorem Ynk (d g k : Nat) (v : Value) (L : List Int) (w : World) (hD : Yc w d v L g k) (e : Int) (h : Yb5 L k = .err e) :
  Calls Tryz.prog 93 #[.pointer (some ⟨d, 0, none⟩), .int .u8 106] w (Yl d v L g w (.err e) Ins.val) := by
 have HD := Yh_ hD
 have S1 := Yh_ (RS.start hD)
 have HP2 := Yh_ (fun (w1 : World) (hd1 : Yc w1 d v L g k) => by have := Ydx d g k v L w1 hd1; rw [h] at this; exact this)
 clear hD h
 go_enter Tryz.func93, Tryz.ntmps93
 go_wp2_with (have _t := S1; clear _t; go_at_call 90; refine (HP2.out _ (S1.out).dd).mono ?_; rintro e w2 ⟨rfl, hu⟩)
 exact ⟨rfl, rfl, (S1.out).uu.also hu (by simp)⟩
theorem Yms (d g k : Nat) (v : Value) (L : List Int) (w : World) (hD : Yc w d v L g k) (o : Opd) (k1 : Nat) (h : Yb5 L k = .ok o k1) :
  Calls Tryz.prog 93 #[.pointer (some ⟨d, 0, none⟩), .int .u8 106] w (Yl d v L g w (.ok ⟨28, 0, o, Opd.none, false, 0⟩ k1) Ins.val) := by
 have HD := Yh_ hD
 have S1 := Yh_ (RS.start hD)
 have HP2 := Yh_ (fun (w1 : World) (hd1 : Yc w1 d v L g k) => by have := Ydx d g k v L w1 hd1; rw [h] at this; exact this)
 clear hD h
 go_enter Tryz.func93, Tryz.ntmps93
 go_wp2_with (first | (have _t := S1; clear _t; go_at_call 90; refine (HP2.out _ (S1.out).dd).mono ?_; rintro e w2 ⟨rfl, hD2, hu⟩; unfold Opd.val; have S2 := Yh_ ((S1.out).step hD2 hu); clear hD2 hu S1) | (have _t := S2; clear _t; refine Ye 41 rfl ?_; refine Yd ⟨28, 0, o, Opd.none, false, 0⟩ w.heap.size rfl _ _ rfl rfl rfl (S2.out).rr rfl ?_; intro w3 hw; have S3 := Yh_ ((S2.out).store HD.out rfl hw); clear hw S2))
 exact bodyPost_ret (Yf rfl (Ys 4 w.heap.size _ rfl S3.out.rr)) rfl ⟨rfl, S3.out.dd, S3.out.uu⟩
theorem Ymt (d g k : Nat) (v : Value) (L : List Int) (w : World) (hD : Yc w d v L g k) (e : Int) (h : Yat L 11 false k = .err e) :
  Calls Tryz.prog 93 #[.pointer (some ⟨d, 0, none⟩), .int .u8 133] w (Yl d v L g w (.err e) Ins.val) := by
 have HD := Yh_ hD
 have S1 := Yh_ (RS.start hD)
 have HP2 := Yh_ (fun (w1 : World) (hd1 : Yc w1 d v L g k) => by have := Ybq d g k v L 11 false w1 hd1; rw [h] at this; exact this)
 clear hD h
 go_enter Tryz.func93, Tryz.ntmps93
 go_wp2_with (have _t := S1; clear _t; go_at_call 120; refine (HP2.out _ (S1.out).dd).mono ?_; rintro e w2 ⟨rfl, hu⟩)
 exact ⟨rfl, rfl, (S1.out).uu.also hu (by simp)⟩
theorem Ym4 (d g k : Nat) (v : Value) (L : List Int) (w : World) (hD : Yc w d v L g k) (i : Ins) (k1 : Nat) (h : Yat L 11 false k = .ok i k1) :
  Calls Tryz.prog 93 #[.pointer (some ⟨d, 0, none⟩), .int .u8 133] w (Yl d v L g w (.ok i k1) Ins.val) := by
 have HD := Yh_ hD
 have S1 := Yh_ (RS.start hD)
 have HP2 := Yh_ (fun (w1 : World) (hd1 : Yc w1 d v L g k) => by have := Ybq d g k v L 11 false w1 hd1; rw [h] at this; exact this)
 clear hD h
 go_enter Tryz.func93, Tryz.ntmps93
 go_wp2_with (first | (have _t := S1; clear _t; go_at_call 120; refine (HP2.out _ (S1.out).dd).mono ?_; rintro e w2 ⟨rfl, hD2, hu⟩; have S2 := Yh_ ((S1.out).step hD2 hu); clear hD2 hu S1) | (have _t := S2; clear _t; refine Ye 41 rfl ?_; refine Yd i w.heap.size rfl _ _ rfl rfl rfl (S2.out).rr rfl ?_; intro w3 hw; have S3 := Yh_ ((S2.out).store HD.out rfl hw); clear hw S2))
 exact bodyPost_ret (Yf rfl (Ys 4 w.heap.size _ rfl S3.out.rr)) rfl ⟨rfl, S3.out.dd, S3.out.uu⟩
theorem Ynr (d g k : Nat) (v : Value) (L : List Int) (w : World) (hD : Yc w d v L g k) (e : Int) (h : Yat L 27 false k = .err e) :
  Calls Tryz.prog 93 #[.pointer (some ⟨d, 0, none⟩), .int .u8 135] w (Yl d v L g w (.err e) Ins.val) := by
 have HD := Yh_ hD
 have S1 := Yh_ (RS.start hD)
 have HP2 := Yh_ (fun (w1 : World) (hd1 : Yc w1 d v L g k) => by have := Ybq d g k v L 27 false w1 hd1; rw [h] at this; exact this)
 clear hD h
 go_enter Tryz.func93, Tryz.ntmps93
 go_wp2_with (have _t := S1; clear _t; go_at_call 120; refine (HP2.out _ (S1.out).dd).mono ?_; rintro e w2 ⟨rfl, hu⟩)
 exact ⟨rfl, rfl, (S1.out).uu.also hu (by simp)⟩
theorem Ymy (d g k : Nat) (v : Value) (L : List Int) (w : World) (hD : Yc w d v L g k) (i : Ins) (k1 : Nat) (h : Yat L 27 false k = .ok i k1) :
  Calls Tryz.prog 93 #[.pointer (some ⟨d, 0, none⟩), .int .u8 135] w (Yl d v L g w (.ok i k1) Ins.val) := by
 have HD := Yh_ hD
 have S1 := Yh_ (RS.start hD)
 have HP2 := Yh_ (fun (w1 : World) (hd1 : Yc w1 d v L g k) => by have := Ybq d g k v L 27 false w1 hd1; rw [h] at this; exact this)
 clear hD h
 go_enter Tryz.func93, Tryz.ntmps93
 go_wp2_with (first | (have _t := S1; clear _t; go_at_call 120; refine (HP2.out _ (S1.out).dd).mono ?_; rintro e w2 ⟨rfl, hD2, hu⟩; have S2 := Yh_ ((S1.out).step hD2 hu); clear hD2 hu S1) | (have _t := S2; clear _t; refine Ye 41 rfl ?_; refine Yd i w.heap.size rfl _ _ rfl rfl rfl (S2.out).rr rfl ?_; intro w3 hw; have S3 := Yh_ ((S2.out).store HD.out rfl hw); clear hw S2))
 exact bodyPost_ret (Yf rfl (Ys 4 w.heap.size _ rfl S3.out.rr)) rfl ⟨rfl, S3.out.dd, S3.out.uu⟩
theorem Yl3 (d g k : Nat) (v : Value) (L : List Int) (w : World) (hD : Yc w d v L g k) (e : Int) (h : Yat L 2 false k = .err e) :
  Calls Tryz.prog 93 #[.pointer (some ⟨d, 0, none⟩), .int .u8 136] w (Yl d v L g w (.err e) Ins.val) := by
 have HD := Yh_ hD
 have S1 := Yh_ (RS.start hD)
 have HP2 := Yh_ (fun (w1 : World) (hd1 : Yc w1 d v L g k) => by have := Ybq d g k v L 2 false w1 hd1; rw [h] at this; exact this)
 clear hD h
 go_enter Tryz.func93, Tryz.ntmps93
 go_wp2_with (have _t := S1; clear _t; go_at_call 120; refine (HP2.out _ (S1.out).dd).mono ?_; rintro e w2 ⟨rfl, hu⟩)
 exact ⟨rfl, rfl, (S1.out).uu.also hu (by simp)⟩
theorem Ymc (d g k : Nat) (v : Value) (L : List Int) (w : World) (hD : Yc w d v L g k) (i : Ins) (k1 : Nat) (h : Yat L 2 false k = .ok i k1) :
  Calls Tryz.prog 93 #[.pointer (some ⟨d, 0, none⟩), .int .u8 136] w (Yl d v L g w (.ok i k1) Ins.val) := by
 have HD := Yh_ hD
 have S1 := Yh_ (RS.start hD)
 have HP2 := Yh_ (fun (w1 : World) (hd1 : Yc w1 d v L g k) => by have := Ybq d g k v L 2 false w1 hd1; rw [h] at this; exact this)
 clear hD h
 go_enter Tryz.func93, Tryz.ntmps93
 go_wp2_with (first | (have _t := S1; clear _t; go_at_call 120; refine (HP2.out _ (S1.out).dd).mono ?_; rintro e w2 ⟨rfl, hD2, hu⟩; have S2 := Yh_ ((S1.out).step hD2 hu); clear hD2 hu S1) | (have _t := S2; clear _t; refine Ye 41 rfl ?_; refine Yd i w.heap.size rfl _ _ rfl rfl rfl (S2.out).rr rfl ?_; intro w3 hw; have S3 := Yh_ ((S2.out).store HD.out rfl hw); clear hw S2))
 exact bodyPost_ret (Yf rfl (Ys 4 w.heap.size _ rfl S3.out.rr)) rfl ⟨rfl, S3.out.dd, S3.out.uu⟩
theorem Yn1 (d g k : Nat) (v : Value) (L : List Int) (w : World) (hD : Yc w d v L g k) (e : Int) (h : Yat L 2 true k = .err e) :
  Calls Tryz.prog 93 #[.pointer (some ⟨d, 0, none⟩), .int .u8 138] w (Yl d v L g w (.err e) Ins.val) := by
 have HD := Yh_ hD
 have S1 := Yh_ (RS.start hD)
 have HP2 := Yh_ (fun (w1 : World) (hd1 : Yc w1 d v L g k) => by have := Ybq d g k v L 2 true w1 hd1; rw [h] at this; exact this)
 clear hD h
 go_enter Tryz.func93, Tryz.ntmps93
 go_wp2_with (have _t := S1; clear _t; go_at_call 120; refine (HP2.out _ (S1.out).dd).mono ?_; rintro e w2 ⟨rfl, hu⟩)
 exact ⟨rfl, rfl, (S1.out).uu.also hu (by simp)⟩
theorem Ymo (d g k : Nat) (v : Value) (L : List Int) (w : World) (hD : Yc w d v L g k) (i : Ins) (k1 : Nat) (h : Yat L 2 true k = .ok i k1) :
  Calls Tryz.prog 93 #[.pointer (some ⟨d, 0, none⟩), .int .u8 138] w (Yl d v L g w (.ok i k1) Ins.val) := by
 have HD := Yh_ hD
 have S1 := Yh_ (RS.start hD)
 have HP2 := Yh_ (fun (w1 : World) (hd1 : Yc w1 d v L g k) => by have := Ybq d g k v L 2 true w1 hd1; rw [h] at this; exact this)
 clear hD h
 go_enter Tryz.func93, Tryz.ntmps93
 go_wp2_with (first | (have _t := S1; clear _t; go_at_call 120; refine (HP2.out _ (S1.out).dd).mono ?_; rintro e w2 ⟨rfl, hD2, hu⟩; have S2 := Yh_ ((S1.out).step hD2 hu); clear hD2 hu S1) | (have _t := S2; clear _t; refine Ye 41 rfl ?_; refine Yd i w.heap.size rfl _ _ rfl rfl rfl (S2.out).rr rfl ?_; intro w3 hw; have S3 := Yh_ ((S2.out).store HD.out rfl hw); clear hw S2))
 exact bodyPost_ret (Yf rfl (Ys 4 w.heap.size _ rfl S3.out.rr)) rfl ⟨rfl, S3.out.dd, S3.out.uu⟩
theorem Ymz (d g k : Nat) (v : Value) (L : List Int) (w : World) (hD : Yc w d v L g k) (e : Int) (h : Yat L 1 false k = .err e) :
  Calls Tryz.prog 93 #[.pointer (some ⟨d, 0, none⟩), .int .u8 137] w (Yl d v L g w (.err e) Ins.val) := by
 have HD := Yh_ hD
 have S1 := Yh_ (RS.start hD)
 have HP2 := Yh_ (fun (w1 : World) (hd1 : Yc w1 d v L g k) => by have := Ybq d g k v L 1 false w1 hd1; rw [h] at this; exact this)
 clear hD h
 go_enter Tryz.func93, Tryz.ntmps93
 go_wp2_with (have _t := S1; clear _t; go_at_call 120; refine (HP2.out _ (S1.out).dd).mono ?_; rintro e w2 ⟨rfl, hu⟩)
 exact ⟨rfl, rfl, (S1.out).uu.also hu (by simp)⟩
theorem Ym5 (d g k : Nat) (v : Value) (L : List Int) (w : World) (hD : Yc w d v L g k) (i : Ins) (k1 : Nat) (h : Yat L 1 false k = .ok i k1) :
  Calls Tryz.prog 93 #[.pointer (some ⟨d, 0, none⟩), .int .u8 137] w (Yl d v L g w (.ok i k1) Ins.val) := by
 have HD := Yh_ hD
 have S1 := Yh_ (RS.start hD)
 have HP2 := Yh_ (fun (w1 : World) (hd1 : Yc w1 d v L g k) => by have := Ybq d g k v L 1 false w1 hd1; rw [h] at this; exact this)
 clear hD h
 go_enter Tryz.func93, Tryz.ntmps93
 go_wp2_with (first | (have _t := S1; clear _t; go_at_call 120; refine (HP2.out _ (S1.out).dd).mono ?_; rintro e w2 ⟨rfl, hD2, hu⟩; have S2 := Yh_ ((S1.out).step hD2 hu); clear hD2 hu S1) | (have _t := S2; clear _t; refine Ye 41 rfl ?_; refine Yd i w.heap.size rfl _ _ rfl rfl rfl (S2.out).rr rfl ?_; intro w3 hw; have S3 := Yh_ ((S2.out).store HD.out rfl hw); clear hw S2))
 exact bodyPost_ret (Yf rfl (Ys 4 w.heap.size _ rfl S3.out.rr)) rfl ⟨rfl, S3.out.dd, S3.out.uu⟩
theorem Ymg (d g k : Nat) (v : Value) (L : List Int) (w : World) (hD : Yc w d v L g k) (e : Int) (h : Yat L 1 true k = .err e) :
  Calls Tryz.prog 93 #[.pointer (some ⟨d, 0, none⟩), .int .u8 139] w (Yl d v L g w (.err e) Ins.val) := by
 have HD := Yh_ hD
 have S1 := Yh_ (RS.start hD)
 have HP2 := Yh_ (fun (w1 : World) (hd1 : Yc w1 d v L g k) => by have := Ybq d g k v L 1 true w1 hd1; rw [h] at this; exact this)
 clear hD h
 go_enter Tryz.func93, Tryz.ntmps93
 go_wp2_with (have _t := S1; clear _t; go_at_call 120; refine (HP2.out _ (S1.out).dd).mono ?_; rintro e w2 ⟨rfl, hu⟩)
 exact ⟨rfl, rfl, (S1.out).uu.also hu (by simp)⟩
theorem Yne (d g k : Nat) (v : Value) (L : List Int) (w : World) (hD : Yc w d v L g k) (i : Ins) (k1 : Nat) (h : Yat L 1 true k = .ok i k1) :
  Calls Tryz.prog 93 #[.pointer (some ⟨d, 0, none⟩), .int .u8 139] w (Yl d v L g w (.ok i k1) Ins.val) := by
 have HD := Yh_ hD
 have S1 := Yh_ (RS.start hD)
 have HP2 := Yh_ (fun (w1 : World) (hd1 : Yc w1 d v L g k) => by have := Ybq d g k v L 1 true w1 hd1; rw [h] at this; exact this)
 clear hD h
 go_enter Tryz.func93, Tryz.ntmps93
 go_wp2_with (first | (have _t := S1; clear _t; go_at_call 120; refine (HP2.out _ (S1.out).dd).mono ?_; rintro e w2 ⟨rfl, hD2, hu⟩; have S2 := Yh_ ((S1.out).step hD2 hu); clear hD2 hu S1) | (have _t := S2; clear _t; refine Ye 41 rfl ?_; refine Yd i w.heap.size rfl _ _ rfl rfl rfl (S2.out).rr rfl ?_; intro w3 hw; have S3 := Yh_ ((S2.out).store HD.out rfl hw); clear hw S2))
 exact bodyPost_ret (Yf rfl (Ys 4 w.heap.size _ rfl S3.out.rr)) rfl ⟨rfl, S3.out.dd, S3.out.uu⟩
theorem Ynz (d g k : Nat) (v : Value) (L : List Int) (w : World) (hD : Yc w d v L g k) (e : Int) (h : Ygp L k = .err e) :
  Calls Tryz.prog 93 #[.pointer (some ⟨d, 0, none⟩), .int .u8 141] w (Yl d v L g w (.err e) Ins.val) := by
 have HD := Yh_ hD
 have S1 := Yh_ (RS.start hD)
 have HP2 := Yh_ (fun (w1 : World) (hd1 : Yc w1 d v L g k) => by have := Yn7 d g k v L w1 hd1; rw [h] at this; exact this)
 clear hD h
 go_enter Tryz.func93, Tryz.ntmps93
 go_wp2_with (have _t := S1; clear _t; go_at_call 125; refine (HP2.out _ (S1.out).dd).mono ?_; rintro e w2 ⟨rfl, hu⟩)
 exact ⟨rfl, rfl, (S1.out).uu.also hu (by simp)⟩
theorem Ynw (d g k : Nat) (v : Value) (L : List Int) (w : World) (hD : Yc w d v L g k) (i : Ins) (k1 : Nat) (h : Ygp L k = .ok i k1) :
  Calls Tryz.prog 93 #[.pointer (some ⟨d, 0, none⟩), .int .u8 141] w (Yl d v L g w (.ok i k1) Ins.val) := by
 have HD := Yh_ hD
 have S1 := Yh_ (RS.start hD)
 have HP2 := Yh_ (fun (w1 : World) (hd1 : Yc w1 d v L g k) => by have := Yn7 d g k v L w1 hd1; rw [h] at this; exact this)
 clear hD h
 go_enter Tryz.func93, Tryz.ntmps93
 go_wp2_with (first | (have _t := S1; clear _t; go_at_call 125; refine (HP2.out _ (S1.out).dd).mono ?_; rintro e w2 ⟨rfl, hD2, hu⟩; have S2 := Yh_ ((S1.out).step hD2 hu); clear hD2 hu S1) | (have _t := S2; clear _t; refine Ye 41 rfl ?_; refine Yd i w.heap.size rfl _ _ rfl rfl rfl (S2.out).rr rfl ?_; intro w3 hw; have S3 := Yh_ ((S2.out).store HD.out rfl hw); clear hw S2))
 exact bodyPost_ret (Yf rfl (Ys 4 w.heap.size _ rfl S3.out.rr)) rfl ⟨rfl, S3.out.dd, S3.out.uu⟩
theorem Ym1 (d g k : Nat) (v : Value) (L : List Int) (w : World) (hD : Yc w d v L g k) (e : Int) (h : Yak L k = .err e) :
  Calls Tryz.prog 93 #[.pointer (some ⟨d, 0, none⟩), .int .u8 169] w (Yl d v L g w (.err e) Ins.val) := by
 have HD := Yh_ hD
 have S1 := Yh_ (RS.start hD)
 have HP3 := Yh_ (fun (w1 : World) (hd1 : Yc w1 d v L g k) => by have := Ybo d g k v L w1 hd1; rw [h] at this; exact this)
 clear hD h
 go_enter Tryz.func93, Tryz.ntmps93
 go_wp2_with (first | (have _t := S1; clear _t; go_at_call 89; refine (Ybv 0 _).mono ?_; rintro e w2 ⟨rfl, hu⟩; unfold Opd.val Yam; have S2 := Yh_ ((S1.out).same hu); clear hu S1) | (have _t := S2; clear _t; go_at_call 92; refine (HP3.out _ (S2.out).dd).mono ?_; rintro e w3 ⟨rfl, hu⟩))
 exact ⟨rfl, rfl, (S2.out).uu.also hu (by simp)⟩
theorem Ynd (d g k : Nat) (v : Value) (L : List Int) (w : World) (hD : Yc w d v L g k) (o : Opd) (k1 : Nat) (h : Yak L k = .ok o k1) :
  Calls Tryz.prog 93 #[.pointer (some ⟨d, 0, none⟩), .int .u8 169] w (Yl d v L g w (.ok ⟨11, 0, Yam 0, o, false, 0⟩ k1) Ins.val) := by
 have HD := Yh_ hD
 have S1 := Yh_ (RS.start hD)
 have HP3 := Yh_ (fun (w1 : World) (hd1 : Yc w1 d v L g k) => by have := Ybo d g k v L w1 hd1; rw [h] at this; exact this)
 clear hD h
 go_enter Tryz.func93, Tryz.ntmps93
 go_wp2_with (first | (have _t := S1; clear _t; go_at_call 89; refine (Ybv 0 _).mono ?_; rintro e w2 ⟨rfl, hu⟩; unfold Opd.val Yam; have S2 := Yh_ ((S1.out).same hu); clear hu S1) | (have _t := S2; clear _t; go_at_call 92; refine (HP3.out _ (S2.out).dd).mono ?_; rintro e w3 ⟨rfl, hD3, hu⟩; unfold Opd.val; have S3 := Yh_ ((S2.out).step hD3 hu); clear hD3 hu S2) | (have _t := S3; clear _t; refine Ye 41 rfl ?_; refine Yd ⟨11, 0, Yam 0, o, false, 0⟩ w.heap.size rfl _ _ rfl rfl rfl (S3.out).rr rfl ?_; intro w4 hw; have S4 := Yh_ ((S3.out).store HD.out rfl hw); clear hw S3))
 exact bodyPost_ret (Yf rfl (Ys 4 w.heap.size _ rfl S4.out.rr)) rfl ⟨rfl, S4.out.dd, S4.out.uu⟩
theorem Ymb (d g k : Nat) (v : Value) (L : List Int) (w : World) (hD : Yc w d v L g k) (e : Int) (h : Ydu L 198 k = .err e) :
  Calls Tryz.prog 93 #[.pointer (some ⟨d, 0, none⟩), .int .u8 198] w (Yl d v L g w (.err e) Ins.val) := by
 have HD := Yh_ hD
 have S1 := Yh_ (RS.start hD)
 have HP2 := Yh_ (fun (w1 : World) (hd1 : Yc w1 d v L g k) => by have := Yg0 d g k v L 198 w1 hd1; rw [h] at this; exact this)
 clear hD h
 go_enter Tryz.func93, Tryz.ntmps93
 go_wp2_with (have _t := S1; clear _t; go_at_call 126; refine (HP2.out _ (S1.out).dd).mono ?_; rintro e w2 ⟨rfl, hu⟩)
 exact ⟨rfl, rfl, (S1.out).uu.also hu (by simp)⟩
theorem Yns (d g k : Nat) (v : Value) (L : List Int) (w : World) (hD : Yc w d v L g k) (i : Ins) (k1 : Nat) (h : Ydu L 198 k = .ok i k1) :
  Calls Tryz.prog 93 #[.pointer (some ⟨d, 0, none⟩), .int .u8 198] w (Yl d v L g w (.ok i k1) Ins.val) := by
 have HD := Yh_ hD
 have S1 := Yh_ (RS.start hD)
 have HP2 := Yh_ (fun (w1 : World) (hd1 : Yc w1 d v L g k) => by have := Yg0 d g k v L 198 w1 hd1; rw [h] at this; exact this)
 clear hD h
 go_enter Tryz.func93, Tryz.ntmps93
 go_wp2_with (first | (have _t := S1; clear _t; go_at_call 126; refine (HP2.out _ (S1.out).dd).mono ?_; rintro e w2 ⟨rfl, hD2, hu⟩; have S2 := Yh_ ((S1.out).step hD2 hu); clear hD2 hu S1) | (have _t := S2; clear _t; refine Ye 41 rfl ?_; refine Yd i w.heap.size rfl _ _ rfl rfl rfl (S2.out).rr rfl ?_; intro w3 hw; have S3 := Yh_ ((S2.out).store HD.out rfl hw); clear hw S2))
 exact bodyPost_ret (Yf rfl (Ys 4 w.heap.size _ rfl S3.out.rr)) rfl ⟨rfl, S3.out.dd, S3.out.uu⟩
theorem Yma (d g k : Nat) (v : Value) (L : List Int) (w : World) (hD : Yc w d v L g k) (e : Int) (h : Ydu L 199 k = .err e) :
  Calls Tryz.prog 93 #[.pointer (some ⟨d, 0, none⟩), .int .u8 199] w (Yl d v L g w (.err e) Ins.val) := by
 have HD := Yh_ hD
 have S1 := Yh_ (RS.start hD)
 have HP2 := Yh_ (fun (w1 : World) (hd1 : Yc w1 d v L g k) => by have := Yg0 d g k v L 199 w1 hd1; rw [h] at this; exact this)
 clear hD h
 go_enter Tryz.func93, Tryz.ntmps93
 go_wp2_with (have _t := S1; clear _t; go_at_call 126; refine (HP2.out _ (S1.out).dd).mono ?_; rintro e w2 ⟨rfl, hu⟩)
 exact ⟨rfl, rfl, (S1.out).uu.also hu (by simp)⟩
theorem Ymv (d g k : Nat) (v : Value) (L : List Int) (w : World) (hD : Yc w d v L g k) (i : Ins) (k1 : Nat) (h : Ydu L 199 k = .ok i k1) :
  Calls Tryz.prog 93 #[.pointer (some ⟨d, 0, none⟩), .int .u8 199] w (Yl d v L g w (.ok i k1) Ins.val) := by
 have HD := Yh_ hD
 have S1 := Yh_ (RS.start hD)
 have HP2 := Yh_ (fun (w1 : World) (hd1 : Yc w1 d v L g k) => by have := Yg0 d g k v L 199 w1 hd1; rw [h] at this; exact this)
 clear hD h
 go_enter Tryz.func93, Tryz.ntmps93
 go_wp2_with (first | (have _t := S1; clear _t; go_at_call 126; refine (HP2.out _ (S1.out).dd).mono ?_; rintro e w2 ⟨rfl, hD2, hu⟩; have S2 := Yh_ ((S1.out).step hD2 hu); clear hD2 hu S1) | (have _t := S2; clear _t; refine Ye 41 rfl ?_; refine Yd i w.heap.size rfl _ _ rfl rfl rfl (S2.out).rr rfl ?_; intro w3 hw; have S3 := Yh_ ((S2.out).store HD.out rfl hw); clear hw S2))
 exact bodyPost_ret (Yf rfl (Ys 4 w.heap.size _ rfl S3.out.rr)) rfl ⟨rfl, S3.out.dd, S3.out.uu⟩
theorem Ymf (d g k : Nat) (v : Value) (L : List Int) (w : World) (hD : Yc w d v L g k) (c : Int) (hc0 : 0 ≤ c) (hc1 : c ≤ 255) (h104 : c ≠ 104) (h106 : c ≠ 106) (h129 : c ≠ 129) (h131 : c ≠ 131) (h133 : c ≠ 133) (h135 : c ≠ 135) (h136 : c ≠ 136) (h138 : c ≠ 138) (h137 : c ≠ 137) (h139 : c ≠ 139) (h141 : c ≠ 141) (h169 : c ≠ 169) (h198 : c ≠ 198) (h199 : c ≠ 199) (e : Int) (h : Yb4 L c k = .err e) :
  Calls Tryz.prog 93 #[.pointer (some ⟨d, 0, none⟩), .int .u8 c] w (Yl d v L g w (.err e) Ins.val) := by
 have HD := Yh_ hD
 have S1 := Yh_ (RS.start hD)
 have e104 : (c == 104) = false := by simpa using h104
 have e106 : (c == 106) = false := by simpa using h106
 have e129 : (c == 129) = false := by simpa using h129
 have e131 : (c == 131) = false := by simpa using h131
 have e133 : (c == 133) = false := by simpa using h133
 have e135 : (c == 135) = false := by simpa using h135
 have e136 : (c == 136) = false := by simpa using h136
 have e138 : (c == 138) = false := by simpa using h138
 have e137 : (c == 137) = false := by simpa using h137
 have e139 : (c == 139) = false := by simpa using h139
 have e141 : (c == 141) = false := by simpa using h141
 have e169 : (c == 169) = false := by simpa using h169
 have e198 : (c == 198) = false := by simpa using h198
 have e199 : (c == 199) = false := by simpa using h199
 have HP2 := Yh_ (fun (w1 : World) (hd1 : Yc w1 d v L g k) => by have := Yjj d g k v L c w1 hd1 hc0 hc1; rw [h] at this; exact this)
 clear hD h104 h106 h129 h131 h133 h135 h136 h138 h137 h139 h141 h169 h198 h199 h
 go_enter Tryz.func93, Tryz.ntmps93
 go_wp2_with (have _t := S1; clear _t; go_at_call 127; refine (HP2.out _ (S1.out).dd).mono ?_; rintro e w2 ⟨rfl, hu⟩)
 exact ⟨rfl, rfl, (S1.out).uu.also hu (by simp)⟩
theorem Yl7 (d g k : Nat) (v : Value) (L : List Int) (w : World) (hD : Yc w d v L g k) (c : Int) (hc0 : 0 ≤ c) (hc1 : c ≤ 255) (h104 : c ≠ 104) (h106 : c ≠ 106) (h129 : c ≠ 129) (h131 : c ≠ 131) (h133 : c ≠ 133) (h135 : c ≠ 135) (h136 : c ≠ 136) (h138 : c ≠ 138) (h137 : c ≠ 137) (h139 : c ≠ 139) (h141 : c ≠ 141) (h169 : c ≠ 169) (h198 : c ≠ 198) (h199 : c ≠ 199) (i : Ins) (k1 : Nat) (h : Yb4 L c k = .ok i k1) :
  Calls Tryz.prog 93 #[.pointer (some ⟨d, 0, none⟩), .int .u8 c] w (Yl d v L g w (.ok i k1) Ins.val) := by
 have HD := Yh_ hD
 have S1 := Yh_ (RS.start hD)
 have e104 : (c == 104) = false := by simpa using h104
 have e106 : (c == 106) = false := by simpa using h106
 have e129 : (c == 129) = false := by simpa using h129
 have e131 : (c == 131) = false := by simpa using h131
 have e133 : (c == 133) = false := by simpa using h133
 have e135 : (c == 135) = false := by simpa using h135
 have e136 : (c == 136) = false := by simpa using h136
 have e138 : (c == 138) = false := by simpa using h138
 have e137 : (c == 137) = false := by simpa using h137
 have e139 : (c == 139) = false := by simpa using h139
 have e141 : (c == 141) = false := by simpa using h141
 have e169 : (c == 169) = false := by simpa using h169
 have e198 : (c == 198) = false := by simpa using h198
 have e199 : (c == 199) = false := by simpa using h199
 have HP2 := Yh_ (fun (w1 : World) (hd1 : Yc w1 d v L g k) => by have := Yjj d g k v L c w1 hd1 hc0 hc1; rw [h] at this; exact this)
 clear hD h104 h106 h129 h131 h133 h135 h136 h138 h137 h139 h141 h169 h198 h199 h
 go_enter Tryz.func93, Tryz.ntmps93
 go_wp2_with (first | (have _t := S1; clear _t; go_at_call 127; refine (HP2.out _ (S1.out).dd).mono ?_; rintro e w2 ⟨rfl, hD2, hu⟩; have S2 := Yh_ ((S1.out).step hD2 hu); clear hD2 hu S1) | (have _t := S2; clear _t; refine Ye 41 rfl ?_; refine Yd i w.heap.size rfl _ _ rfl rfl rfl (S2.out).rr rfl ?_; intro w3 hw; have S3 := Yh_ ((S2.out).store HD.out rfl hw); clear hw S2))
 exact bodyPost_ret (Yf rfl (Ys 4 w.heap.size _ rfl S3.out.rr)) rfl ⟨rfl, S3.out.dd, S3.out.uu⟩
theorem Yeb (d g k : Nat) (v : Value) (L : List Int) (c : Int) (w : World) (hD : Yc w d v L g k) (hc0 : 0 ≤ c) (hc1 : c ≤ 255) :
  Calls Tryz.prog 93 #[.pointer (some ⟨d, 0, none⟩), .int .u8 c] w (Yl d v L g w (Ya3 L c k) Ins.val) := by
 by_cases h104 : c = 104
 ·subst h104
  have e : Ya3 L 104 k = ((Yak L k).bind fun o k => .ok ⟨28, 0, o, Opd.none, false, 0⟩ k) := rfl
  rw [e]
  cases h : Yak L k with
  |err e => exact Ym3 d g k v L w hD e h
  |ok o k1 => exact Ymu d g k v L w hD o k1 h
 by_cases h106 : c = 106
 ·subst h106
  have e : Ya3 L 106 k = ((Yb5 L k).bind fun o k => .ok ⟨28, 0, o, Opd.none, false, 0⟩ k) := rfl
  rw [e]
  cases h : Yb5 L k with
  |err e => exact Ynk d g k v L w hD e h
  |ok o k1 => exact Yms d g k v L w hD o k1 h
 by_cases h129 : c = 129
 ·subst h129
  have e : Ya3 L 129 k = (Ya3 L 129 k) := rfl
  rw [e]
  exact mv81_any d g k v L w hD
 by_cases h131 : c = 131
 ·subst h131
  have e : Ya3 L 131 k = (Ya3 L 131 k) := rfl
  rw [e]
  exact mv83_any d g k v L w hD
 by_cases h133 : c = 133
 ·subst h133
  have e : Ya3 L 133 k = (Yat L 11 false k) := rfl
  rw [e]
  cases h : Yat L 11 false k with
  |err e => exact Ymt d g k v L w hD e h
  |ok i k1 => exact Ym4 d g k v L w hD i k1 h
 by_cases h135 : c = 135
 ·subst h135
  have e : Ya3 L 135 k = (Yat L 27 false k) := rfl
  rw [e]
  cases h : Yat L 27 false k with
  |err e => exact Ynr d g k v L w hD e h
  |ok i k1 => exact Ymy d g k v L w hD i k1 h
 by_cases h136 : c = 136
 ·subst h136
  have e : Ya3 L 136 k = (Yat L 2 false k) := rfl
  rw [e]
  cases h : Yat L 2 false k with
  |err e => exact Yl3 d g k v L w hD e h
  |ok i k1 => exact Ymc d g k v L w hD i k1 h
 by_cases h138 : c = 138
 ·subst h138
  have e : Ya3 L 138 k = (Yat L 2 true k) := rfl
  rw [e]
  cases h : Yat L 2 true k with
  |err e => exact Yn1 d g k v L w hD e h
  |ok i k1 => exact Ymo d g k v L w hD i k1 h
 by_cases h137 : c = 137
 ·subst h137
  have e : Ya3 L 137 k = (Yat L 1 false k) := rfl
  rw [e]
  cases h : Yat L 1 false k with
  |err e => exact Ymz d g k v L w hD e h
  |ok i k1 => exact Ym5 d g k v L w hD i k1 h
 by_cases h139 : c = 139
 ·subst h139
  have e : Ya3 L 139 k = (Yat L 1 true k) := rfl
  rw [e]
  cases h : Yat L 1 true k with
  |err e => exact Ymg d g k v L w hD e h
  |ok i k1 => exact Yne d g k v L w hD i k1 h
 by_cases h141 : c = 141
 ·subst h141
  have e : Ya3 L 141 k = (Ygp L k) := rfl
  rw [e]
  cases h : Ygp L k with
  |err e => exact Ynz d g k v L w hD e h
  |ok i k1 => exact Ynw d g k v L w hD i k1 h
 by_cases h169 : c = 169
 ·subst h169
  have e : Ya3 L 169 k = ((Yak L k).bind fun o k => .ok ⟨11, 0, Yam 0, o, false, 0⟩ k) := rfl
  rw [e]
  cases h : Yak L k with
  |err e => exact Ym1 d g k v L w hD e h
  |ok o k1 => exact Ynd d g k v L w hD o k1 h
 by_cases h198 : c = 198
 ·subst h198
  have e : Ya3 L 198 k = (Ydu L 198 k) := rfl
  rw [e]
  cases h : Ydu L 198 k with
  |err e => exact Ymb d g k v L w hD e h
  |ok i k1 => exact Yns d g k v L w hD i k1 h
 by_cases h199 : c = 199
 ·subst h199
  have e : Ya3 L 199 k = (Ydu L 199 k) := rfl
  rw [e]
  cases h : Ydu L 199 k with
  |err e => exact Yma d g k v L w hD e h
  |ok i k1 => exact Ymv d g k v L w hD i k1 h
 have e : Ya3 L c k = Yb4 L c k := by simp [Ya3, h104, h106, h129, h131, h133, h135, h136, h138, h137, h139, h141, h169, h198, h199]
 rw [e]
 cases h : Yb4 L c k with
 |err e => exact Ymf d g k v L w hD c hc0 hc1 h104 h106 h129 h131 h133 h135 h136 h138 h137 h139 h141 h169 h198 h199 e h
 |ok i k1 => exact Yl7 d g k v L w hD c hc0 hc1 h104 h106 h129 h131 h133 h135 h136 h138 h137 h139 h141 h169 h198 h199 i k1 h
end Go.Proofs.YthakgjpejhjaoaaGreat
