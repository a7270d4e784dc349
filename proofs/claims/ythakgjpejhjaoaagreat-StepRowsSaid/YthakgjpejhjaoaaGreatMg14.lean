/-
  Parts of the proof (their names shortened by a program). No condition.
-/
import Derived.Test.YthakgjpejhjaoaaGreatMg01
import Derived.Test.YthakgjpejhjaoaaGreatMg13
namespace Go.Proofs.YthakgjpejhjaoaaGreat
open Go Go.RowKit
set_option linter.unusedVariables false
set_option linter.unusedSimpArgs false
set_option maxRecDepth 100000
set_option maxHeartbeats 16000000
theorem Ylo (d g k : Nat) (v : Value) (L : List Int) (w : World) (hD : Yb w d v L g k) (e : Int) (h : Yah L k = .err e) :
  Calls Tryz.prog 93 #[.pointer (some ⟨d, 0, none⟩), .int .u8 104] w (Yj d v L g w (.err e) Ins.val) := by
 have HD := Yh_ hD
 have S1 := Yh_ (RS.start hD)
 have HP2 := Yh_ (fun (w1 : World) (hd1 : Yb w1 d v L g k) => by have := Ybb d g k v L w1 hd1; rw [h] at this; exact this)
 clear hD h
 go_enter Tryz.func93, Tryz.ntmps93
 go_wp2_with (have _t := S1; clear _t; go_at_call 92; refine (HP2.out _ (S1.out).dd).mono ?_; rintro e w2 ⟨rfl, hu⟩)
 exact ⟨rfl, rfl, (S1.out).uu.also hu (by simp)⟩
theorem Ylf (d g k : Nat) (v : Value) (L : List Int) (w : World) (hD : Yb w d v L g k) (o : Opd) (k1 : Nat) (h : Yah L k = .ok o k1) :
  Calls Tryz.prog 93 #[.pointer (some ⟨d, 0, none⟩), .int .u8 104] w (Yj d v L g w (.ok ⟨28, 0, o, Opd.none, false, 0⟩ k1) Ins.val) := by
 have HD := Yh_ hD
 have S1 := Yh_ (RS.start hD)
 have HP2 := Yh_ (fun (w1 : World) (hd1 : Yb w1 d v L g k) => by have := Ybb d g k v L w1 hd1; rw [h] at this; exact this)
 clear hD h
 go_enter Tryz.func93, Tryz.ntmps93
 go_wp2_with (first | (have _t := S1; clear _t; go_at_call 92; refine (HP2.out _ (S1.out).dd).mono ?_; rintro e w2 ⟨rfl, hD2, hu⟩; unfold Opd.val; have S2 := Yh_ ((S1.out).step hD2 hu); clear hD2 hu S1) | (have _t := S2; clear _t; refine Yd 41 rfl ?_; refine Yc ⟨28, 0, o, Opd.none, false, 0⟩ w.heap.size rfl _ _ rfl rfl rfl (S2.out).rr rfl ?_; intro w3 hw; have S3 := Yh_ ((S2.out).store HD.out rfl hw); clear hw S2))
 exact bodyPost_ret (Ye rfl (Yo 4 w.heap.size _ rfl S3.out.rr)) rfl ⟨rfl, S3.out.dd, S3.out.uu⟩
theorem Ymj (d g k : Nat) (v : Value) (L : List Int) (w : World) (hD : Yb w d v L g k) (e : Int) (h : Yb1 L k = .err e) :
  Calls Tryz.prog 93 #[.pointer (some ⟨d, 0, none⟩), .int .u8 106] w (Yj d v L g w (.err e) Ins.val) := by
 have HD := Yh_ hD
 have S1 := Yh_ (RS.start hD)
 have HP2 := Yh_ (fun (w1 : World) (hd1 : Yb w1 d v L g k) => by have := Ydd d g k v L w1 hd1; rw [h] at this; exact this)
 clear hD h
 go_enter Tryz.func93, Tryz.ntmps93
 go_wp2_with (have _t := S1; clear _t; go_at_call 90; refine (HP2.out _ (S1.out).dd).mono ?_; rintro e w2 ⟨rfl, hu⟩)
 exact ⟨rfl, rfl, (S1.out).uu.also hu (by simp)⟩
theorem Ym8 (d g k : Nat) (v : Value) (L : List Int) (w : World) (hD : Yb w d v L g k) (o : Opd) (k1 : Nat) (h : Yb1 L k = .ok o k1) :
  Calls Tryz.prog 93 #[.pointer (some ⟨d, 0, none⟩), .int .u8 106] w (Yj d v L g w (.ok ⟨28, 0, o, Opd.none, false, 0⟩ k1) Ins.val) := by
 have HD := Yh_ hD
 have S1 := Yh_ (RS.start hD)
 have HP2 := Yh_ (fun (w1 : World) (hd1 : Yb w1 d v L g k) => by have := Ydd d g k v L w1 hd1; rw [h] at this; exact this)
 clear hD h
 go_enter Tryz.func93, Tryz.ntmps93
 go_wp2_with (first | (have _t := S1; clear _t; go_at_call 90; refine (HP2.out _ (S1.out).dd).mono ?_; rintro e w2 ⟨rfl, hD2, hu⟩; unfold Opd.val; have S2 := Yh_ ((S1.out).step hD2 hu); clear hD2 hu S1) | (have _t := S2; clear _t; refine Yd 41 rfl ?_; refine Yc ⟨28, 0, o, Opd.none, false, 0⟩ w.heap.size rfl _ _ rfl rfl rfl (S2.out).rr rfl ?_; intro w3 hw; have S3 := Yh_ ((S2.out).store HD.out rfl hw); clear hw S2))
 exact bodyPost_ret (Ye rfl (Yo 4 w.heap.size _ rfl S3.out.rr)) rfl ⟨rfl, S3.out.dd, S3.out.uu⟩
theorem Yl5 (d g k : Nat) (v : Value) (L : List Int) (w : World) (hD : Yb w d v L g k) (e : Int) (h : Yao L 11 false k = .err e) :
  Calls Tryz.prog 93 #[.pointer (some ⟨d, 0, none⟩), .int .u8 133] w (Yj d v L g w (.err e) Ins.val) := by
 have HD := Yh_ hD
 have S1 := Yh_ (RS.start hD)
 have HP2 := Yh_ (fun (w1 : World) (hd1 : Yb w1 d v L g k) => by have := Ybd d g k v L 11 false w1 hd1; rw [h] at this; exact this)
 clear hD h
 go_enter Tryz.func93, Tryz.ntmps93
 go_wp2_with (have _t := S1; clear _t; go_at_call 120; refine (HP2.out _ (S1.out).dd).mono ?_; rintro e w2 ⟨rfl, hu⟩)
 exact ⟨rfl, rfl, (S1.out).uu.also hu (by simp)⟩
theorem Ymm (d g k : Nat) (v : Value) (L : List Int) (w : World) (hD : Yb w d v L g k) (i : Ins) (k1 : Nat) (h : Yao L 11 false k = .ok i k1) :
  Calls Tryz.prog 93 #[.pointer (some ⟨d, 0, none⟩), .int .u8 133] w (Yj d v L g w (.ok i k1) Ins.val) := by
 have HD := Yh_ hD
 have S1 := Yh_ (RS.start hD)
 have HP2 := Yh_ (fun (w1 : World) (hd1 : Yb w1 d v L g k) => by have := Ybd d g k v L 11 false w1 hd1; rw [h] at this; exact this)
 clear hD h
 go_enter Tryz.func93, Tryz.ntmps93
 go_wp2_with (first | (have _t := S1; clear _t; go_at_call 120; refine (HP2.out _ (S1.out).dd).mono ?_; rintro e w2 ⟨rfl, hD2, hu⟩; have S2 := Yh_ ((S1.out).step hD2 hu); clear hD2 hu S1) | (have _t := S2; clear _t; refine Yd 41 rfl ?_; refine Yc i w.heap.size rfl _ _ rfl rfl rfl (S2.out).rr rfl ?_; intro w3 hw; have S3 := Yh_ ((S2.out).store HD.out rfl hw); clear hw S2))
 exact bodyPost_ret (Ye rfl (Yo 4 w.heap.size _ rfl S3.out.rr)) rfl ⟨rfl, S3.out.dd, S3.out.uu⟩
theorem Ylt (d g k : Nat) (v : Value) (L : List Int) (w : World) (hD : Yb w d v L g k) (e : Int) (h : Yao L 27 false k = .err e) :
  Calls Tryz.prog 93 #[.pointer (some ⟨d, 0, none⟩), .int .u8 135] w (Yj d v L g w (.err e) Ins.val) := by
 have HD := Yh_ hD
 have S1 := Yh_ (RS.start hD)
 have HP2 := Yh_ (fun (w1 : World) (hd1 : Yb w1 d v L g k) => by have := Ybd d g k v L 27 false w1 hd1; rw [h] at this; exact this)
 clear hD h
 go_enter Tryz.func93, Tryz.ntmps93
 go_wp2_with (have _t := S1; clear _t; go_at_call 120; refine (HP2.out _ (S1.out).dd).mono ?_; rintro e w2 ⟨rfl, hu⟩)
 exact ⟨rfl, rfl, (S1.out).uu.also hu (by simp)⟩
theorem Ymf (d g k : Nat) (v : Value) (L : List Int) (w : World) (hD : Yb w d v L g k) (i : Ins) (k1 : Nat) (h : Yao L 27 false k = .ok i k1) :
  Calls Tryz.prog 93 #[.pointer (some ⟨d, 0, none⟩), .int .u8 135] w (Yj d v L g w (.ok i k1) Ins.val) := by
 have HD := Yh_ hD
 have S1 := Yh_ (RS.start hD)
 have HP2 := Yh_ (fun (w1 : World) (hd1 : Yb w1 d v L g k) => by have := Ybd d g k v L 27 false w1 hd1; rw [h] at this; exact this)
 clear hD h
 go_enter Tryz.func93, Tryz.ntmps93
 go_wp2_with (first | (have _t := S1; clear _t; go_at_call 120; refine (HP2.out _ (S1.out).dd).mono ?_; rintro e w2 ⟨rfl, hD2, hu⟩; have S2 := Yh_ ((S1.out).step hD2 hu); clear hD2 hu S1) | (have _t := S2; clear _t; refine Yd 41 rfl ?_; refine Yc i w.heap.size rfl _ _ rfl rfl rfl (S2.out).rr rfl ?_; intro w3 hw; have S3 := Yh_ ((S2.out).store HD.out rfl hw); clear hw S2))
 exact bodyPost_ret (Ye rfl (Yo 4 w.heap.size _ rfl S3.out.rr)) rfl ⟨rfl, S3.out.dd, S3.out.uu⟩
theorem Ymr (d g k : Nat) (v : Value) (L : List Int) (w : World) (hD : Yb w d v L g k) (e : Int) (h : Yao L 2 false k = .err e) :
  Calls Tryz.prog 93 #[.pointer (some ⟨d, 0, none⟩), .int .u8 136] w (Yj d v L g w (.err e) Ins.val) := by
 have HD := Yh_ hD
 have S1 := Yh_ (RS.start hD)
 have HP2 := Yh_ (fun (w1 : World) (hd1 : Yb w1 d v L g k) => by have := Ybd d g k v L 2 false w1 hd1; rw [h] at this; exact this)
 clear hD h
 go_enter Tryz.func93, Tryz.ntmps93
 go_wp2_with (have _t := S1; clear _t; go_at_call 120; refine (HP2.out _ (S1.out).dd).mono ?_; rintro e w2 ⟨rfl, hu⟩)
 exact ⟨rfl, rfl, (S1.out).uu.also hu (by simp)⟩
theorem Yms (d g k : Nat) (v : Value) (L : List Int) (w : World) (hD : Yb w d v L g k) (i : Ins) (k1 : Nat) (h : Yao L 2 false k = .ok i k1) :
  Calls Tryz.prog 93 #[.pointer (some ⟨d, 0, none⟩), .int .u8 136] w (Yj d v L g w (.ok i k1) Ins.val) := by
 have HD := Yh_ hD
 have S1 := Yh_ (RS.start hD)
 have HP2 := Yh_ (fun (w1 : World) (hd1 : Yb w1 d v L g k) => by have := Ybd d g k v L 2 false w1 hd1; rw [h] at this; exact this)
 clear hD h
 go_enter Tryz.func93, Tryz.ntmps93
 go_wp2_with (first | (have _t := S1; clear _t; go_at_call 120; refine (HP2.out _ (S1.out).dd).mono ?_; rintro e w2 ⟨rfl, hD2, hu⟩; have S2 := Yh_ ((S1.out).step hD2 hu); clear hD2 hu S1) | (have _t := S2; clear _t; refine Yd 41 rfl ?_; refine Yc i w.heap.size rfl _ _ rfl rfl rfl (S2.out).rr rfl ?_; intro w3 hw; have S3 := Yh_ ((S2.out).store HD.out rfl hw); clear hw S2))
 exact bodyPost_ret (Ye rfl (Yo 4 w.heap.size _ rfl S3.out.rr)) rfl ⟨rfl, S3.out.dd, S3.out.uu⟩
theorem Ymc (d g k : Nat) (v : Value) (L : List Int) (w : World) (hD : Yb w d v L g k) (e : Int) (h : Yao L 2 true k = .err e) :
  Calls Tryz.prog 93 #[.pointer (some ⟨d, 0, none⟩), .int .u8 138] w (Yj d v L g w (.err e) Ins.val) := by
 have HD := Yh_ hD
 have S1 := Yh_ (RS.start hD)
 have HP2 := Yh_ (fun (w1 : World) (hd1 : Yb w1 d v L g k) => by have := Ybd d g k v L 2 true w1 hd1; rw [h] at this; exact this)
 clear hD h
 go_enter Tryz.func93, Tryz.ntmps93
 go_wp2_with (have _t := S1; clear _t; go_at_call 120; refine (HP2.out _ (S1.out).dd).mono ?_; rintro e w2 ⟨rfl, hu⟩)
 exact ⟨rfl, rfl, (S1.out).uu.also hu (by simp)⟩
theorem Ym5 (d g k : Nat) (v : Value) (L : List Int) (w : World) (hD : Yb w d v L g k) (i : Ins) (k1 : Nat) (h : Yao L 2 true k = .ok i k1) :
  Calls Tryz.prog 93 #[.pointer (some ⟨d, 0, none⟩), .int .u8 138] w (Yj d v L g w (.ok i k1) Ins.val) := by
 have HD := Yh_ hD
 have S1 := Yh_ (RS.start hD)
 have HP2 := Yh_ (fun (w1 : World) (hd1 : Yb w1 d v L g k) => by have := Ybd d g k v L 2 true w1 hd1; rw [h] at this; exact this)
 clear hD h
 go_enter Tryz.func93, Tryz.ntmps93
 go_wp2_with (first | (have _t := S1; clear _t; go_at_call 120; refine (HP2.out _ (S1.out).dd).mono ?_; rintro e w2 ⟨rfl, hD2, hu⟩; have S2 := Yh_ ((S1.out).step hD2 hu); clear hD2 hu S1) | (have _t := S2; clear _t; refine Yd 41 rfl ?_; refine Yc i w.heap.size rfl _ _ rfl rfl rfl (S2.out).rr rfl ?_; intro w3 hw; have S3 := Yh_ ((S2.out).store HD.out rfl hw); clear hw S2))
 exact bodyPost_ret (Ye rfl (Yo 4 w.heap.size _ rfl S3.out.rr)) rfl ⟨rfl, S3.out.dd, S3.out.uu⟩
theorem Ymi (d g k : Nat) (v : Value) (L : List Int) (w : World) (hD : Yb w d v L g k) (e : Int) (h : Yao L 1 false k = .err e) :
  Calls Tryz.prog 93 #[.pointer (some ⟨d, 0, none⟩), .int .u8 137] w (Yj d v L g w (.err e) Ins.val) := by
 have HD := Yh_ hD
 have S1 := Yh_ (RS.start hD)
 have HP2 := Yh_ (fun (w1 : World) (hd1 : Yb w1 d v L g k) => by have := Ybd d g k v L 1 false w1 hd1; rw [h] at this; exact this)
 clear hD h
 go_enter Tryz.func93, Tryz.ntmps93
 go_wp2_with (have _t := S1; clear _t; go_at_call 120; refine (HP2.out _ (S1.out).dd).mono ?_; rintro e w2 ⟨rfl, hu⟩)
 exact ⟨rfl, rfl, (S1.out).uu.also hu (by simp)⟩
theorem Ynb (d g k : Nat) (v : Value) (L : List Int) (w : World) (hD : Yb w d v L g k) (i : Ins) (k1 : Nat) (h : Yao L 1 false k = .ok i k1) :
  Calls Tryz.prog 93 #[.pointer (some ⟨d, 0, none⟩), .int .u8 137] w (Yj d v L g w (.ok i k1) Ins.val) := by
 have HD := Yh_ hD
 have S1 := Yh_ (RS.start hD)
 have HP2 := Yh_ (fun (w1 : World) (hd1 : Yb w1 d v L g k) => by have := Ybd d g k v L 1 false w1 hd1; rw [h] at this; exact this)
 clear hD h
 go_enter Tryz.func93, Tryz.ntmps93
 go_wp2_with (first | (have _t := S1; clear _t; go_at_call 120; refine (HP2.out _ (S1.out).dd).mono ?_; rintro e w2 ⟨rfl, hD2, hu⟩; have S2 := Yh_ ((S1.out).step hD2 hu); clear hD2 hu S1) | (have _t := S2; clear _t; refine Yd 41 rfl ?_; refine Yc i w.heap.size rfl _ _ rfl rfl rfl (S2.out).rr rfl ?_; intro w3 hw; have S3 := Yh_ ((S2.out).store HD.out rfl hw); clear hw S2))
 exact bodyPost_ret (Ye rfl (Yo 4 w.heap.size _ rfl S3.out.rr)) rfl ⟨rfl, S3.out.dd, S3.out.uu⟩
theorem Yl0 (d g k : Nat) (v : Value) (L : List Int) (w : World) (hD : Yb w d v L g k) (e : Int) (h : Yao L 1 true k = .err e) :
  Calls Tryz.prog 93 #[.pointer (some ⟨d, 0, none⟩), .int .u8 139] w (Yj d v L g w (.err e) Ins.val) := by
 have HD := Yh_ hD
 have S1 := Yh_ (RS.start hD)
 have HP2 := Yh_ (fun (w1 : World) (hd1 : Yb w1 d v L g k) => by have := Ybd d g k v L 1 true w1 hd1; rw [h] at this; exact this)
 clear hD h
 go_enter Tryz.func93, Tryz.ntmps93
 go_wp2_with (have _t := S1; clear _t; go_at_call 120; refine (HP2.out _ (S1.out).dd).mono ?_; rintro e w2 ⟨rfl, hu⟩)
 exact ⟨rfl, rfl, (S1.out).uu.also hu (by simp)⟩
theorem Ym2 (d g k : Nat) (v : Value) (L : List Int) (w : World) (hD : Yb w d v L g k) (i : Ins) (k1 : Nat) (h : Yao L 1 true k = .ok i k1) :
  Calls Tryz.prog 93 #[.pointer (some ⟨d, 0, none⟩), .int .u8 139] w (Yj d v L g w (.ok i k1) Ins.val) := by
 have HD := Yh_ hD
 have S1 := Yh_ (RS.start hD)
 have HP2 := Yh_ (fun (w1 : World) (hd1 : Yb w1 d v L g k) => by have := Ybd d g k v L 1 true w1 hd1; rw [h] at this; exact this)
 clear hD h
 go_enter Tryz.func93, Tryz.ntmps93
 go_wp2_with (first | (have _t := S1; clear _t; go_at_call 120; refine (HP2.out _ (S1.out).dd).mono ?_; rintro e w2 ⟨rfl, hD2, hu⟩; have S2 := Yh_ ((S1.out).step hD2 hu); clear hD2 hu S1) | (have _t := S2; clear _t; refine Yd 41 rfl ?_; refine Yc i w.heap.size rfl _ _ rfl rfl rfl (S2.out).rr rfl ?_; intro w3 hw; have S3 := Yh_ ((S2.out).store HD.out rfl hw); clear hw S2))
 exact bodyPost_ret (Ye rfl (Yo 4 w.heap.size _ rfl S3.out.rr)) rfl ⟨rfl, S3.out.dd, S3.out.uu⟩
theorem Ylh (d g k : Nat) (v : Value) (L : List Int) (w : World) (hD : Yb w d v L g k) (e : Int) (h : Yga L k = .err e) :
  Calls Tryz.prog 93 #[.pointer (some ⟨d, 0, none⟩), .int .u8 141] w (Yj d v L g w (.err e) Ins.val) := by
 have HD := Yh_ hD
 have S1 := Yh_ (RS.start hD)
 have HP2 := Yh_ (fun (w1 : World) (hd1 : Yb w1 d v L g k) => by have := Ynk d g k v L w1 hd1; rw [h] at this; exact this)
 clear hD h
 go_enter Tryz.func93, Tryz.ntmps93
 go_wp2_with (have _t := S1; clear _t; go_at_call 125; refine (HP2.out _ (S1.out).dd).mono ?_; rintro e w2 ⟨rfl, hu⟩)
 exact ⟨rfl, rfl, (S1.out).uu.also hu (by simp)⟩
theorem Ylu (d g k : Nat) (v : Value) (L : List Int) (w : World) (hD : Yb w d v L g k) (i : Ins) (k1 : Nat) (h : Yga L k = .ok i k1) :
  Calls Tryz.prog 93 #[.pointer (some ⟨d, 0, none⟩), .int .u8 141] w (Yj d v L g w (.ok i k1) Ins.val) := by
 have HD := Yh_ hD
 have S1 := Yh_ (RS.start hD)
 have HP2 := Yh_ (fun (w1 : World) (hd1 : Yb w1 d v L g k) => by have := Ynk d g k v L w1 hd1; rw [h] at this; exact this)
 clear hD h
 go_enter Tryz.func93, Tryz.ntmps93
 go_wp2_with (first | (have _t := S1; clear _t; go_at_call 125; refine (HP2.out _ (S1.out).dd).mono ?_; rintro e w2 ⟨rfl, hD2, hu⟩; have S2 := Yh_ ((S1.out).step hD2 hu); clear hD2 hu S1) | (have _t := S2; clear _t; refine Yd 41 rfl ?_; refine Yc i w.heap.size rfl _ _ rfl rfl rfl (S2.out).rr rfl ?_; intro w3 hw; have S3 := Yh_ ((S2.out).store HD.out rfl hw); clear hw S2))
 exact bodyPost_ret (Ye rfl (Yo 4 w.heap.size _ rfl S3.out.rr)) rfl ⟨rfl, S3.out.dd, S3.out.uu⟩
theorem Yl8 (d g k : Nat) (v : Value) (L : List Int) (w : World) (hD : Yb w d v L g k) (e : Int) (h : Yah L k = .err e) :
  Calls Tryz.prog 93 #[.pointer (some ⟨d, 0, none⟩), .int .u8 169] w (Yj d v L g w (.err e) Ins.val) := by
 have HD := Yh_ hD
 have S1 := Yh_ (RS.start hD)
 have HP3 := Yh_ (fun (w1 : World) (hd1 : Yb w1 d v L g k) => by have := Ybb d g k v L w1 hd1; rw [h] at this; exact this)
 clear hD h
 go_enter Tryz.func93, Tryz.ntmps93
 go_wp2_with (first | (have _t := S1; clear _t; go_at_call 89; refine (Ybo 0 _).mono ?_; rintro e w2 ⟨rfl, hu⟩; unfold Opd.val Yak; have S2 := Yh_ ((S1.out).same hu); clear hu S1) | (have _t := S2; clear _t; go_at_call 92; refine (HP3.out _ (S2.out).dd).mono ?_; rintro e w3 ⟨rfl, hu⟩))
 exact ⟨rfl, rfl, (S2.out).uu.also hu (by simp)⟩
theorem Yma (d g k : Nat) (v : Value) (L : List Int) (w : World) (hD : Yb w d v L g k) (o : Opd) (k1 : Nat) (h : Yah L k = .ok o k1) :
  Calls Tryz.prog 93 #[.pointer (some ⟨d, 0, none⟩), .int .u8 169] w (Yj d v L g w (.ok ⟨11, 0, Yak 0, o, false, 0⟩ k1) Ins.val) := by
 have HD := Yh_ hD
 have S1 := Yh_ (RS.start hD)
 have HP3 := Yh_ (fun (w1 : World) (hd1 : Yb w1 d v L g k) => by have := Ybb d g k v L w1 hd1; rw [h] at this; exact this)
 clear hD h
 go_enter Tryz.func93, Tryz.ntmps93
 go_wp2_with (first | (have _t := S1; clear _t; go_at_call 89; refine (Ybo 0 _).mono ?_; rintro e w2 ⟨rfl, hu⟩; unfold Opd.val Yak; have S2 := Yh_ ((S1.out).same hu); clear hu S1) | (have _t := S2; clear _t; go_at_call 92; refine (HP3.out _ (S2.out).dd).mono ?_; rintro e w3 ⟨rfl, hD3, hu⟩; unfold Opd.val; have S3 := Yh_ ((S2.out).step hD3 hu); clear hD3 hu S2) | (have _t := S3; clear _t; refine Yd 41 rfl ?_; refine Yc ⟨11, 0, Yak 0, o, false, 0⟩ w.heap.size rfl _ _ rfl rfl rfl (S3.out).rr rfl ?_; intro w4 hw; have S4 := Yh_ ((S3.out).store HD.out rfl hw); clear hw S3))
 exact bodyPost_ret (Ye rfl (Yo 4 w.heap.size _ rfl S4.out.rr)) rfl ⟨rfl, S4.out.dd, S4.out.uu⟩
theorem Yl6 (d g k : Nat) (v : Value) (L : List Int) (w : World) (hD : Yb w d v L g k) (e : Int) (h : Yde L 198 k = .err e) :
  Calls Tryz.prog 93 #[.pointer (some ⟨d, 0, none⟩), .int .u8 198] w (Yj d v L g w (.err e) Ins.val) := by
 have HD := Yh_ hD
 have S1 := Yh_ (RS.start hD)
 have HP2 := Yh_ (fun (w1 : World) (hd1 : Yb w1 d v L g k) => by have := Ygi d g k v L 198 w1 hd1; rw [h] at this; exact this)
 clear hD h
 go_enter Tryz.func93, Tryz.ntmps93
 go_wp2_with (have _t := S1; clear _t; go_at_call 126; refine (HP2.out _ (S1.out).dd).mono ?_; rintro e w2 ⟨rfl, hu⟩)
 exact ⟨rfl, rfl, (S1.out).uu.also hu (by simp)⟩
theorem Ylk (d g k : Nat) (v : Value) (L : List Int) (w : World) (hD : Yb w d v L g k) (i : Ins) (k1 : Nat) (h : Yde L 198 k = .ok i k1) :
  Calls Tryz.prog 93 #[.pointer (some ⟨d, 0, none⟩), .int .u8 198] w (Yj d v L g w (.ok i k1) Ins.val) := by
 have HD := Yh_ hD
 have S1 := Yh_ (RS.start hD)
 have HP2 := Yh_ (fun (w1 : World) (hd1 : Yb w1 d v L g k) => by have := Ygi d g k v L 198 w1 hd1; rw [h] at this; exact this)
 clear hD h
 go_enter Tryz.func93, Tryz.ntmps93
 go_wp2_with (first | (have _t := S1; clear _t; go_at_call 126; refine (HP2.out _ (S1.out).dd).mono ?_; rintro e w2 ⟨rfl, hD2, hu⟩; have S2 := Yh_ ((S1.out).step hD2 hu); clear hD2 hu S1) | (have _t := S2; clear _t; refine Yd 41 rfl ?_; refine Yc i w.heap.size rfl _ _ rfl rfl rfl (S2.out).rr rfl ?_; intro w3 hw; have S3 := Yh_ ((S2.out).store HD.out rfl hw); clear hw S2))
 exact bodyPost_ret (Ye rfl (Yo 4 w.heap.size _ rfl S3.out.rr)) rfl ⟨rfl, S3.out.dd, S3.out.uu⟩
theorem Yld (d g k : Nat) (v : Value) (L : List Int) (w : World) (hD : Yb w d v L g k) (e : Int) (h : Yde L 199 k = .err e) :
  Calls Tryz.prog 93 #[.pointer (some ⟨d, 0, none⟩), .int .u8 199] w (Yj d v L g w (.err e) Ins.val) := by
 have HD := Yh_ hD
 have S1 := Yh_ (RS.start hD)
 have HP2 := Yh_ (fun (w1 : World) (hd1 : Yb w1 d v L g k) => by have := Ygi d g k v L 199 w1 hd1; rw [h] at this; exact this)
 clear hD h
 go_enter Tryz.func93, Tryz.ntmps93
 go_wp2_with (have _t := S1; clear _t; go_at_call 126; refine (HP2.out _ (S1.out).dd).mono ?_; rintro e w2 ⟨rfl, hu⟩)
 exact ⟨rfl, rfl, (S1.out).uu.also hu (by simp)⟩
theorem Yl2 (d g k : Nat) (v : Value) (L : List Int) (w : World) (hD : Yb w d v L g k) (i : Ins) (k1 : Nat) (h : Yde L 199 k = .ok i k1) :
  Calls Tryz.prog 93 #[.pointer (some ⟨d, 0, none⟩), .int .u8 199] w (Yj d v L g w (.ok i k1) Ins.val) := by
 have HD := Yh_ hD
 have S1 := Yh_ (RS.start hD)
 have HP2 := Yh_ (fun (w1 : World) (hd1 : Yb w1 d v L g k) => by have := Ygi d g k v L 199 w1 hd1; rw [h] at this; exact this)
 clear hD h
 go_enter Tryz.func93, Tryz.ntmps93
 go_wp2_with (first | (have _t := S1; clear _t; go_at_call 126; refine (HP2.out _ (S1.out).dd).mono ?_; rintro e w2 ⟨rfl, hD2, hu⟩; have S2 := Yh_ ((S1.out).step hD2 hu); clear hD2 hu S1) | (have _t := S2; clear _t; refine Yd 41 rfl ?_; refine Yc i w.heap.size rfl _ _ rfl rfl rfl (S2.out).rr rfl ?_; intro w3 hw; have S3 := Yh_ ((S2.out).store HD.out rfl hw); clear hw S2))
 exact bodyPost_ret (Ye rfl (Yo 4 w.heap.size _ rfl S3.out.rr)) rfl ⟨rfl, S3.out.dd, S3.out.uu⟩
theorem Ymw (d g k : Nat) (v : Value) (L : List Int) (w : World) (hD : Yb w d v L g k) (c : Int) (hc0 : 0 ≤ c) (hc1 : c ≤ 255) (h104 : c ≠ 104) (h106 : c ≠ 106) (h129 : c ≠ 129) (h131 : c ≠ 131) (h133 : c ≠ 133) (h135 : c ≠ 135) (h136 : c ≠ 136) (h138 : c ≠ 138) (h137 : c ≠ 137) (h139 : c ≠ 139) (h141 : c ≠ 141) (h169 : c ≠ 169) (h198 : c ≠ 198) (h199 : c ≠ 199) (e : Int) (h : Ybz L c k = .err e) :
  Calls Tryz.prog 93 #[.pointer (some ⟨d, 0, none⟩), .int .u8 c] w (Yj d v L g w (.err e) Ins.val) := by
 have HD := Yh_ hD
 have S1 := Yh_ (RS.start hD)
 have e104 : (c == 104) = false := by simpa using h104
 have e106 : (c == 106) = false := by simpa using h106
 have e129 : (c == 129) = false := by simpa using h129
 have e131 : (c == 131) = false := by simpa using h131
 have e133 : (c == 133) = false := by simpa using h133
 have e135 : (c == 135) = false := by simpa using h135
 have e136 : (c == 136) = false := by simpa using h136
 have e138 : (c == 138) = false := by simpa using h138
 have e137 : (c == 137) = false := by simpa using h137
 have e139 : (c == 139) = false := by simpa using h139
 have e141 : (c == 141) = false := by simpa using h141
 have e169 : (c == 169) = false := by simpa using h169
 have e198 : (c == 198) = false := by simpa using h198
 have e199 : (c == 199) = false := by simpa using h199
 have HP2 := Yh_ (fun (w1 : World) (hd1 : Yb w1 d v L g k) => by have := Yi0 d g k v L c w1 hd1 hc0 hc1; rw [h] at this; exact this)
 clear hD h104 h106 h129 h131 h133 h135 h136 h138 h137 h139 h141 h169 h198 h199 h
 go_enter Tryz.func93, Tryz.ntmps93
 go_wp2_with (have _t := S1; clear _t; go_at_call 127; refine (HP2.out _ (S1.out).dd).mono ?_; rintro e w2 ⟨rfl, hu⟩)
 exact ⟨rfl, rfl, (S1.out).uu.also hu (by simp)⟩
theorem Ym0 (d g k : Nat) (v : Value) (L : List Int) (w : World) (hD : Yb w d v L g k) (c : Int) (hc0 : 0 ≤ c) (hc1 : c ≤ 255) (h104 : c ≠ 104) (h106 : c ≠ 106) (h129 : c ≠ 129) (h131 : c ≠ 131) (h133 : c ≠ 133) (h135 : c ≠ 135) (h136 : c ≠ 136) (h138 : c ≠ 138) (h137 : c ≠ 137) (h139 : c ≠ 139) (h141 : c ≠ 141) (h169 : c ≠ 169) (h198 : c ≠ 198) (h199 : c ≠ 199) (i : Ins) (k1 : Nat) (h : Ybz L c k = .ok i k1) :
  Calls Tryz.prog 93 #[.pointer (some ⟨d, 0, none⟩), .int .u8 c] w (Yj d v L g w (.ok i k1) Ins.val) := by
 have HD := Yh_ hD
 have S1 := Yh_ (RS.start hD)
 have e104 : (c == 104) = false := by simpa using h104
 have e106 : (c == 106) = false := by simpa using h106
 have e129 : (c == 129) = false := by simpa using h129
 have e131 : (c == 131) = false := by simpa using h131
 have e133 : (c == 133) = false := by simpa using h133
 have e135 : (c == 135) = false := by simpa using h135
 have e136 : (c == 136) = false := by simpa using h136
 have e138 : (c == 138) = false := by simpa using h138
 have e137 : (c == 137) = false := by simpa using h137
 have e139 : (c == 139) = false := by simpa using h139
 have e141 : (c == 141) = false := by simpa using h141
 have e169 : (c == 169) = false := by simpa using h169
 have e198 : (c == 198) = false := by simpa using h198
 have e199 : (c == 199) = false := by simpa using h199
 have HP2 := Yh_ (fun (w1 : World) (hd1 : Yb w1 d v L g k) => by have := Yi0 d g k v L c w1 hd1 hc0 hc1; rw [h] at this; exact this)
 clear hD h104 h106 h129 h131 h133 h135 h136 h138 h137 h139 h141 h169 h198 h199 h
 go_enter Tryz.func93, Tryz.ntmps93
 go_wp2_with (first | (have _t := S1; clear _t; go_at_call 127; refine (HP2.out _ (S1.out).dd).mono ?_; rintro e w2 ⟨rfl, hD2, hu⟩; have S2 := Yh_ ((S1.out).step hD2 hu); clear hD2 hu S1) | (have _t := S2; clear _t; refine Yd 41 rfl ?_; refine Yc i w.heap.size rfl _ _ rfl rfl rfl (S2.out).rr rfl ?_; intro w3 hw; have S3 := Yh_ ((S2.out).store HD.out rfl hw); clear hw S2))
 exact bodyPost_ret (Ye rfl (Yo 4 w.heap.size _ rfl S3.out.rr)) rfl ⟨rfl, S3.out.dd, S3.out.uu⟩
theorem Ydv (d g k : Nat) (v : Value) (L : List Int) (c : Int) (w : World) (hD : Yb w d v L g k) (hc0 : 0 ≤ c) (hc1 : c ≤ 255) :
  Calls Tryz.prog 93 #[.pointer (some ⟨d, 0, none⟩), .int .u8 c] w (Yj d v L g w (Yau L c k) Ins.val) := by
 by_cases h104 : c = 104
 ·subst h104
  have e : Yau L 104 k = ((Yah L k).bind fun o k => .ok ⟨28, 0, o, Opd.none, false, 0⟩ k) := rfl
  rw [e]
  cases h : Yah L k with
  |err e => exact Ylo d g k v L w hD e h
  |ok o k1 => exact Ylf d g k v L w hD o k1 h
 by_cases h106 : c = 106
 ·subst h106
  have e : Yau L 106 k = ((Yb1 L k).bind fun o k => .ok ⟨28, 0, o, Opd.none, false, 0⟩ k) := rfl
  rw [e]
  cases h : Yb1 L k with
  |err e => exact Ymj d g k v L w hD e h
  |ok o k1 => exact Ym8 d g k v L w hD o k1 h
 by_cases h129 : c = 129
 ·subst h129
  have e : Yau L 129 k = (Yau L 129 k) := rfl
  rw [e]
  exact mv81_any d g k v L w hD
 by_cases h131 : c = 131
 ·subst h131
  have e : Yau L 131 k = (Yau L 131 k) := rfl
  rw [e]
  exact mv83_any d g k v L w hD
 by_cases h133 : c = 133
 ·subst h133
  have e : Yau L 133 k = (Yao L 11 false k) := rfl
  rw [e]
  cases h : Yao L 11 false k with
  |err e => exact Yl5 d g k v L w hD e h
  |ok i k1 => exact Ymm d g k v L w hD i k1 h
 by_cases h135 : c = 135
 ·subst h135
  have e : Yau L 135 k = (Yao L 27 false k) := rfl
  rw [e]
  cases h : Yao L 27 false k with
  |err e => exact Ylt d g k v L w hD e h
  |ok i k1 => exact Ymf d g k v L w hD i k1 h
 by_cases h136 : c = 136
 ·subst h136
  have e : Yau L 136 k = (Yao L 2 false k) := rfl
  rw [e]
  cases h : Yao L 2 false k with
  |err e => exact Ymr d g k v L w hD e h
  |ok i k1 => exact Yms d g k v L w hD i k1 h
 by_cases h138 : c = 138
 ·subst h138
  have e : Yau L 138 k = (Yao L 2 true k) := rfl
  rw [e]
  cases h : Yao L 2 true k with
  |err e => exact Ymc d g k v L w hD e h
  |ok i k1 => exact Ym5 d g k v L w hD i k1 h
 by_cases h137 : c = 137
 ·subst h137
  have e : Yau L 137 k = (Yao L 1 false k) := rfl
  rw [e]
  cases h : Yao L 1 false k with
  |err e => exact Ymi d g k v L w hD e h
  |ok i k1 => exact Ynb d g k v L w hD i k1 h
 by_cases h139 : c = 139
 ·subst h139
  have e : Yau L 139 k = (Yao L 1 true k) := rfl
  rw [e]
  cases h : Yao L 1 true k with
  |err e => exact Yl0 d g k v L w hD e h
  |ok i k1 => exact Ym2 d g k v L w hD i k1 h
 by_cases h141 : c = 141
 ·subst h141
  have e : Yau L 141 k = (Yga L k) := rfl
  rw [e]
  cases h : Yga L k with
  |err e => exact Ylh d g k v L w hD e h
  |ok i k1 => exact Ylu d g k v L w hD i k1 h
 by_cases h169 : c = 169
 ·subst h169
  have e : Yau L 169 k = ((Yah L k).bind fun o k => .ok ⟨11, 0, Yak 0, o, false, 0⟩ k) := rfl
  rw [e]
  cases h : Yah L k with
  |err e => exact Yl8 d g k v L w hD e h
  |ok o k1 => exact Yma d g k v L w hD o k1 h
 by_cases h198 : c = 198
 ·subst h198
  have e : Yau L 198 k = (Yde L 198 k) := rfl
  rw [e]
  cases h : Yde L 198 k with
  |err e => exact Yl6 d g k v L w hD e h
  |ok i k1 => exact Ylk d g k v L w hD i k1 h
 by_cases h199 : c = 199
 ·subst h199
  have e : Yau L 199 k = (Yde L 199 k) := rfl
  rw [e]
  cases h : Yde L 199 k with
  |err e => exact Yld d g k v L w hD e h
  |ok i k1 => exact Yl2 d g k v L w hD i k1 h
 have e : Yau L c k = Ybz L c k := by simp [Yau, h104, h106, h129, h131, h133, h135, h136, h138, h137, h139, h141, h169, h198, h199]
 rw [e]
 cases h : Ybz L c k with
 |err e => exact Ymw d g k v L w hD c hc0 hc1 h104 h106 h129 h131 h133 h135 h136 h138 h137 h139 h141 h169 h198 h199 e h
 |ok i k1 => exact Ym0 d g k v L w hD c hc0 hc1 h104 h106 h129 h131 h133 h135 h136 h138 h137 h139 h141 h169 h198 h199 i k1 h
end Go.Proofs.YthakgjpejhjaoaaGreat
