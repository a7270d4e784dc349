/-
  Parts of the proof (their names shortened by a program). No condition.
-/
import Derived.Test.YthakgjpejhjaoaaGreatMg01
import Derived.Test.YthakgjpejhjaoaaGreatMg12
namespace Go.Proofs.YthakgjpejhjaoaaGreat
open Go Go.RowKit
set_option linter.unusedVariables false
set_option linter.unusedSimpArgs false
set_option maxRecDepth 100000
set_option maxHeartbeats 16000000
theorem Ykf (d g k : Nat) (v : Value) (L : List Int) (w : World) (hD : Yc w d v L g k) (e : Int) (h : Ycf L 193 k = .err e) :
  Calls Tryz.prog 137 #[.pointer (some ⟨d, 0, none⟩), .int .u8 193] w (Yl d v L g w (.err e) Ins.val) := by
 have HD := Yh_ hD
 have S1 := Yh_ (RS.start hD)
 have HP2 := Yh_ (fun (w1 : World) (hd1 : Yc w1 d v L g k) => by have := Yee d g k v L 193 w1 hd1; rw [h] at this; exact this)
 clear hD h
 go_enter Tryz.func137, Tryz.ntmps137
 go_wp2_with (have _t := S1; clear _t; go_at_call 139; refine (HP2.out _ (S1.out).dd).mono ?_; rintro e w2 ⟨rfl, hu⟩)
 exact ⟨rfl, rfl, (S1.out).uu.also hu (by simp)⟩
theorem Ykn (d g k : Nat) (v : Value) (L : List Int) (w : World) (hD : Yc w d v L g k) (i : Ins) (k1 : Nat) (h : Ycf L 193 k = .ok i k1) :
  Calls Tryz.prog 137 #[.pointer (some ⟨d, 0, none⟩), .int .u8 193] w (Yl d v L g w (.ok i k1) Ins.val) := by
 have HD := Yh_ hD
 have S1 := Yh_ (RS.start hD)
 have HP2 := Yh_ (fun (w1 : World) (hd1 : Yc w1 d v L g k) => by have := Yee d g k v L 193 w1 hd1; rw [h] at this; exact this)
 clear hD h
 go_enter Tryz.func137, Tryz.ntmps137
 go_wp2_with (first | (have _t := S1; clear _t; go_at_call 139; refine (HP2.out _ (S1.out).dd).mono ?_; rintro e w2 ⟨rfl, hD2, hu⟩; have S2 := Yh_ ((S1.out).step hD2 hu); clear hD2 hu S1) | (have _t := S2; clear _t; refine Ye 41 rfl ?_; refine Yd i w.heap.size rfl _ _ rfl rfl rfl (S2.out).rr rfl ?_; intro w3 hw; have S3 := Yh_ ((S2.out).store HD.out rfl hw); clear hw S2))
 exact bodyPost_ret (Yf rfl (Ys 4 w.heap.size _ rfl S3.out.rr)) rfl ⟨rfl, S3.out.dd, S3.out.uu⟩
theorem Yka (d g k : Nat) (v : Value) (L : List Int) (w : World) (hD : Yc w d v L g k) (e : Int) (h : Ycf L 209 k = .err e) :
  Calls Tryz.prog 137 #[.pointer (some ⟨d, 0, none⟩), .int .u8 209] w (Yl d v L g w (.err e) Ins.val) := by
 have HD := Yh_ hD
 have S1 := Yh_ (RS.start hD)
 have HP2 := Yh_ (fun (w1 : World) (hd1 : Yc w1 d v L g k) => by have := Yee d g k v L 209 w1 hd1; rw [h] at this; exact this)
 clear hD h
 go_enter Tryz.func137, Tryz.ntmps137
 go_wp2_with (have _t := S1; clear _t; go_at_call 139; refine (HP2.out _ (S1.out).dd).mono ?_; rintro e w2 ⟨rfl, hu⟩)
 exact ⟨rfl, rfl, (S1.out).uu.also hu (by simp)⟩
theorem Ykk (d g k : Nat) (v : Value) (L : List Int) (w : World) (hD : Yc w d v L g k) (i : Ins) (k1 : Nat) (h : Ycf L 209 k = .ok i k1) :
  Calls Tryz.prog 137 #[.pointer (some ⟨d, 0, none⟩), .int .u8 209] w (Yl d v L g w (.ok i k1) Ins.val) := by
 have HD := Yh_ hD
 have S1 := Yh_ (RS.start hD)
 have HP2 := Yh_ (fun (w1 : World) (hd1 : Yc w1 d v L g k) => by have := Yee d g k v L 209 w1 hd1; rw [h] at this; exact this)
 clear hD h
 go_enter Tryz.func137, Tryz.ntmps137
 go_wp2_with (first | (have _t := S1; clear _t; go_at_call 139; refine (HP2.out _ (S1.out).dd).mono ?_; rintro e w2 ⟨rfl, hD2, hu⟩; have S2 := Yh_ ((S1.out).step hD2 hu); clear hD2 hu S1) | (have _t := S2; clear _t; refine Ye 41 rfl ?_; refine Yd i w.heap.size rfl _ _ rfl rfl rfl (S2.out).rr rfl ?_; intro w3 hw; have S3 := Yh_ ((S2.out).store HD.out rfl hw); clear hw S2))
 exact bodyPost_ret (Yf rfl (Ys 4 w.heap.size _ rfl S3.out.rr)) rfl ⟨rfl, S3.out.dd, S3.out.uu⟩
theorem Yko (d g k : Nat) (v : Value) (L : List Int) (w : World) (hD : Yc w d v L g k) (e : Int) (h : Ycf L 211 k = .err e) :
  Calls Tryz.prog 137 #[.pointer (some ⟨d, 0, none⟩), .int .u8 211] w (Yl d v L g w (.err e) Ins.val) := by
 have HD := Yh_ hD
 have S1 := Yh_ (RS.start hD)
 have HP2 := Yh_ (fun (w1 : World) (hd1 : Yc w1 d v L g k) => by have := Yee d g k v L 211 w1 hd1; rw [h] at this; exact this)
 clear hD h
 go_enter Tryz.func137, Tryz.ntmps137
 go_wp2_with (have _t := S1; clear _t; go_at_call 139; refine (HP2.out _ (S1.out).dd).mono ?_; rintro e w2 ⟨rfl, hu⟩)
 exact ⟨rfl, rfl, (S1.out).uu.also hu (by simp)⟩
theorem Yj7 (d g k : Nat) (v : Value) (L : List Int) (w : World) (hD : Yc w d v L g k) (i : Ins) (k1 : Nat) (h : Ycf L 211 k = .ok i k1) :
  Calls Tryz.prog 137 #[.pointer (some ⟨d, 0, none⟩), .int .u8 211] w (Yl d v L g w (.ok i k1) Ins.val) := by
 have HD := Yh_ hD
 have S1 := Yh_ (RS.start hD)
 have HP2 := Yh_ (fun (w1 : World) (hd1 : Yc w1 d v L g k) => by have := Yee d g k v L 211 w1 hd1; rw [h] at this; exact this)
 clear hD h
 go_enter Tryz.func137, Tryz.ntmps137
 go_wp2_with (first | (have _t := S1; clear _t; go_at_call 139; refine (HP2.out _ (S1.out).dd).mono ?_; rintro e w2 ⟨rfl, hD2, hu⟩; have S2 := Yh_ ((S1.out).step hD2 hu); clear hD2 hu S1) | (have _t := S2; clear _t; refine Ye 41 rfl ?_; refine Yd i w.heap.size rfl _ _ rfl rfl rfl (S2.out).rr rfl ?_; intro w3 hw; have S3 := Yh_ ((S2.out).store HD.out rfl hw); clear hw S2))
 exact bodyPost_ret (Yf rfl (Ys 4 w.heap.size _ rfl S3.out.rr)) rfl ⟨rfl, S3.out.dd, S3.out.uu⟩
theorem Ykw (d g k : Nat) (v : Value) (L : List Int) (w : World) (hD : Yc w d v L g k) (e : Int) (h : Ybz L k = .err e) :
  Calls Tryz.prog 137 #[.pointer (some ⟨d, 0, none⟩), .int .u8 205] w (Yl d v L g w (.err e) Ins.val) := by
 have HD := Yh_ hD
 have S1 := Yh_ (RS.start hD)
 have HP2 := Yh_ (fun (w1 : World) (hd1 : Yc w1 d v L g k) => by have := Yc2 d g k v L w1 hd1; rw [h] at this; exact this)
 clear hD h
 go_enter Tryz.func137, Tryz.ntmps137
 go_wp2_with (have _t := S1; clear _t; go_at_call 91; refine (HP2.out _ (S1.out).dd).mono ?_; rintro e w2 ⟨rfl, hu⟩)
 exact ⟨rfl, rfl, (S1.out).uu.also hu (by simp)⟩
theorem Ykd (d g k : Nat) (v : Value) (L : List Int) (w : World) (hD : Yc w d v L g k) (o : Opd) (k1 : Nat) (h : Ybz L k = .ok o k1) (hi : o.imm = 128) :
  Calls Tryz.prog 137 #[.pointer (some ⟨d, 0, none⟩), .int .u8 205] w (Yl d v L g w (.ok ⟨43, 0, o, Opd.none, false, 0⟩ k1) Ins.val) := by
 have HD := Yh_ hD
 have S1 := Yh_ (RS.start hD)
 have ei : (o.imm == 128) = true := by simpa using hi
 have HP2 := Yh_ (fun (w1 : World) (hd1 : Yc w1 d v L g k) => by have := Yc2 d g k v L w1 hd1; rw [h] at this; exact this)
 clear hD h hi
 go_enter Tryz.func137, Tryz.ntmps137
 go_wp2_with (first | (have _t := S1; clear _t; go_at_call 91; refine (HP2.out _ (S1.out).dd).mono ?_; rintro e w2 ⟨rfl, hD2, hu⟩; unfold Opd.val; have S2 := Yh_ ((S1.out).step hD2 hu); clear hD2 hu S1) | (have _t := S2; clear _t; refine Ye 41 rfl ?_; refine Yd ⟨43, 0, o, Opd.none, false, 0⟩ w.heap.size rfl _ _ rfl rfl rfl ((S2.out).same ((Upd.refl [] w2).alloc (.cells o.cells 39))).rr rfl ?_; intro w3 hw; have S3 := Yh_ (((S2.out).same ((Upd.refl [] w2).alloc (.cells o.cells 39))).store HD.out rfl hw); clear hw S2))
 exact bodyPost_ret (Yf rfl (Ys 4 w.heap.size _ rfl S3.out.rr)) rfl ⟨rfl, S3.out.dd, S3.out.uu⟩
theorem Ykt (d g k : Nat) (v : Value) (L : List Int) (w : World) (hD : Yc w d v L g k) (o : Opd) (k1 : Nat) (h : Ybz L k = .ok o k1) (hi : o.imm ≠ 128) :
  Calls Tryz.prog 137 #[.pointer (some ⟨d, 0, none⟩), .int .u8 205] w (Yl d v L g w (.err 12) Ins.val) := by
 have HD := Yh_ hD
 have S1 := Yh_ (RS.start hD)
 have ei : (o.imm == 128) = false := by simpa using hi
 have HP2 := Yh_ (fun (w1 : World) (hd1 : Yc w1 d v L g k) => by have := Yc2 d g k v L w1 hd1; rw [h] at this; exact this)
 clear hD h hi
 go_enter Tryz.func137, Tryz.ntmps137
 go_wp2_with (have _t := S1; clear _t; go_at_call 91; refine (HP2.out _ (S1.out).dd).mono ?_; rintro e w2 ⟨rfl, hD2, hu⟩; unfold Opd.val; have S2 := Yh_ ((S1.out).step hD2 hu); clear hD2 hu S1)
 exact ⟨rfl, rfl, ((S2.out).same ((Upd.refl [] w2).alloc (.cells o.cells 39))).uu⟩
theorem Ylg (d g k : Nat) (v : Value) (L : List Int) (w : World) (hD : Yc w d v L g k) (x : Int) (k1 : Nat) (h : Yw L k = .ok x k1) (hx : x = 224) :
  Calls Tryz.prog 137 #[.pointer (some ⟨d, 0, none⟩), .int .u8 217] w (Yl d v L g w (.ok (Ybj 51) k1) Ins.val) := by
 have HD := Yh_ hD
 have S1 := Yh_ (RS.start hD)
 subst hx
 have HP2 := Yh_ (fun (w1 : World) (hd1 : Yc w1 d v L g k) => by have := Yx d g k v L w1 hd1; rw [h] at this; exact this)
 clear hD h
 go_enter Tryz.func137, Tryz.ntmps137
 go_wp2_with (first | (have _t := S1; clear _t; go_at_call 86; refine (HP2.out _ (S1.out).dd).mono ?_; rintro e w2 ⟨rfl, hD2, hu⟩; have S2 := Yh_ ((S1.out).step hD2 hu); clear hD2 hu S1) | (have _t := S2; clear _t; go_at_call 136; refine (Ydn 51 _).mono ?_; rintro e w3 ⟨rfl, hu⟩; have S3 := Yh_ ((S2.out).same hu); clear hu S2) | (have _t := S3; clear _t; refine Ye 41 rfl ?_; refine Yd (Ybj 51) w.heap.size rfl _ _ rfl rfl rfl (S3.out).rr rfl ?_; intro w4 hw; have S4 := Yh_ ((S3.out).store HD.out rfl hw); clear hw S3))
 exact bodyPost_ret (Yf rfl (Ys 4 w.heap.size _ rfl S4.out.rr)) rfl ⟨rfl, S4.out.dd, S4.out.uu⟩
theorem Yk2 (d g k : Nat) (v : Value) (L : List Int) (w : World) (hD : Yc w d v L g k) (x : Int) (k1 : Nat) (h : Yw L k = .ok x k1) (hx : x = 225) :
  Calls Tryz.prog 137 #[.pointer (some ⟨d, 0, none⟩), .int .u8 217] w (Yl d v L g w (.ok (Ybj 52) k1) Ins.val) := by
 have HD := Yh_ hD
 have S1 := Yh_ (RS.start hD)
 subst hx
 have HP2 := Yh_ (fun (w1 : World) (hd1 : Yc w1 d v L g k) => by have := Yx d g k v L w1 hd1; rw [h] at this; exact this)
 clear hD h
 go_enter Tryz.func137, Tryz.ntmps137
 go_wp2_with (first | (have _t := S1; clear _t; go_at_call 86; refine (HP2.out _ (S1.out).dd).mono ?_; rintro e w2 ⟨rfl, hD2, hu⟩; have S2 := Yh_ ((S1.out).step hD2 hu); clear hD2 hu S1) | (have _t := S2; clear _t; go_at_call 136; refine (Ydn 52 _).mono ?_; rintro e w3 ⟨rfl, hu⟩; have S3 := Yh_ ((S2.out).same hu); clear hu S2) | (have _t := S3; clear _t; refine Ye 41 rfl ?_; refine Yd (Ybj 52) w.heap.size rfl _ _ rfl rfl rfl (S3.out).rr rfl ?_; intro w4 hw; have S4 := Yh_ ((S3.out).store HD.out rfl hw); clear hw S3))
 exact bodyPost_ret (Yf rfl (Ys 4 w.heap.size _ rfl S4.out.rr)) rfl ⟨rfl, S4.out.dd, S4.out.uu⟩
theorem Ykh (d g k : Nat) (v : Value) (L : List Int) (w : World) (hD : Yc w d v L g k) (x : Int) (k1 : Nat) (h : Yw L k = .ok x k1) (hx : x ≠ 224) (hy : x ≠ 225) :
  Calls Tryz.prog 137 #[.pointer (some ⟨d, 0, none⟩), .int .u8 217] w (Yl d v L g w (.err 12) Ins.val) := by
 have HD := Yh_ hD
 have S1 := Yh_ (RS.start hD)
 have ex : (x == 224) = false := by simpa using hx
 have ey : (x == 225) = false := by simpa using hy
 have HP2 := Yh_ (fun (w1 : World) (hd1 : Yc w1 d v L g k) => by have := Yx d g k v L w1 hd1; rw [h] at this; exact this)
 clear hD h hx hy
 go_enter Tryz.func137, Tryz.ntmps137
 go_wp2_with (have _t := S1; clear _t; go_at_call 86; refine (HP2.out _ (S1.out).dd).mono ?_; rintro e w2 ⟨rfl, hD2, hu⟩; have S2 := Yh_ ((S1.out).step hD2 hu); clear hD2 hu S1)
 exact ⟨rfl, rfl, (S2.out).uu⟩
theorem Ykz (d g k : Nat) (v : Value) (L : List Int) (w : World) (hD : Yc w d v L g k) (e : Int) (h : Ycr L 220 k = .err e) :
  Calls Tryz.prog 137 #[.pointer (some ⟨d, 0, none⟩), .int .u8 220] w (Yl d v L g w (.err e) Ins.val) := by
 have HD := Yh_ hD
 have S1 := Yh_ (RS.start hD)
 have HP2 := Yh_ (fun (w1 : World) (hd1 : Yc w1 d v L g k) => by have := Yfh d g k v L 220 w1 hd1; rw [h] at this; exact this)
 clear hD h
 go_enter Tryz.func137, Tryz.ntmps137
 go_wp2_with (have _t := S1; clear _t; go_at_call 140; refine (HP2.out _ (S1.out).dd).mono ?_; rintro e w2 ⟨rfl, hu⟩)
 exact ⟨rfl, rfl, (S1.out).uu.also hu (by simp)⟩
theorem Yli (d g k : Nat) (v : Value) (L : List Int) (w : World) (hD : Yc w d v L g k) (i : Ins) (k1 : Nat) (h : Ycr L 220 k = .ok i k1) :
  Calls Tryz.prog 137 #[.pointer (some ⟨d, 0, none⟩), .int .u8 220] w (Yl d v L g w (.ok i k1) Ins.val) := by
 have HD := Yh_ hD
 have S1 := Yh_ (RS.start hD)
 have HP2 := Yh_ (fun (w1 : World) (hd1 : Yc w1 d v L g k) => by have := Yfh d g k v L 220 w1 hd1; rw [h] at this; exact this)
 clear hD h
 go_enter Tryz.func137, Tryz.ntmps137
 go_wp2_with (first | (have _t := S1; clear _t; go_at_call 140; refine (HP2.out _ (S1.out).dd).mono ?_; rintro e w2 ⟨rfl, hD2, hu⟩; have S2 := Yh_ ((S1.out).step hD2 hu); clear hD2 hu S1) | (have _t := S2; clear _t; refine Ye 41 rfl ?_; refine Yd i w.heap.size rfl _ _ rfl rfl rfl (S2.out).rr rfl ?_; intro w3 hw; have S3 := Yh_ ((S2.out).store HD.out rfl hw); clear hw S2))
 exact bodyPost_ret (Yf rfl (Ys 4 w.heap.size _ rfl S3.out.rr)) rfl ⟨rfl, S3.out.dd, S3.out.uu⟩
theorem Yj5 (d g k : Nat) (v : Value) (L : List Int) (w : World) (hD : Yc w d v L g k) (e : Int) (h : Ycr L 221 k = .err e) :
  Calls Tryz.prog 137 #[.pointer (some ⟨d, 0, none⟩), .int .u8 221] w (Yl d v L g w (.err e) Ins.val) := by
 have HD := Yh_ hD
 have S1 := Yh_ (RS.start hD)
 have HP2 := Yh_ (fun (w1 : World) (hd1 : Yc w1 d v L g k) => by have := Yfh d g k v L 221 w1 hd1; rw [h] at this; exact this)
 clear hD h
 go_enter Tryz.func137, Tryz.ntmps137
 go_wp2_with (have _t := S1; clear _t; go_at_call 140; refine (HP2.out _ (S1.out).dd).mono ?_; rintro e w2 ⟨rfl, hu⟩)
 exact ⟨rfl, rfl, (S1.out).uu.also hu (by simp)⟩
theorem Yj9 (d g k : Nat) (v : Value) (L : List Int) (w : World) (hD : Yc w d v L g k) (i : Ins) (k1 : Nat) (h : Ycr L 221 k = .ok i k1) :
  Calls Tryz.prog 137 #[.pointer (some ⟨d, 0, none⟩), .int .u8 221] w (Yl d v L g w (.ok i k1) Ins.val) := by
 have HD := Yh_ hD
 have S1 := Yh_ (RS.start hD)
 have HP2 := Yh_ (fun (w1 : World) (hd1 : Yc w1 d v L g k) => by have := Yfh d g k v L 221 w1 hd1; rw [h] at this; exact this)
 clear hD h
 go_enter Tryz.func137, Tryz.ntmps137
 go_wp2_with (first | (have _t := S1; clear _t; go_at_call 140; refine (HP2.out _ (S1.out).dd).mono ?_; rintro e w2 ⟨rfl, hD2, hu⟩; have S2 := Yh_ ((S1.out).step hD2 hu); clear hD2 hu S1) | (have _t := S2; clear _t; refine Ye 41 rfl ?_; refine Yd i w.heap.size rfl _ _ rfl rfl rfl (S2.out).rr rfl ?_; intro w3 hw; have S3 := Yh_ ((S2.out).store HD.out rfl hw); clear hw S2))
 exact bodyPost_ret (Yf rfl (Ys 4 w.heap.size _ rfl S3.out.rr)) rfl ⟨rfl, S3.out.dd, S3.out.uu⟩
theorem Yg1 : (∀ (d g k : Nat) (v : Value) (L : List Int) (w : World) (hD : Yc w d v L g k) (e : Int) (h : Yw L k = .err e), Calls Tryz.prog 137 #[.pointer (some ⟨d, 0, none⟩), .int .u8 217] w (Yl d v L g w (.err e) Ins.val)) ∧
 (∀ (d g k : Nat) (v : Value) (L : List Int) (w : World) (hD : Yc w d v L g k) (e : Int) (h : Yw L k = .err e), Calls Tryz.prog 137 #[.pointer (some ⟨d, 0, none⟩), .int .u8 243] w (Yl d v L g w (.err e) Ins.val)) := by
 refine ⟨fun d g k v L w hD e h => ?_, fun d g k v L w hD e h => ?_⟩
 all_goals
  have HD := Yh_ hD
  have S1 := Yh_ (RS.start hD)
  have HP2 := Yh_ (fun (w1 : World) (hd1 : Yc w1 d v L g k) => by have := Yx d g k v L w1 hd1; rw [h] at this; exact this)
  clear hD h
  go_enter Tryz.func137, Tryz.ntmps137
  go_wp2_with (have _t := S1; clear _t; go_at_call 86; refine (HP2.out _ (S1.out).dd).mono ?_; rintro e w2 ⟨rfl, hu⟩)
  exact ⟨rfl, rfl, (S1.out).uu.also hu (by simp)⟩
theorem Yj8 (d g k : Nat) (v : Value) (L : List Int) (w : World) (hD : Yc w d v L g k) (x : Int) (k1 : Nat) (h : Yw L k = .ok x k1) (hx : x = 165) :
  Calls Tryz.prog 137 #[.pointer (some ⟨d, 0, none⟩), .int .u8 243] w (Yl d v L g w (.ok ⟨41, 0, Opd.none, Opd.none, true, 0⟩ k1) Ins.val) := by
 have HD := Yh_ hD
 have S1 := Yh_ (RS.start hD)
 subst hx
 have HP2 := Yh_ (fun (w1 : World) (hd1 : Yc w1 d v L g k) => by have := Yx d g k v L w1 hd1; rw [h] at this; exact this)
 clear hD h
 go_enter Tryz.func137, Tryz.ntmps137
 go_wp2_with (first | (have _t := S1; clear _t; go_at_call 86; refine (HP2.out _ (S1.out).dd).mono ?_; rintro e w2 ⟨rfl, hD2, hu⟩; have S2 := Yh_ ((S1.out).step hD2 hu); clear hD2 hu S1) | (have _t := S2; clear _t; refine Ye 41 rfl ?_; refine Yd ⟨41, 0, Opd.none, Opd.none, true, 0⟩ w.heap.size rfl _ _ rfl rfl rfl (S2.out).rr rfl ?_; intro w3 hw; have S3 := Yh_ ((S2.out).store HD.out rfl hw); clear hw S2))
 exact bodyPost_ret (Yf rfl (Ys 4 w.heap.size _ rfl S3.out.rr)) rfl ⟨rfl, S3.out.dd, S3.out.uu⟩
theorem Ylu (d g k : Nat) (v : Value) (L : List Int) (w : World) (hD : Yc w d v L g k) (x : Int) (k1 : Nat) (h : Yw L k = .ok x k1) (hx : x = 171) :
  Calls Tryz.prog 137 #[.pointer (some ⟨d, 0, none⟩), .int .u8 243] w (Yl d v L g w (.ok ⟨42, 0, Opd.none, Opd.none, true, 0⟩ k1) Ins.val) := by
 have HD := Yh_ hD
 have S1 := Yh_ (RS.start hD)
 subst hx
 have HP2 := Yh_ (fun (w1 : World) (hd1 : Yc w1 d v L g k) => by have := Yx d g k v L w1 hd1; rw [h] at this; exact this)
 clear hD h
 go_enter Tryz.func137, Tryz.ntmps137
 go_wp2_with (first | (have _t := S1; clear _t; go_at_call 86; refine (HP2.out _ (S1.out).dd).mono ?_; rintro e w2 ⟨rfl, hD2, hu⟩; have S2 := Yh_ ((S1.out).step hD2 hu); clear hD2 hu S1) | (have _t := S2; clear _t; refine Ye 41 rfl ?_; refine Yd ⟨42, 0, Opd.none, Opd.none, true, 0⟩ w.heap.size rfl _ _ rfl rfl rfl (S2.out).rr rfl ?_; intro w3 hw; have S3 := Yh_ ((S2.out).store HD.out rfl hw); clear hw S2))
 exact bodyPost_ret (Yf rfl (Ys 4 w.heap.size _ rfl S3.out.rr)) rfl ⟨rfl, S3.out.dd, S3.out.uu⟩
theorem Yk7 (d g k : Nat) (v : Value) (L : List Int) (w : World) (hD : Yc w d v L g k) (x : Int) (k1 : Nat) (h : Yw L k = .ok x k1) (hx : x ≠ 165) (hy : x ≠ 171) :
  Calls Tryz.prog 137 #[.pointer (some ⟨d, 0, none⟩), .int .u8 243] w (Yl d v L g w (.err 12) Ins.val) := by
 have HD := Yh_ hD
 have S1 := Yh_ (RS.start hD)
 have ex : (x == 165) = false := by simpa using hx
 have ey : (x == 171) = false := by simpa using hy
 have HP2 := Yh_ (fun (w1 : World) (hd1 : Yc w1 d v L g k) => by have := Yx d g k v L w1 hd1; rw [h] at this; exact this)
 clear hD h hx hy
 go_enter Tryz.func137, Tryz.ntmps137
 go_wp2_with (have _t := S1; clear _t; go_at_call 86; refine (HP2.out _ (S1.out).dd).mono ?_; rintro e w2 ⟨rfl, hD2, hu⟩; have S2 := Yh_ ((S1.out).step hD2 hu); clear hD2 hu S1)
 exact ⟨rfl, rfl, (S2.out).uu⟩
theorem Yk9 (d g k : Nat) (v : Value) (L : List Int) (w : World) (hD : Yc w d v L g k) (e : Int) (h : Yeu L k = .err e) :
  Calls Tryz.prog 137 #[.pointer (some ⟨d, 0, none⟩), .int .u8 247] w (Yl d v L g w (.err e) Ins.val) := by
 have HD := Yh_ hD
 have S1 := Yh_ (RS.start hD)
 have HP2 := Yh_ (fun (w1 : World) (hd1 : Yc w1 d v L g k) => by have := Yjk d g k v L w1 hd1; rw [h] at this; exact this)
 clear hD h
 go_enter Tryz.func137, Tryz.ntmps137
 go_wp2_with (have _t := S1; clear _t; go_at_call 141; refine (HP2.out _ (S1.out).dd).mono ?_; rintro e w2 ⟨rfl, hu⟩)
 exact ⟨rfl, rfl, (S1.out).uu.also hu (by simp)⟩
theorem Ykx (d g k : Nat) (v : Value) (L : List Int) (w : World) (hD : Yc w d v L g k) (i : Ins) (k1 : Nat) (h : Yeu L k = .ok i k1) :
  Calls Tryz.prog 137 #[.pointer (some ⟨d, 0, none⟩), .int .u8 247] w (Yl d v L g w (.ok i k1) Ins.val) := by
 have HD := Yh_ hD
 have S1 := Yh_ (RS.start hD)
 have HP2 := Yh_ (fun (w1 : World) (hd1 : Yc w1 d v L g k) => by have := Yjk d g k v L w1 hd1; rw [h] at this; exact this)
 clear hD h
 go_enter Tryz.func137, Tryz.ntmps137
 go_wp2_with (first | (have _t := S1; clear _t; go_at_call 141; refine (HP2.out _ (S1.out).dd).mono ?_; rintro e w2 ⟨rfl, hD2, hu⟩; have S2 := Yh_ ((S1.out).step hD2 hu); clear hD2 hu S1) | (have _t := S2; clear _t; refine Ye 41 rfl ?_; refine Yd i w.heap.size rfl _ _ rfl rfl rfl (S2.out).rr rfl ?_; intro w3 hw; have S3 := Yh_ ((S2.out).store HD.out rfl hw); clear hw S2))
 exact bodyPost_ret (Yf rfl (Ys 4 w.heap.size _ rfl S3.out.rr)) rfl ⟨rfl, S3.out.dd, S3.out.uu⟩
theorem Yll (d g k : Nat) (v : Value) (L : List Int) (w : World) (hD : Yc w d v L g k) (e : Int) (h : Yft L k = .err e) :
  Calls Tryz.prog 137 #[.pointer (some ⟨d, 0, none⟩), .int .u8 255] w (Yl d v L g w (.err e) Ins.val) := by
 have HD := Yh_ hD
 have S1 := Yh_ (RS.start hD)
 have HP2 := Yh_ (fun (w1 : World) (hd1 : Yc w1 d v L g k) => by have := Yj0 d g k v L w1 hd1; rw [h] at this; exact this)
 clear hD h
 go_enter Tryz.func137, Tryz.ntmps137
 go_wp2_with (have _t := S1; clear _t; go_at_call 142; refine (HP2.out _ (S1.out).dd).mono ?_; rintro e w2 ⟨rfl, hu⟩)
 exact ⟨rfl, rfl, (S1.out).uu.also hu (by simp)⟩
theorem Yke (d g k : Nat) (v : Value) (L : List Int) (w : World) (hD : Yc w d v L g k) (i : Ins) (k1 : Nat) (h : Yft L k = .ok i k1) :
  Calls Tryz.prog 137 #[.pointer (some ⟨d, 0, none⟩), .int .u8 255] w (Yl d v L g w (.ok i k1) Ins.val) := by
 have HD := Yh_ hD
 have S1 := Yh_ (RS.start hD)
 have HP2 := Yh_ (fun (w1 : World) (hd1 : Yc w1 d v L g k) => by have := Yj0 d g k v L w1 hd1; rw [h] at this; exact this)
 clear hD h
 go_enter Tryz.func137, Tryz.ntmps137
 go_wp2_with (first | (have _t := S1; clear _t; go_at_call 142; refine (HP2.out _ (S1.out).dd).mono ?_; rintro e w2 ⟨rfl, hD2, hu⟩; have S2 := Yh_ ((S1.out).step hD2 hu); clear hD2 hu S1) | (have _t := S2; clear _t; refine Ye 41 rfl ?_; refine Yd i w.heap.size rfl _ _ rfl rfl rfl (S2.out).rr rfl ?_; intro w3 hw; have S3 := Yh_ ((S2.out).store HD.out rfl hw); clear hw S2))
 exact bodyPost_ret (Yf rfl (Ys 4 w.heap.size _ rfl S3.out.rr)) rfl ⟨rfl, S3.out.dd, S3.out.uu⟩
theorem Ym0 (d g k : Nat) (v : Value) (L : List Int) (w : World) (hD : Yc w d v L g k) (c : Int) (hc0 : 0 ≤ c) (hc1 : c ≤ 255) (h193 : c ≠ 193) (h209 : c ≠ 209) (h211 : c ≠ 211) (h205 : c ≠ 205) (h217 : c ≠ 217) (h220 : c ≠ 220) (h221 : c ≠ 221) (h243 : c ≠ 243) (h247 : c ≠ 247) (h255 : c ≠ 255) :
  Calls Tryz.prog 137 #[.pointer (some ⟨d, 0, none⟩), .int .u8 c] w (Yl d v L g w (.err 12) Ins.val) := by
 have HD := Yh_ hD
 have S1 := Yh_ (RS.start hD)
 have e193 : (c == 193) = false := by simpa using h193
 have e209 : (c == 209) = false := by simpa using h209
 have e211 : (c == 211) = false := by simpa using h211
 have e205 : (c == 205) = false := by simpa using h205
 have e217 : (c == 217) = false := by simpa using h217
 have e220 : (c == 220) = false := by simpa using h220
 have e221 : (c == 221) = false := by simpa using h221
 have e243 : (c == 243) = false := by simpa using h243
 have e247 : (c == 247) = false := by simpa using h247
 have e255 : (c == 255) = false := by simpa using h255
 clear hD h193 h209 h211 h205 h217 h220 h221 h243 h247 h255
 go_enter Tryz.func137, Tryz.ntmps137
 go_wp2_with fail
 exact ⟨rfl, rfl, (S1.out).uu⟩
theorem Yim (d g k : Nat) (v : Value) (L : List Int) (c : Int) (w : World) (hD : Yc w d v L g k) (hc0 : 0 ≤ c) (hc1 : c ≤ 255) :
  Calls Tryz.prog 137 #[.pointer (some ⟨d, 0, none⟩), .int .u8 c] w (Yl d v L g w (Ybw L c k) Ins.val) := by
 by_cases h193 : c = 193
 ·subst h193
  have e : Ybw L 193 k = (Ycf L 193 k) := rfl
  rw [e]
  cases h : Ycf L 193 k with
  |err e => exact Ykf d g k v L w hD e h
  |ok i k1 => exact Ykn d g k v L w hD i k1 h
 by_cases h209 : c = 209
 ·subst h209
  have e : Ybw L 209 k = (Ycf L 209 k) := rfl
  rw [e]
  cases h : Ycf L 209 k with
  |err e => exact Yka d g k v L w hD e h
  |ok i k1 => exact Ykk d g k v L w hD i k1 h
 by_cases h211 : c = 211
 ·subst h211
  have e : Ybw L 211 k = (Ycf L 211 k) := rfl
  rw [e]
  cases h : Ycf L 211 k with
  |err e => exact Yko d g k v L w hD e h
  |ok i k1 => exact Yj7 d g k v L w hD i k1 h
 by_cases h205 : c = 205
 ·subst h205
  have e : Ybw L 205 k = ((Ybz L k).bind fun o k => if o.imm = 128 then .ok ⟨43, 0, o, Opd.none, false, 0⟩ k else .err 12) := rfl
  rw [e]
  cases h : Ybz L k with
  |err e => exact Ykw d g k v L w hD e h
  |ok o k1 =>
   rw [DR.bind_ok]
   by_cases hi : o.imm = 128
   ·rw [if_pos hi]; exact Ykd d g k v L w hD o k1 h hi
   ·rw [if_neg hi]; exact Ykt d g k v L w hD o k1 h hi
 by_cases h217 : c = 217
 ·subst h217
  have e : Ybw L 217 k = ((Yw L k).bind fun x k => if x = 224 then .ok (Ybj 51) k else if x = 225 then .ok (Ybj 52) k else .err 12) := rfl
  rw [e]
  cases h : Yw L k with
  |err e => exact Yg1.1 d g k v L w hD e h
  |ok x k1 =>
   rw [DR.bind_ok]
   by_cases hx : x = 224
   ·rw [if_pos hx]; exact Ylg d g k v L w hD x k1 h hx
   ·rw [if_neg hx]
    by_cases hy : x = 225
    ·rw [if_pos hy]; exact Yk2 d g k v L w hD x k1 h hy
    ·rw [if_neg hy]; exact Ykh d g k v L w hD x k1 h hx hy
 by_cases h220 : c = 220
 ·subst h220
  have e : Ybw L 220 k = (Ycr L 220 k) := rfl
  rw [e]
  cases h : Ycr L 220 k with
  |err e => exact Ykz d g k v L w hD e h
  |ok i k1 => exact Yli d g k v L w hD i k1 h
 by_cases h221 : c = 221
 ·subst h221
  have e : Ybw L 221 k = (Ycr L 221 k) := rfl
  rw [e]
  cases h : Ycr L 221 k with
  |err e => exact Yj5 d g k v L w hD e h
  |ok i k1 => exact Yj9 d g k v L w hD i k1 h
 by_cases h243 : c = 243
 ·subst h243
  have e : Ybw L 243 k = ((Yw L k).bind fun x k => if x = 165 then .ok ⟨41, 0, Opd.none, Opd.none, true, 0⟩ k else if x = 171 then .ok ⟨42, 0, Opd.none, Opd.none, true, 0⟩ k else .err 12) := rfl
  rw [e]
  cases h : Yw L k with
  |err e => exact Yg1.2 d g k v L w hD e h
  |ok x k1 =>
   rw [DR.bind_ok]
   by_cases hx : x = 165
   ·rw [if_pos hx]; exact Yj8 d g k v L w hD x k1 h hx
   ·rw [if_neg hx]
    by_cases hy : x = 171
    ·rw [if_pos hy]; exact Ylu d g k v L w hD x k1 h hy
    ·rw [if_neg hy]; exact Yk7 d g k v L w hD x k1 h hx hy
 by_cases h247 : c = 247
 ·subst h247
  have e : Ybw L 247 k = (Yeu L k) := rfl
  rw [e]
  cases h : Yeu L k with
  |err e => exact Yk9 d g k v L w hD e h
  |ok i k1 => exact Ykx d g k v L w hD i k1 h
 by_cases h255 : c = 255
 ·subst h255
  have e : Ybw L 255 k = (Yft L k) := rfl
  rw [e]
  cases h : Yft L k with
  |err e => exact Yll d g k v L w hD e h
  |ok i k1 => exact Yke d g k v L w hD i k1 h
 have e : Ybw L c k = .err 12 := by simp [Ybw, h193, h209, h211, h205, h217, h220, h221, h243, h247, h255]
 rw [e]
 exact Ym0 d g k v L w hD c hc0 hc1 h193 h209 h211 h205 h217 h220 h221 h243 h247 h255
theorem Yni (d g k : Nat) (v : Value) (L : List Int) (w : World) (hD : Yc w d v L g k)  :
  Calls Tryz.prog 127 #[.pointer (some ⟨d, 0, none⟩), .int .u8 144] w (Yl d v L g w (.ok (Ybj 44) k) Ins.val) := by
 have HD := Yh_ hD
 have S1 := Yh_ (RS.start hD)
 clear hD
 go_enter Tryz.func127, Tryz.ntmps127
 go_wp2_with (first | (have _t := S1; clear _t; go_at_call 136; refine (Ydn 44 _).mono ?_; rintro e w2 ⟨rfl, hu⟩; have S2 := Yh_ ((S1.out).same hu); clear hu S1) | (have _t := S2; clear _t; refine Ye 41 rfl ?_; refine Yd (Ybj 44) w.heap.size rfl _ _ rfl rfl rfl (S2.out).rr rfl ?_; intro w3 hw; have S3 := Yh_ ((S2.out).store HD.out rfl hw); clear hw S2))
 exact bodyPost_ret (Yf rfl (Ys 4 w.heap.size _ rfl S3.out.rr)) rfl ⟨rfl, S3.out.dd, S3.out.uu⟩
theorem Ymw (d g k : Nat) (v : Value) (L : List Int) (w : World) (hD : Yc w d v L g k)  :
  Calls Tryz.prog 127 #[.pointer (some ⟨d, 0, none⟩), .int .u8 153] w (Yl d v L g w (.ok (Ybj 38) k) Ins.val) := by
 have HD := Yh_ hD
 have S1 := Yh_ (RS.start hD)
 clear hD
 go_enter Tryz.func127, Tryz.ntmps127
 go_wp2_with (first | (have _t := S1; clear _t; go_at_call 136; refine (Ydn 38 _).mono ?_; rintro e w2 ⟨rfl, hu⟩; have S2 := Yh_ ((S1.out).same hu); clear hu S1) | (have _t := S2; clear _t; refine Ye 41 rfl ?_; refine Yd (Ybj 38) w.heap.size rfl _ _ rfl rfl rfl (S2.out).rr rfl ?_; intro w3 hw; have S3 := Yh_ ((S2.out).store HD.out rfl hw); clear hw S2))
 exact bodyPost_ret (Yf rfl (Ys 4 w.heap.size _ rfl S3.out.rr)) rfl ⟨rfl, S3.out.dd, S3.out.uu⟩
theorem Ymn (d g k : Nat) (v : Value) (L : List Int) (w : World) (hD : Yc w d v L g k)  :
  Calls Tryz.prog 127 #[.pointer (some ⟨d, 0, none⟩), .int .u8 165] w (Yl d v L g w (.ok (Ybj 41) k) Ins.val) := by
 have HD := Yh_ hD
 have S1 := Yh_ (RS.start hD)
 clear hD
 go_enter Tryz.func127, Tryz.ntmps127
 go_wp2_with (first | (have _t := S1; clear _t; go_at_call 136; refine (Ydn 41 _).mono ?_; rintro e w2 ⟨rfl, hu⟩; have S2 := Yh_ ((S1.out).same hu); clear hu S1) | (have _t := S2; clear _t; refine Ye 41 rfl ?_; refine Yd (Ybj 41) w.heap.size rfl _ _ rfl rfl rfl (S2.out).rr rfl ?_; intro w3 hw; have S3 := Yh_ ((S2.out).store HD.out rfl hw); clear hw S2))
 exact bodyPost_ret (Yf rfl (Ys 4 w.heap.size _ rfl S3.out.rr)) rfl ⟨rfl, S3.out.dd, S3.out.uu⟩
theorem Yna (d g k : Nat) (v : Value) (L : List Int) (w : World) (hD : Yc w d v L g k)  :
  Calls Tryz.prog 127 #[.pointer (some ⟨d, 0, none⟩), .int .u8 171] w (Yl d v L g w (.ok (Ybj 42) k) Ins.val) := by
 have HD := Yh_ hD
 have S1 := Yh_ (RS.start hD)
 clear hD
 go_enter Tryz.func127, Tryz.ntmps127
 go_wp2_with (first | (have _t := S1; clear _t; go_at_call 136; refine (Ydn 42 _).mono ?_; rintro e w2 ⟨rfl, hu⟩; have S2 := Yh_ ((S1.out).same hu); clear hu S1) | (have _t := S2; clear _t; refine Ye 41 rfl ?_; refine Yd (Ybj 42) w.heap.size rfl _ _ rfl rfl rfl (S2.out).rr rfl ?_; intro w3 hw; have S3 := Yh_ ((S2.out).store HD.out rfl hw); clear hw S2))
 exact bodyPost_ret (Yf rfl (Ys 4 w.heap.size _ rfl S3.out.rr)) rfl ⟨rfl, S3.out.dd, S3.out.uu⟩
theorem Ynb (d g k : Nat) (v : Value) (L : List Int) (w : World) (hD : Yc w d v L g k)  :
  Calls Tryz.prog 127 #[.pointer (some ⟨d, 0, none⟩), .int .u8 195] w (Yl d v L g w (.ok (Ybj 31) k) Ins.val) := by
 have HD := Yh_ hD
 have S1 := Yh_ (RS.start hD)
 clear hD
 go_enter Tryz.func127, Tryz.ntmps127
 go_wp2_with (first | (have _t := S1; clear _t; go_at_call 136; refine (Ydn 31 _).mono ?_; rintro e w2 ⟨rfl, hu⟩; have S2 := Yh_ ((S1.out).same hu); clear hu S1) | (have _t := S2; clear _t; refine Ye 41 rfl ?_; refine Yd (Ybj 31) w.heap.size rfl _ _ rfl rfl rfl (S2.out).rr rfl ?_; intro w3 hw; have S3 := Yh_ ((S2.out).store HD.out rfl hw); clear hw S2))
 exact bodyPost_ret (Yf rfl (Ys 4 w.heap.size _ rfl S3.out.rr)) rfl ⟨rfl, S3.out.dd, S3.out.uu⟩
theorem Yme (d g k : Nat) (v : Value) (L : List Int) (w : World) (hD : Yc w d v L g k)  :
  Calls Tryz.prog 127 #[.pointer (some ⟨d, 0, none⟩), .int .u8 252] w (Yl d v L g w (.ok (Ybj 39) k) Ins.val) := by
 have HD := Yh_ hD
 have S1 := Yh_ (RS.start hD)
 clear hD
 go_enter Tryz.func127, Tryz.ntmps127
 go_wp2_with (first | (have _t := S1; clear _t; go_at_call 136; refine (Ydn 39 _).mono ?_; rintro e w2 ⟨rfl, hu⟩; have S2 := Yh_ ((S1.out).same hu); clear hu S1) | (have _t := S2; clear _t; refine Ye 41 rfl ?_; refine Yd (Ybj 39) w.heap.size rfl _ _ rfl rfl rfl (S2.out).rr rfl ?_; intro w3 hw; have S3 := Yh_ ((S2.out).store HD.out rfl hw); clear hw S2))
 exact bodyPost_ret (Yf rfl (Ys 4 w.heap.size _ rfl S3.out.rr)) rfl ⟨rfl, S3.out.dd, S3.out.uu⟩
theorem Ymd (d g k : Nat) (v : Value) (L : List Int) (w : World) (hD : Yc w d v L g k)  :
  Calls Tryz.prog 127 #[.pointer (some ⟨d, 0, none⟩), .int .u8 253] w (Yl d v L g w (.ok (Ybj 40) k) Ins.val) := by
 have HD := Yh_ hD
 have S1 := Yh_ (RS.start hD)
 clear hD
 go_enter Tryz.func127, Tryz.ntmps127
 go_wp2_with (first | (have _t := S1; clear _t; go_at_call 136; refine (Ydn 40 _).mono ?_; rintro e w2 ⟨rfl, hu⟩; have S2 := Yh_ ((S1.out).same hu); clear hu S1) | (have _t := S2; clear _t; refine Ye 41 rfl ?_; refine Yd (Ybj 40) w.heap.size rfl _ _ rfl rfl rfl (S2.out).rr rfl ?_; intro w3 hw; have S3 := Yh_ ((S2.out).store HD.out rfl hw); clear hw S2))
 exact bodyPost_ret (Yf rfl (Ys 4 w.heap.size _ rfl S3.out.rr)) rfl ⟨rfl, S3.out.dd, S3.out.uu⟩
theorem Ymq (d g k : Nat) (v : Value) (L : List Int) (w : World) (hD : Yc w d v L g k) (o : Opd) (k1 : Nat) (h : Yak L k = .ok o k1) :
  Calls Tryz.prog 127 #[.pointer (some ⟨d, 0, none⟩), .int .u8 232] w (Yl d v L g w (.ok ⟨30, 0, o, Opd.none, false, 0⟩ k1) Ins.val) := by
 have HD := Yh_ hD
 have S1 := Yh_ (RS.start hD)
 have HP2 := Yh_ (fun (w1 : World) (hd1 : Yc w1 d v L g k) => by have := Ybo d g k v L w1 hd1; rw [h] at this; exact this)
 clear hD h
 go_enter Tryz.func127, Tryz.ntmps127
 go_wp2_with (first | (have _t := S1; clear _t; go_at_call 92; refine (HP2.out _ (S1.out).dd).mono ?_; rintro e w2 ⟨rfl, hD2, hu⟩; unfold Opd.val; have S2 := Yh_ ((S1.out).step hD2 hu); clear hD2 hu S1) | (have _t := S2; clear _t; refine Ye 41 rfl ?_; refine Yd ⟨30, 0, o, Opd.none, false, 0⟩ w.heap.size rfl _ _ rfl rfl rfl (S2.out).rr rfl ?_; intro w3 hw; have S3 := Yh_ ((S2.out).store HD.out rfl hw); clear hw S2))
 exact bodyPost_ret (Yf rfl (Ys 4 w.heap.size _ rfl S3.out.rr)) rfl ⟨rfl, S3.out.dd, S3.out.uu⟩
theorem Yg2 : (∀ (d g k : Nat) (v : Value) (L : List Int) (w : World) (hD : Yc w d v L g k) (e : Int) (h : Yak L k = .err e), Calls Tryz.prog 127 #[.pointer (some ⟨d, 0, none⟩), .int .u8 232] w (Yl d v L g w (.err e) Ins.val)) ∧
 (∀ (d g k : Nat) (v : Value) (L : List Int) (w : World) (hD : Yc w d v L g k) (e : Int) (h : Yak L k = .err e), Calls Tryz.prog 127 #[.pointer (some ⟨d, 0, none⟩), .int .u8 233] w (Yl d v L g w (.err e) Ins.val)) := by
 refine ⟨fun d g k v L w hD e h => ?_, fun d g k v L w hD e h => ?_⟩
 all_goals
  have HD := Yh_ hD
  have S1 := Yh_ (RS.start hD)
  have HP2 := Yh_ (fun (w1 : World) (hd1 : Yc w1 d v L g k) => by have := Ybo d g k v L w1 hd1; rw [h] at this; exact this)
  clear hD h
  go_enter Tryz.func127, Tryz.ntmps127
  go_wp2_with (have _t := S1; clear _t; go_at_call 92; refine (HP2.out _ (S1.out).dd).mono ?_; rintro e w2 ⟨rfl, hu⟩)
  exact ⟨rfl, rfl, (S1.out).uu.also hu (by simp)⟩
theorem Yl8 (d g k : Nat) (v : Value) (L : List Int) (w : World) (hD : Yc w d v L g k) (o : Opd) (k1 : Nat) (h : Yak L k = .ok o k1) :
  Calls Tryz.prog 127 #[.pointer (some ⟨d, 0, none⟩), .int .u8 233] w (Yl d v L g w (.ok ⟨32, 0, o, Opd.none, false, 0⟩ k1) Ins.val) := by
 have HD := Yh_ hD
 have S1 := Yh_ (RS.start hD)
 have HP2 := Yh_ (fun (w1 : World) (hd1 : Yc w1 d v L g k) => by have := Ybo d g k v L w1 hd1; rw [h] at this; exact this)
 clear hD h
 go_enter Tryz.func127, Tryz.ntmps127
 go_wp2_with (first | (have _t := S1; clear _t; go_at_call 92; refine (HP2.out _ (S1.out).dd).mono ?_; rintro e w2 ⟨rfl, hD2, hu⟩; unfold Opd.val; have S2 := Yh_ ((S1.out).step hD2 hu); clear hD2 hu S1) | (have _t := S2; clear _t; refine Ye 41 rfl ?_; refine Yd ⟨32, 0, o, Opd.none, false, 0⟩ w.heap.size rfl _ _ rfl rfl rfl (S2.out).rr rfl ?_; intro w3 hw; have S3 := Yh_ ((S2.out).store HD.out rfl hw); clear hw S2))
 exact bodyPost_ret (Yf rfl (Ys 4 w.heap.size _ rfl S3.out.rr)) rfl ⟨rfl, S3.out.dd, S3.out.uu⟩
theorem Yl1 (d g k : Nat) (v : Value) (L : List Int) (w : World) (hD : Yc w d v L g k) (e : Int) (h : Yb5 L k = .err e) :
  Calls Tryz.prog 127 #[.pointer (some ⟨d, 0, none⟩), .int .u8 235] w (Yl d v L g w (.err e) Ins.val) := by
 have HD := Yh_ hD
 have S1 := Yh_ (RS.start hD)
 have HP2 := Yh_ (fun (w1 : World) (hd1 : Yc w1 d v L g k) => by have := Ydx d g k v L w1 hd1; rw [h] at this; exact this)
 clear hD h
 go_enter Tryz.func127, Tryz.ntmps127
 go_wp2_with (have _t := S1; clear _t; go_at_call 90; refine (HP2.out _ (S1.out).dd).mono ?_; rintro e w2 ⟨rfl, hu⟩)
 exact ⟨rfl, rfl, (S1.out).uu.also hu (by simp)⟩
theorem Ymj (d g k : Nat) (v : Value) (L : List Int) (w : World) (hD : Yc w d v L g k) (o : Opd) (k1 : Nat) (h : Yb5 L k = .ok o k1) :
  Calls Tryz.prog 127 #[.pointer (some ⟨d, 0, none⟩), .int .u8 235] w (Yl d v L g w (.ok ⟨32, 0, o, Opd.none, false, 0⟩ k1) Ins.val) := by
 have HD := Yh_ hD
 have S1 := Yh_ (RS.start hD)
 have HP2 := Yh_ (fun (w1 : World) (hd1 : Yc w1 d v L g k) => by have := Ydx d g k v L w1 hd1; rw [h] at this; exact this)
 clear hD h
 go_enter Tryz.func127, Tryz.ntmps127
 go_wp2_with (first | (have _t := S1; clear _t; go_at_call 90; refine (HP2.out _ (S1.out).dd).mono ?_; rintro e w2 ⟨rfl, hD2, hu⟩; unfold Opd.val; have S2 := Yh_ ((S1.out).step hD2 hu); clear hD2 hu S1) | (have _t := S2; clear _t; refine Ye 41 rfl ?_; refine Yd ⟨32, 0, o, Opd.none, false, 0⟩ w.heap.size rfl _ _ rfl rfl rfl (S2.out).rr rfl ?_; intro w3 hw; have S3 := Yh_ ((S2.out).store HD.out rfl hw); clear hw S2))
 exact bodyPost_ret (Yf rfl (Ys 4 w.heap.size _ rfl S3.out.rr)) rfl ⟨rfl, S3.out.dd, S3.out.uu⟩
theorem Ymk (d g k : Nat) (v : Value) (L : List Int) (w : World) (hD : Yc w d v L g k) (c : Int) (hc0 : 0 ≤ c) (hc1 : c ≤ 255) (h144 : c ≠ 144) (h153 : c ≠ 153) (h165 : c ≠ 165) (h171 : c ≠ 171) (h195 : c ≠ 195) (h252 : c ≠ 252) (h253 : c ≠ 253) (h232 : c ≠ 232) (h233 : c ≠ 233) (h235 : c ≠ 235) (e : Int) (h : Ybw L c k = .err e) :
  Calls Tryz.prog 127 #[.pointer (some ⟨d, 0, none⟩), .int .u8 c] w (Yl d v L g w (.err e) Ins.val) := by
 have HD := Yh_ hD
 have S1 := Yh_ (RS.start hD)
 have e144 : (c == 144) = false := by simpa using h144
 have e153 : (c == 153) = false := by simpa using h153
 have e165 : (c == 165) = false := by simpa using h165
 have e171 : (c == 171) = false := by simpa using h171
 have e195 : (c == 195) = false := by simpa using h195
 have e252 : (c == 252) = false := by simpa using h252
 have e253 : (c == 253) = false := by simpa using h253
 have e232 : (c == 232) = false := by simpa using h232
 have e233 : (c == 233) = false := by simpa using h233
 have e235 : (c == 235) = false := by simpa using h235
 have HP2 := Yh_ (fun (w1 : World) (hd1 : Yc w1 d v L g k) => by have := Yim d g k v L c w1 hd1 hc0 hc1; rw [h] at this; exact this)
 clear hD h144 h153 h165 h171 h195 h252 h253 h232 h233 h235 h
 go_enter Tryz.func127, Tryz.ntmps127
 go_wp2_with (have _t := S1; clear _t; go_at_call 137; refine (HP2.out _ (S1.out).dd).mono ?_; rintro e w2 ⟨rfl, hu⟩)
 exact ⟨rfl, rfl, (S1.out).uu.also hu (by simp)⟩
theorem Ynu (d g k : Nat) (v : Value) (L : List Int) (w : World) (hD : Yc w d v L g k) (c : Int) (hc0 : 0 ≤ c) (hc1 : c ≤ 255) (h144 : c ≠ 144) (h153 : c ≠ 153) (h165 : c ≠ 165) (h171 : c ≠ 171) (h195 : c ≠ 195) (h252 : c ≠ 252) (h253 : c ≠ 253) (h232 : c ≠ 232) (h233 : c ≠ 233) (h235 : c ≠ 235) (i : Ins) (k1 : Nat) (h : Ybw L c k = .ok i k1) :
  Calls Tryz.prog 127 #[.pointer (some ⟨d, 0, none⟩), .int .u8 c] w (Yl d v L g w (.ok i k1) Ins.val) := by
 have HD := Yh_ hD
 have S1 := Yh_ (RS.start hD)
 have e144 : (c == 144) = false := by simpa using h144
 have e153 : (c == 153) = false := by simpa using h153
 have e165 : (c == 165) = false := by simpa using h165
 have e171 : (c == 171) = false := by simpa using h171
 have e195 : (c == 195) = false := by simpa using h195
 have e252 : (c == 252) = false := by simpa using h252
 have e253 : (c == 253) = false := by simpa using h253
 have e232 : (c == 232) = false := by simpa using h232
 have e233 : (c == 233) = false := by simpa using h233
 have e235 : (c == 235) = false := by simpa using h235
 have HP2 := Yh_ (fun (w1 : World) (hd1 : Yc w1 d v L g k) => by have := Yim d g k v L c w1 hd1 hc0 hc1; rw [h] at this; exact this)
 clear hD h144 h153 h165 h171 h195 h252 h253 h232 h233 h235 h
 go_enter Tryz.func127, Tryz.ntmps127
 go_wp2_with (first | (have _t := S1; clear _t; go_at_call 137; refine (HP2.out _ (S1.out).dd).mono ?_; rintro e w2 ⟨rfl, hD2, hu⟩; have S2 := Yh_ ((S1.out).step hD2 hu); clear hD2 hu S1) | (have _t := S2; clear _t; refine Ye 41 rfl ?_; refine Yd i w.heap.size rfl _ _ rfl rfl rfl (S2.out).rr rfl ?_; intro w3 hw; have S3 := Yh_ ((S2.out).store HD.out rfl hw); clear hw S2))
 exact bodyPost_ret (Yf rfl (Ys 4 w.heap.size _ rfl S3.out.rr)) rfl ⟨rfl, S3.out.dd, S3.out.uu⟩
theorem Yjj (d g k : Nat) (v : Value) (L : List Int) (c : Int) (w : World) (hD : Yc w d v L g k) (hc0 : 0 ≤ c) (hc1 : c ≤ 255) :
  Calls Tryz.prog 127 #[.pointer (some ⟨d, 0, none⟩), .int .u8 c] w (Yl d v L g w (Yb4 L c k) Ins.val) := by
 by_cases h144 : c = 144
 ·subst h144
  have e : Yb4 L 144 k = (.ok (Ybj 44) k) := rfl
  rw [e]
  exact Yni d g k v L w hD
 by_cases h153 : c = 153
 ·subst h153
  have e : Yb4 L 153 k = (.ok (Ybj 38) k) := rfl
  rw [e]
  exact Ymw d g k v L w hD
 by_cases h165 : c = 165
 ·subst h165
  have e : Yb4 L 165 k = (.ok (Ybj 41) k) := rfl
  rw [e]
  exact Ymn d g k v L w hD
 by_cases h171 : c = 171
 ·subst h171
  have e : Yb4 L 171 k = (.ok (Ybj 42) k) := rfl
  rw [e]
  exact Yna d g k v L w hD
 by_cases h195 : c = 195
 ·subst h195
  have e : Yb4 L 195 k = (.ok (Ybj 31) k) := rfl
  rw [e]
  exact Ynb d g k v L w hD
 by_cases h252 : c = 252
 ·subst h252
  have e : Yb4 L 252 k = (.ok (Ybj 39) k) := rfl
  rw [e]
  exact Yme d g k v L w hD
 by_cases h253 : c = 253
 ·subst h253
  have e : Yb4 L 253 k = (.ok (Ybj 40) k) := rfl
  rw [e]
  exact Ymd d g k v L w hD
 by_cases h232 : c = 232
 ·subst h232
  have e : Yb4 L 232 k = ((Yak L k).bind fun o k => .ok ⟨30, 0, o, Opd.none, false, 0⟩ k) := rfl
  rw [e]
  cases h : Yak L k with
  |err e => exact Yg2.1 d g k v L w hD e h
  |ok o k1 => exact Ymq d g k v L w hD o k1 h
 by_cases h233 : c = 233
 ·subst h233
  have e : Yb4 L 233 k = ((Yak L k).bind fun o k => .ok ⟨32, 0, o, Opd.none, false, 0⟩ k) := rfl
  rw [e]
  cases h : Yak L k with
  |err e => exact Yg2.2 d g k v L w hD e h
  |ok o k1 => exact Yl8 d g k v L w hD o k1 h
 by_cases h235 : c = 235
 ·subst h235
  have e : Yb4 L 235 k = ((Yb5 L k).bind fun o k => .ok ⟨32, 0, o, Opd.none, false, 0⟩ k) := rfl
  rw [e]
  cases h : Yb5 L k with
  |err e => exact Yl1 d g k v L w hD e h
  |ok o k1 => exact Ymj d g k v L w hD o k1 h
 have e : Yb4 L c k = Ybw L c k := by simp [Yb4, h144, h153, h165, h171, h195, h252, h253, h232, h233, h235]
 rw [e]
 cases h : Ybw L c k with
 |err e => exact Ymk d g k v L w hD c hc0 hc1 h144 h153 h165 h171 h195 h252 h253 h232 h233 h235 e h
 |ok i k1 => exact Ynu d g k v L w hD c hc0 hc1 h144 h153 h165 h171 h195 h252 h253 h232 h233 h235 i k1 h
end Go.Proofs.YthakgjpejhjaoaaGreat
