/-
  Parts of the proof (their names shortened by a program). No condition.
-/
import Derived.Test.YteiplidhkelkbaaGreatMg01
import Derived.Test.YteiplidhkelkbaaGreatMg10
namespace Go.Proofs.YteiplidhkelkbaaGreat
open Go Go.RowKit
set_option linter.unusedVariables false
set_option linter.unusedSimpArgs false
set_option maxRecDepth 100000
set_option maxHeartbeats 16000000
theorem Yox (d g k : Nat) (v : Value) (L : List Int) (w : World) (hD : Yd w d v L g k) (e : Int) (h : Ycy L 193 k = .err e) :
  Calls Tryz.prog 99 #[.pointer (some ⟨d, 0, none⟩), .int .u8 193] w (Yp d v L g w (.err e) Ins.val) := by
 have HD := Yh_ hD
 have S1 := Yh_ (RS.start hD)
 have HP2 := Yh_ (fun (w1 : World) (hd1 : Yd w1 d v L g k) => by have := Ygh d g k v L 193 w1 hd1; rw [h] at this; exact this)
 clear hD h
 go_enter Tryz.func99, Tryz.ntmps99
 go_wp2_with (have _t := S1; clear _t; go_at_call 100; refine (HP2.out _ (S1.out).dd).mono ?_; rintro e w2 ⟨rfl, hu⟩)
 exact ⟨rfl, rfl, (S1.out).uu.also hu (by simp)⟩
theorem Yoo (d g k : Nat) (v : Value) (L : List Int) (w : World) (hD : Yd w d v L g k) (i : Ins) (k1 : Nat) (h : Ycy L 193 k = .ok i k1) :
  Calls Tryz.prog 99 #[.pointer (some ⟨d, 0, none⟩), .int .u8 193] w (Yp d v L g w (.ok i k1) Ins.val) := by
 have HD := Yh_ hD
 have S1 := Yh_ (RS.start hD)
 have HP2 := Yh_ (fun (w1 : World) (hd1 : Yd w1 d v L g k) => by have := Ygh d g k v L 193 w1 hd1; rw [h] at this; exact this)
 clear hD h
 go_enter Tryz.func99, Tryz.ntmps99
 go_wp2_with (first | (have _t := S1; clear _t; go_at_call 100; refine (HP2.out _ (S1.out).dd).mono ?_; rintro e w2 ⟨rfl, hD2, hu⟩; have S2 := Yh_ ((S1.out).step hD2 hu); clear hD2 hu S1) | (have _t := S2; clear _t; refine Ye 42 rfl ?_; refine Yb i w.heap.size rfl _ _ rfl rfl rfl (S2.out).rr rfl ?_; intro w3 hw; have S3 := Yh_ ((S2.out).store HD.out rfl hw); clear hw S2))
 exact bodyPost_ret (Yk rfl (Yi 4 w.heap.size _ rfl S3.out.rr)) rfl ⟨rfl, S3.out.dd, S3.out.uu⟩
theorem Yoc (d g k : Nat) (v : Value) (L : List Int) (w : World) (hD : Yd w d v L g k) (e : Int) (h : Ycy L 209 k = .err e) :
  Calls Tryz.prog 99 #[.pointer (some ⟨d, 0, none⟩), .int .u8 209] w (Yp d v L g w (.err e) Ins.val) := by
 have HD := Yh_ hD
 have S1 := Yh_ (RS.start hD)
 have HP2 := Yh_ (fun (w1 : World) (hd1 : Yd w1 d v L g k) => by have := Ygh d g k v L 209 w1 hd1; rw [h] at this; exact this)
 clear hD h
 go_enter Tryz.func99, Tryz.ntmps99
 go_wp2_with (have _t := S1; clear _t; go_at_call 100; refine (HP2.out _ (S1.out).dd).mono ?_; rintro e w2 ⟨rfl, hu⟩)
 exact ⟨rfl, rfl, (S1.out).uu.also hu (by simp)⟩
theorem Yow (d g k : Nat) (v : Value) (L : List Int) (w : World) (hD : Yd w d v L g k) (i : Ins) (k1 : Nat) (h : Ycy L 209 k = .ok i k1) :
  Calls Tryz.prog 99 #[.pointer (some ⟨d, 0, none⟩), .int .u8 209] w (Yp d v L g w (.ok i k1) Ins.val) := by
 have HD := Yh_ hD
 have S1 := Yh_ (RS.start hD)
 have HP2 := Yh_ (fun (w1 : World) (hd1 : Yd w1 d v L g k) => by have := Ygh d g k v L 209 w1 hd1; rw [h] at this; exact this)
 clear hD h
 go_enter Tryz.func99, Tryz.ntmps99
 go_wp2_with (first | (have _t := S1; clear _t; go_at_call 100; refine (HP2.out _ (S1.out).dd).mono ?_; rintro e w2 ⟨rfl, hD2, hu⟩; have S2 := Yh_ ((S1.out).step hD2 hu); clear hD2 hu S1) | (have _t := S2; clear _t; refine Ye 42 rfl ?_; refine Yb i w.heap.size rfl _ _ rfl rfl rfl (S2.out).rr rfl ?_; intro w3 hw; have S3 := Yh_ ((S2.out).store HD.out rfl hw); clear hw S2))
 exact bodyPost_ret (Yk rfl (Yi 4 w.heap.size _ rfl S3.out.rr)) rfl ⟨rfl, S3.out.dd, S3.out.uu⟩
theorem Yng (d g k : Nat) (v : Value) (L : List Int) (w : World) (hD : Yd w d v L g k) (e : Int) (h : Ycy L 211 k = .err e) :
  Calls Tryz.prog 99 #[.pointer (some ⟨d, 0, none⟩), .int .u8 211] w (Yp d v L g w (.err e) Ins.val) := by
 have HD := Yh_ hD
 have S1 := Yh_ (RS.start hD)
 have HP2 := Yh_ (fun (w1 : World) (hd1 : Yd w1 d v L g k) => by have := Ygh d g k v L 211 w1 hd1; rw [h] at this; exact this)
 clear hD h
 go_enter Tryz.func99, Tryz.ntmps99
 go_wp2_with (have _t := S1; clear _t; go_at_call 100; refine (HP2.out _ (S1.out).dd).mono ?_; rintro e w2 ⟨rfl, hu⟩)
 exact ⟨rfl, rfl, (S1.out).uu.also hu (by simp)⟩
theorem Yov (d g k : Nat) (v : Value) (L : List Int) (w : World) (hD : Yd w d v L g k) (i : Ins) (k1 : Nat) (h : Ycy L 211 k = .ok i k1) :
  Calls Tryz.prog 99 #[.pointer (some ⟨d, 0, none⟩), .int .u8 211] w (Yp d v L g w (.ok i k1) Ins.val) := by
 have HD := Yh_ hD
 have S1 := Yh_ (RS.start hD)
 have HP2 := Yh_ (fun (w1 : World) (hd1 : Yd w1 d v L g k) => by have := Ygh d g k v L 211 w1 hd1; rw [h] at this; exact this)
 clear hD h
 go_enter Tryz.func99, Tryz.ntmps99
 go_wp2_with (first | (have _t := S1; clear _t; go_at_call 100; refine (HP2.out _ (S1.out).dd).mono ?_; rintro e w2 ⟨rfl, hD2, hu⟩; have S2 := Yh_ ((S1.out).step hD2 hu); clear hD2 hu S1) | (have _t := S2; clear _t; refine Ye 42 rfl ?_; refine Yb i w.heap.size rfl _ _ rfl rfl rfl (S2.out).rr rfl ?_; intro w3 hw; have S3 := Yh_ ((S2.out).store HD.out rfl hw); clear hw S2))
 exact bodyPost_ret (Yk rfl (Yi 4 w.heap.size _ rfl S3.out.rr)) rfl ⟨rfl, S3.out.dd, S3.out.uu⟩
theorem Ynf (d g k : Nat) (v : Value) (L : List Int) (w : World) (hD : Yd w d v L g k) (e : Int) (h : Ybv L k = .err e) :
  Calls Tryz.prog 99 #[.pointer (some ⟨d, 0, none⟩), .int .u8 205] w (Yp d v L g w (.err e) Ins.val) := by
 have HD := Yh_ hD
 have S1 := Yh_ (RS.start hD)
 have HP2 := Yh_ (fun (w1 : World) (hd1 : Yd w1 d v L g k) => by have := Yed d g k v L w1 hd1; rw [h] at this; exact this)
 clear hD h
 go_enter Tryz.func99, Tryz.ntmps99
 go_wp2_with (have _t := S1; clear _t; go_at_call 69; refine (HP2.out _ (S1.out).dd).mono ?_; rintro e w2 ⟨rfl, hu⟩)
 exact ⟨rfl, rfl, (S1.out).uu.also hu (by simp)⟩
theorem Ynu (d g k : Nat) (v : Value) (L : List Int) (w : World) (hD : Yd w d v L g k) (o : Opd) (k1 : Nat) (h : Ybv L k = .ok o k1) (hi : o.imm = 128) :
  Calls Tryz.prog 99 #[.pointer (some ⟨d, 0, none⟩), .int .u8 205] w (Yp d v L g w (.ok ⟨43, 0, o, Opd.none, false, 0⟩ k1) Ins.val) := by
 have HD := Yh_ hD
 have S1 := Yh_ (RS.start hD)
 have ei : (o.imm == 128) = true := by simpa using hi
 have HP2 := Yh_ (fun (w1 : World) (hd1 : Yd w1 d v L g k) => by have := Yed d g k v L w1 hd1; rw [h] at this; exact this)
 clear hD h hi
 go_enter Tryz.func99, Tryz.ntmps99
 go_wp2_with (first | (have _t := S1; clear _t; go_at_call 69; refine (HP2.out _ (S1.out).dd).mono ?_; rintro e w2 ⟨rfl, hD2, hu⟩; unfold Opd.val; have S2 := Yh_ ((S1.out).step hD2 hu); clear hD2 hu S1) | (have _t := S2; clear _t; refine Ye 42 rfl ?_; refine Yb ⟨43, 0, o, Opd.none, false, 0⟩ w.heap.size rfl _ _ rfl rfl rfl ((S2.out).same ((Upd.refl [] w2).alloc (.cells o.cells 40))).rr rfl ?_; intro w3 hw; have S3 := Yh_ (((S2.out).same ((Upd.refl [] w2).alloc (.cells o.cells 40))).store HD.out rfl hw); clear hw S2))
 exact bodyPost_ret (Yk rfl (Yi 4 w.heap.size _ rfl S3.out.rr)) rfl ⟨rfl, S3.out.dd, S3.out.uu⟩
theorem Yos (d g k : Nat) (v : Value) (L : List Int) (w : World) (hD : Yd w d v L g k) (o : Opd) (k1 : Nat) (h : Ybv L k = .ok o k1) (hi : o.imm ≠ 128) :
  Calls Tryz.prog 99 #[.pointer (some ⟨d, 0, none⟩), .int .u8 205] w (Yp d v L g w (.err 12) Ins.val) := by
 have HD := Yh_ hD
 have S1 := Yh_ (RS.start hD)
 have ei : (o.imm == 128) = false := by simpa using hi
 have HP2 := Yh_ (fun (w1 : World) (hd1 : Yd w1 d v L g k) => by have := Yed d g k v L w1 hd1; rw [h] at this; exact this)
 clear hD h hi
 go_enter Tryz.func99, Tryz.ntmps99
 go_wp2_with (have _t := S1; clear _t; go_at_call 69; refine (HP2.out _ (S1.out).dd).mono ?_; rintro e w2 ⟨rfl, hD2, hu⟩; unfold Opd.val; have S2 := Yh_ ((S1.out).step hD2 hu); clear hD2 hu S1)
 exact ⟨rfl, rfl, ((S2.out).same ((Upd.refl [] w2).alloc (.cells o.cells 40))).uu⟩
theorem Ypa (d g k : Nat) (v : Value) (L : List Int) (w : World) (hD : Yd w d v L g k) (x : Int) (k1 : Nat) (h : Yz L k = .ok x k1) (hx : x = 224) :
  Calls Tryz.prog 99 #[.pointer (some ⟨d, 0, none⟩), .int .u8 217] w (Yp d v L g w (.ok (Yal 51) k1) Ins.val) := by
 have HD := Yh_ hD
 have S1 := Yh_ (RS.start hD)
 subst hx
 have HP2 := Yh_ (fun (w1 : World) (hd1 : Yd w1 d v L g k) => by have := Yaj d g k v L w1 hd1; rw [h] at this; exact this)
 clear hD h
 go_enter Tryz.func99, Tryz.ntmps99
 go_wp2_with (first | (have _t := S1; clear _t; go_at_call 64; refine (HP2.out _ (S1.out).dd).mono ?_; rintro e w2 ⟨rfl, hD2, hu⟩; have S2 := Yh_ ((S1.out).step hD2 hu); clear hD2 hu S1) | (have _t := S2; clear _t; go_at_call 98; refine (Yey 51 _).mono ?_; rintro e w3 ⟨rfl, hu⟩; have S3 := Yh_ ((S2.out).same hu); clear hu S2) | (have _t := S3; clear _t; refine Ye 42 rfl ?_; refine Yb (Yal 51) w.heap.size rfl _ _ rfl rfl rfl (S3.out).rr rfl ?_; intro w4 hw; have S4 := Yh_ ((S3.out).store HD.out rfl hw); clear hw S3))
 exact bodyPost_ret (Yk rfl (Yi 4 w.heap.size _ rfl S4.out.rr)) rfl ⟨rfl, S4.out.dd, S4.out.uu⟩
theorem Yoz (d g k : Nat) (v : Value) (L : List Int) (w : World) (hD : Yd w d v L g k) (x : Int) (k1 : Nat) (h : Yz L k = .ok x k1) (hx : x = 225) :
  Calls Tryz.prog 99 #[.pointer (some ⟨d, 0, none⟩), .int .u8 217] w (Yp d v L g w (.ok (Yal 52) k1) Ins.val) := by
 have HD := Yh_ hD
 have S1 := Yh_ (RS.start hD)
 subst hx
 have HP2 := Yh_ (fun (w1 : World) (hd1 : Yd w1 d v L g k) => by have := Yaj d g k v L w1 hd1; rw [h] at this; exact this)
 clear hD h
 go_enter Tryz.func99, Tryz.ntmps99
 go_wp2_with (first | (have _t := S1; clear _t; go_at_call 64; refine (HP2.out _ (S1.out).dd).mono ?_; rintro e w2 ⟨rfl, hD2, hu⟩; have S2 := Yh_ ((S1.out).step hD2 hu); clear hD2 hu S1) | (have _t := S2; clear _t; go_at_call 98; refine (Yey 52 _).mono ?_; rintro e w3 ⟨rfl, hu⟩; have S3 := Yh_ ((S2.out).same hu); clear hu S2) | (have _t := S3; clear _t; refine Ye 42 rfl ?_; refine Yb (Yal 52) w.heap.size rfl _ _ rfl rfl rfl (S3.out).rr rfl ?_; intro w4 hw; have S4 := Yh_ ((S3.out).store HD.out rfl hw); clear hw S3))
 exact bodyPost_ret (Yk rfl (Yi 4 w.heap.size _ rfl S4.out.rr)) rfl ⟨rfl, S4.out.dd, S4.out.uu⟩
theorem Ynd (d g k : Nat) (v : Value) (L : List Int) (w : World) (hD : Yd w d v L g k) (x : Int) (k1 : Nat) (h : Yz L k = .ok x k1) (hx : x ≠ 224) (hy : x ≠ 225) :
  Calls Tryz.prog 99 #[.pointer (some ⟨d, 0, none⟩), .int .u8 217] w (Yp d v L g w (.err 12) Ins.val) := by
 have HD := Yh_ hD
 have S1 := Yh_ (RS.start hD)
 have ex : (x == 224) = false := by simpa using hx
 have ey : (x == 225) = false := by simpa using hy
 have HP2 := Yh_ (fun (w1 : World) (hd1 : Yd w1 d v L g k) => by have := Yaj d g k v L w1 hd1; rw [h] at this; exact this)
 clear hD h hx hy
 go_enter Tryz.func99, Tryz.ntmps99
 go_wp2_with (have _t := S1; clear _t; go_at_call 64; refine (HP2.out _ (S1.out).dd).mono ?_; rintro e w2 ⟨rfl, hD2, hu⟩; have S2 := Yh_ ((S1.out).step hD2 hu); clear hD2 hu S1)
 exact ⟨rfl, rfl, (S2.out).uu⟩
theorem Ypb (d g k : Nat) (v : Value) (L : List Int) (w : World) (hD : Yd w d v L g k) (e : Int) (h : Yc6 L 220 k = .err e) :
  Calls Tryz.prog 99 #[.pointer (some ⟨d, 0, none⟩), .int .u8 220] w (Yp d v L g w (.err e) Ins.val) := by
 have HD := Yh_ hD
 have S1 := Yh_ (RS.start hD)
 have HP2 := Yh_ (fun (w1 : World) (hd1 : Yd w1 d v L g k) => by have := Yht d g k v L 220 w1 hd1; rw [h] at this; exact this)
 clear hD h
 go_enter Tryz.func99, Tryz.ntmps99
 go_wp2_with (have _t := S1; clear _t; go_at_call 101; refine (HP2.out _ (S1.out).dd).mono ?_; rintro e w2 ⟨rfl, hu⟩)
 exact ⟨rfl, rfl, (S1.out).uu.also hu (by simp)⟩
theorem Yoi (d g k : Nat) (v : Value) (L : List Int) (w : World) (hD : Yd w d v L g k) (i : Ins) (k1 : Nat) (h : Yc6 L 220 k = .ok i k1) :
  Calls Tryz.prog 99 #[.pointer (some ⟨d, 0, none⟩), .int .u8 220] w (Yp d v L g w (.ok i k1) Ins.val) := by
 have HD := Yh_ hD
 have S1 := Yh_ (RS.start hD)
 have HP2 := Yh_ (fun (w1 : World) (hd1 : Yd w1 d v L g k) => by have := Yht d g k v L 220 w1 hd1; rw [h] at this; exact this)
 clear hD h
 go_enter Tryz.func99, Tryz.ntmps99
 go_wp2_with (first | (have _t := S1; clear _t; go_at_call 101; refine (HP2.out _ (S1.out).dd).mono ?_; rintro e w2 ⟨rfl, hD2, hu⟩; have S2 := Yh_ ((S1.out).step hD2 hu); clear hD2 hu S1) | (have _t := S2; clear _t; refine Ye 42 rfl ?_; refine Yb i w.heap.size rfl _ _ rfl rfl rfl (S2.out).rr rfl ?_; intro w3 hw; have S3 := Yh_ ((S2.out).store HD.out rfl hw); clear hw S2))
 exact bodyPost_ret (Yk rfl (Yi 4 w.heap.size _ rfl S3.out.rr)) rfl ⟨rfl, S3.out.dd, S3.out.uu⟩
theorem Yny (d g k : Nat) (v : Value) (L : List Int) (w : World) (hD : Yd w d v L g k) (e : Int) (h : Yc6 L 221 k = .err e) :
  Calls Tryz.prog 99 #[.pointer (some ⟨d, 0, none⟩), .int .u8 221] w (Yp d v L g w (.err e) Ins.val) := by
 have HD := Yh_ hD
 have S1 := Yh_ (RS.start hD)
 have HP2 := Yh_ (fun (w1 : World) (hd1 : Yd w1 d v L g k) => by have := Yht d g k v L 221 w1 hd1; rw [h] at this; exact this)
 clear hD h
 go_enter Tryz.func99, Tryz.ntmps99
 go_wp2_with (have _t := S1; clear _t; go_at_call 101; refine (HP2.out _ (S1.out).dd).mono ?_; rintro e w2 ⟨rfl, hu⟩)
 exact ⟨rfl, rfl, (S1.out).uu.also hu (by simp)⟩
theorem Ynv (d g k : Nat) (v : Value) (L : List Int) (w : World) (hD : Yd w d v L g k) (i : Ins) (k1 : Nat) (h : Yc6 L 221 k = .ok i k1) :
  Calls Tryz.prog 99 #[.pointer (some ⟨d, 0, none⟩), .int .u8 221] w (Yp d v L g w (.ok i k1) Ins.val) := by
 have HD := Yh_ hD
 have S1 := Yh_ (RS.start hD)
 have HP2 := Yh_ (fun (w1 : World) (hd1 : Yd w1 d v L g k) => by have := Yht d g k v L 221 w1 hd1; rw [h] at this; exact this)
 clear hD h
 go_enter Tryz.func99, Tryz.ntmps99
 go_wp2_with (first | (have _t := S1; clear _t; go_at_call 101; refine (HP2.out _ (S1.out).dd).mono ?_; rintro e w2 ⟨rfl, hD2, hu⟩; have S2 := Yh_ ((S1.out).step hD2 hu); clear hD2 hu S1) | (have _t := S2; clear _t; refine Ye 42 rfl ?_; refine Yb i w.heap.size rfl _ _ rfl rfl rfl (S2.out).rr rfl ?_; intro w3 hw; have S3 := Yh_ ((S2.out).store HD.out rfl hw); clear hw S2))
 exact bodyPost_ret (Yk rfl (Yi 4 w.heap.size _ rfl S3.out.rr)) rfl ⟨rfl, S3.out.dd, S3.out.uu⟩
theorem Yg1 : (∀ (d g k : Nat) (v : Value) (L : List Int) (w : World) (hD : Yd w d v L g k) (e : Int) (h : Yz L k = .err e), Calls Tryz.prog 99 #[.pointer (some ⟨d, 0, none⟩), .int .u8 217] w (Yp d v L g w (.err e) Ins.val)) ∧
 (∀ (d g k : Nat) (v : Value) (L : List Int) (w : World) (hD : Yd w d v L g k) (e : Int) (h : Yz L k = .err e), Calls Tryz.prog 99 #[.pointer (some ⟨d, 0, none⟩), .int .u8 243] w (Yp d v L g w (.err e) Ins.val)) := by
 refine ⟨fun d g k v L w hD e h => ?_, fun d g k v L w hD e h => ?_⟩
 all_goals
  have HD := Yh_ hD
  have S1 := Yh_ (RS.start hD)
  have HP2 := Yh_ (fun (w1 : World) (hd1 : Yd w1 d v L g k) => by have := Yaj d g k v L w1 hd1; rw [h] at this; exact this)
  clear hD h
  go_enter Tryz.func99, Tryz.ntmps99
  go_wp2_with (have _t := S1; clear _t; go_at_call 64; refine (HP2.out _ (S1.out).dd).mono ?_; rintro e w2 ⟨rfl, hu⟩)
  exact ⟨rfl, rfl, (S1.out).uu.also hu (by simp)⟩
theorem Ynh (d g k : Nat) (v : Value) (L : List Int) (w : World) (hD : Yd w d v L g k) (x : Int) (k1 : Nat) (h : Yz L k = .ok x k1) (hx : x = 165) :
  Calls Tryz.prog 99 #[.pointer (some ⟨d, 0, none⟩), .int .u8 243] w (Yp d v L g w (.ok ⟨41, 0, Opd.none, Opd.none, true, 0⟩ k1) Ins.val) := by
 have HD := Yh_ hD
 have S1 := Yh_ (RS.start hD)
 subst hx
 have HP2 := Yh_ (fun (w1 : World) (hd1 : Yd w1 d v L g k) => by have := Yaj d g k v L w1 hd1; rw [h] at this; exact this)
 clear hD h
 go_enter Tryz.func99, Tryz.ntmps99
 go_wp2_with (first | (have _t := S1; clear _t; go_at_call 64; refine (HP2.out _ (S1.out).dd).mono ?_; rintro e w2 ⟨rfl, hD2, hu⟩; have S2 := Yh_ ((S1.out).step hD2 hu); clear hD2 hu S1) | (have _t := S2; clear _t; refine Ye 42 rfl ?_; refine Yb ⟨41, 0, Opd.none, Opd.none, true, 0⟩ w.heap.size rfl _ _ rfl rfl rfl (S2.out).rr rfl ?_; intro w3 hw; have S3 := Yh_ ((S2.out).store HD.out rfl hw); clear hw S2))
 exact bodyPost_ret (Yk rfl (Yi 4 w.heap.size _ rfl S3.out.rr)) rfl ⟨rfl, S3.out.dd, S3.out.uu⟩
theorem Yo6 (d g k : Nat) (v : Value) (L : List Int) (w : World) (hD : Yd w d v L g k) (x : Int) (k1 : Nat) (h : Yz L k = .ok x k1) (hx : x = 171) :
  Calls Tryz.prog 99 #[.pointer (some ⟨d, 0, none⟩), .int .u8 243] w (Yp d v L g w (.ok ⟨42, 0, Opd.none, Opd.none, true, 0⟩ k1) Ins.val) := by
 have HD := Yh_ hD
 have S1 := Yh_ (RS.start hD)
 subst hx
 have HP2 := Yh_ (fun (w1 : World) (hd1 : Yd w1 d v L g k) => by have := Yaj d g k v L w1 hd1; rw [h] at this; exact this)
 clear hD h
 go_enter Tryz.func99, Tryz.ntmps99
 go_wp2_with (first | (have _t := S1; clear _t; go_at_call 64; refine (HP2.out _ (S1.out).dd).mono ?_; rintro e w2 ⟨rfl, hD2, hu⟩; have S2 := Yh_ ((S1.out).step hD2 hu); clear hD2 hu S1) | (have _t := S2; clear _t; refine Ye 42 rfl ?_; refine Yb ⟨42, 0, Opd.none, Opd.none, true, 0⟩ w.heap.size rfl _ _ rfl rfl rfl (S2.out).rr rfl ?_; intro w3 hw; have S3 := Yh_ ((S2.out).store HD.out rfl hw); clear hw S2))
 exact bodyPost_ret (Yk rfl (Yi 4 w.heap.size _ rfl S3.out.rr)) rfl ⟨rfl, S3.out.dd, S3.out.uu⟩
theorem Yo9 (d g k : Nat) (v : Value) (L : List Int) (w : World) (hD : Yd w d v L g k) (x : Int) (k1 : Nat) (h : Yz L k = .ok x k1) (hx : x ≠ 165) (hy : x ≠ 171) :
  Calls Tryz.prog 99 #[.pointer (some ⟨d, 0, none⟩), .int .u8 243] w (Yp d v L g w (.err 12) Ins.val) := by
 have HD := Yh_ hD
 have S1 := Yh_ (RS.start hD)
 have ex : (x == 165) = false := by simpa using hx
 have ey : (x == 171) = false := by simpa using hy
 have HP2 := Yh_ (fun (w1 : World) (hd1 : Yd w1 d v L g k) => by have := Yaj d g k v L w1 hd1; rw [h] at this; exact this)
 clear hD h hx hy
 go_enter Tryz.func99, Tryz.ntmps99
 go_wp2_with (have _t := S1; clear _t; go_at_call 64; refine (HP2.out _ (S1.out).dd).mono ?_; rintro e w2 ⟨rfl, hD2, hu⟩; have S2 := Yh_ ((S1.out).step hD2 hu); clear hD2 hu S1)
 exact ⟨rfl, rfl, (S2.out).uu⟩
theorem Ym8 (d g k : Nat) (v : Value) (L : List Int) (w : World) (hD : Yd w d v L g k) (e : Int) (h : Yff L k = .err e) :
  Calls Tryz.prog 99 #[.pointer (some ⟨d, 0, none⟩), .int .u8 247] w (Yp d v L g w (.err e) Ins.val) := by
 have HD := Yh_ hD
 have S1 := Yh_ (RS.start hD)
 have HP2 := Yh_ (fun (w1 : World) (hd1 : Yd w1 d v L g k) => by have := Ymx d g k v L w1 hd1; rw [h] at this; exact this)
 clear hD h
 go_enter Tryz.func99, Tryz.ntmps99
 go_wp2_with (have _t := S1; clear _t; go_at_call 102; refine (HP2.out _ (S1.out).dd).mono ?_; rintro e w2 ⟨rfl, hu⟩)
 exact ⟨rfl, rfl, (S1.out).uu.also hu (by simp)⟩
theorem Ynl (d g k : Nat) (v : Value) (L : List Int) (w : World) (hD : Yd w d v L g k) (i : Ins) (k1 : Nat) (h : Yff L k = .ok i k1) :
  Calls Tryz.prog 99 #[.pointer (some ⟨d, 0, none⟩), .int .u8 247] w (Yp d v L g w (.ok i k1) Ins.val) := by
 have HD := Yh_ hD
 have S1 := Yh_ (RS.start hD)
 have HP2 := Yh_ (fun (w1 : World) (hd1 : Yd w1 d v L g k) => by have := Ymx d g k v L w1 hd1; rw [h] at this; exact this)
 clear hD h
 go_enter Tryz.func99, Tryz.ntmps99
 go_wp2_with (first | (have _t := S1; clear _t; go_at_call 102; refine (HP2.out _ (S1.out).dd).mono ?_; rintro e w2 ⟨rfl, hD2, hu⟩; have S2 := Yh_ ((S1.out).step hD2 hu); clear hD2 hu S1) | (have _t := S2; clear _t; refine Ye 42 rfl ?_; refine Yb i w.heap.size rfl _ _ rfl rfl rfl (S2.out).rr rfl ?_; intro w3 hw; have S3 := Yh_ ((S2.out).store HD.out rfl hw); clear hw S2))
 exact bodyPost_ret (Yk rfl (Yi 4 w.heap.size _ rfl S3.out.rr)) rfl ⟨rfl, S3.out.dd, S3.out.uu⟩
theorem Ynw (d g k : Nat) (v : Value) (L : List Int) (w : World) (hD : Yd w d v L g k) (e : Int) (h : Yf9 L k = .err e) :
  Calls Tryz.prog 99 #[.pointer (some ⟨d, 0, none⟩), .int .u8 255] w (Yp d v L g w (.err e) Ins.val) := by
 have HD := Yh_ hD
 have S1 := Yh_ (RS.start hD)
 have HP2 := Yh_ (fun (w1 : World) (hd1 : Yd w1 d v L g k) => by have := Ynn d g k v L w1 hd1; rw [h] at this; exact this)
 clear hD h
 go_enter Tryz.func99, Tryz.ntmps99
 go_wp2_with (have _t := S1; clear _t; go_at_call 103; refine (HP2.out _ (S1.out).dd).mono ?_; rintro e w2 ⟨rfl, hu⟩)
 exact ⟨rfl, rfl, (S1.out).uu.also hu (by simp)⟩
theorem Yod (d g k : Nat) (v : Value) (L : List Int) (w : World) (hD : Yd w d v L g k) (i : Ins) (k1 : Nat) (h : Yf9 L k = .ok i k1) :
  Calls Tryz.prog 99 #[.pointer (some ⟨d, 0, none⟩), .int .u8 255] w (Yp d v L g w (.ok i k1) Ins.val) := by
 have HD := Yh_ hD
 have S1 := Yh_ (RS.start hD)
 have HP2 := Yh_ (fun (w1 : World) (hd1 : Yd w1 d v L g k) => by have := Ynn d g k v L w1 hd1; rw [h] at this; exact this)
 clear hD h
 go_enter Tryz.func99, Tryz.ntmps99
 go_wp2_with (first | (have _t := S1; clear _t; go_at_call 103; refine (HP2.out _ (S1.out).dd).mono ?_; rintro e w2 ⟨rfl, hD2, hu⟩; have S2 := Yh_ ((S1.out).step hD2 hu); clear hD2 hu S1) | (have _t := S2; clear _t; refine Ye 42 rfl ?_; refine Yb i w.heap.size rfl _ _ rfl rfl rfl (S2.out).rr rfl ?_; intro w3 hw; have S3 := Yh_ ((S2.out).store HD.out rfl hw); clear hw S2))
 exact bodyPost_ret (Yk rfl (Yi 4 w.heap.size _ rfl S3.out.rr)) rfl ⟨rfl, S3.out.dd, S3.out.uu⟩
theorem Yq4 (d g k : Nat) (v : Value) (L : List Int) (w : World) (hD : Yd w d v L g k) (c : Int) (hc0 : 0 ≤ c) (hc1 : c ≤ 255) (h193 : c ≠ 193) (h209 : c ≠ 209) (h211 : c ≠ 211) (h205 : c ≠ 205) (h217 : c ≠ 217) (h220 : c ≠ 220) (h221 : c ≠ 221) (h243 : c ≠ 243) (h247 : c ≠ 247) (h255 : c ≠ 255) :
  Calls Tryz.prog 99 #[.pointer (some ⟨d, 0, none⟩), .int .u8 c] w (Yp d v L g w (.err 12) Ins.val) := by
 have HD := Yh_ hD
 have S1 := Yh_ (RS.start hD)
 have e193 : (c == 193) = false := by simpa using h193
 have e209 : (c == 209) = false := by simpa using h209
 have e211 : (c == 211) = false := by simpa using h211
 have e205 : (c == 205) = false := by simpa using h205
 have e217 : (c == 217) = false := by simpa using h217
 have e220 : (c == 220) = false := by simpa using h220
 have e221 : (c == 221) = false := by simpa using h221
 have e243 : (c == 243) = false := by simpa using h243
 have e247 : (c == 247) = false := by simpa using h247
 have e255 : (c == 255) = false := by simpa using h255
 clear hD h193 h209 h211 h205 h217 h220 h221 h243 h247 h255
 go_enter Tryz.func99, Tryz.ntmps99
 go_wp2_with fail
 exact ⟨rfl, rfl, (S1.out).uu⟩
theorem Ylf (d g k : Nat) (v : Value) (L : List Int) (c : Int) (w : World) (hD : Yd w d v L g k) (hc0 : 0 ≤ c) (hc1 : c ≤ 255) :
  Calls Tryz.prog 99 #[.pointer (some ⟨d, 0, none⟩), .int .u8 c] w (Yp d v L g w (Yb6 L c k) Ins.val) := by
 by_cases h193 : c = 193
 ·subst h193
  have e : Yb6 L 193 k = (Ycy L 193 k) := rfl
  rw [e]
  cases h : Ycy L 193 k with
  |err e => exact Yox d g k v L w hD e h
  |ok i k1 => exact Yoo d g k v L w hD i k1 h
 by_cases h209 : c = 209
 ·subst h209
  have e : Yb6 L 209 k = (Ycy L 209 k) := rfl
  rw [e]
  cases h : Ycy L 209 k with
  |err e => exact Yoc d g k v L w hD e h
  |ok i k1 => exact Yow d g k v L w hD i k1 h
 by_cases h211 : c = 211
 ·subst h211
  have e : Yb6 L 211 k = (Ycy L 211 k) := rfl
  rw [e]
  cases h : Ycy L 211 k with
  |err e => exact Yng d g k v L w hD e h
  |ok i k1 => exact Yov d g k v L w hD i k1 h
 by_cases h205 : c = 205
 ·subst h205
  have e : Yb6 L 205 k = ((Ybv L k).bind fun o k => if o.imm = 128 then .ok ⟨43, 0, o, Opd.none, false, 0⟩ k else .err 12) := rfl
  rw [e]
  cases h : Ybv L k with
  |err e => exact Ynf d g k v L w hD e h
  |ok o k1 =>
   rw [DR.bind_ok]
   by_cases hi : o.imm = 128
   ·rw [if_pos hi]; exact Ynu d g k v L w hD o k1 h hi
   ·rw [if_neg hi]; exact Yos d g k v L w hD o k1 h hi
 by_cases h217 : c = 217
 ·subst h217
  have e : Yb6 L 217 k = ((Yz L k).bind fun x k => if x = 224 then .ok (Yal 51) k else if x = 225 then .ok (Yal 52) k else .err 12) := rfl
  rw [e]
  cases h : Yz L k with
  |err e => exact Yg1.1 d g k v L w hD e h
  |ok x k1 =>
   rw [DR.bind_ok]
   by_cases hx : x = 224
   ·rw [if_pos hx]; exact Ypa d g k v L w hD x k1 h hx
   ·rw [if_neg hx]
    by_cases hy : x = 225
    ·rw [if_pos hy]; exact Yoz d g k v L w hD x k1 h hy
    ·rw [if_neg hy]; exact Ynd d g k v L w hD x k1 h hx hy
 by_cases h220 : c = 220
 ·subst h220
  have e : Yb6 L 220 k = (Yc6 L 220 k) := rfl
  rw [e]
  cases h : Yc6 L 220 k with
  |err e => exact Ypb d g k v L w hD e h
  |ok i k1 => exact Yoi d g k v L w hD i k1 h
 by_cases h221 : c = 221
 ·subst h221
  have e : Yb6 L 221 k = (Yc6 L 221 k) := rfl
  rw [e]
  cases h : Yc6 L 221 k with
  |err e => exact Yny d g k v L w hD e h
  |ok i k1 => exact Ynv d g k v L w hD i k1 h
 by_cases h243 : c = 243
 ·subst h243
  have e : Yb6 L 243 k = ((Yz L k).bind fun x k => if x = 165 then .ok ⟨41, 0, Opd.none, Opd.none, true, 0⟩ k else if x = 171 then .ok ⟨42, 0, Opd.none, Opd.none, true, 0⟩ k else .err 12) := rfl
  rw [e]
  cases h : Yz L k with
  |err e => exact Yg1.2 d g k v L w hD e h
  |ok x k1 =>
   rw [DR.bind_ok]
   by_cases hx : x = 165
   ·rw [if_pos hx]; exact Ynh d g k v L w hD x k1 h hx
   ·rw [if_neg hx]
    by_cases hy : x = 171
    ·rw [if_pos hy]; exact Yo6 d g k v L w hD x k1 h hy
    ·rw [if_neg hy]; exact Yo9 d g k v L w hD x k1 h hx hy
 by_cases h247 : c = 247
 ·subst h247
  have e : Yb6 L 247 k = (Yff L k) := rfl
  rw [e]
  cases h : Yff L k with
  |err e => exact Ym8 d g k v L w hD e h
  |ok i k1 => exact Ynl d g k v L w hD i k1 h
 by_cases h255 : c = 255
 ·subst h255
  have e : Yb6 L 255 k = (Yf9 L k) := rfl
  rw [e]
  cases h : Yf9 L k with
  |err e => exact Ynw d g k v L w hD e h
  |ok i k1 => exact Yod d g k v L w hD i k1 h
 have e : Yb6 L c k = .err 12 := by simp [Yb6, h193, h209, h211, h205, h217, h220, h221, h243, h247, h255]
 rw [e]
 exact Yq4 d g k v L w hD c hc0 hc1 h193 h209 h211 h205 h217 h220 h221 h243 h247 h255
theorem Yql (d g k : Nat) (v : Value) (L : List Int) (w : World) (hD : Yd w d v L g k)  :
  Calls Tryz.prog 93 #[.pointer (some ⟨d, 0, none⟩), .int .u8 144] w (Yp d v L g w (.ok (Yal 44) k) Ins.val) := by
 have HD := Yh_ hD
 have S1 := Yh_ (RS.start hD)
 clear hD
 go_enter Tryz.func93, Tryz.ntmps93
 go_wp2_with (first | (have _t := S1; clear _t; go_at_call 98; refine (Yey 44 _).mono ?_; rintro e w2 ⟨rfl, hu⟩; have S2 := Yh_ ((S1.out).same hu); clear hu S1) | (have _t := S2; clear _t; refine Ye 42 rfl ?_; refine Yb (Yal 44) w.heap.size rfl _ _ rfl rfl rfl (S2.out).rr rfl ?_; intro w3 hw; have S3 := Yh_ ((S2.out).store HD.out rfl hw); clear hw S2))
 exact bodyPost_ret (Yk rfl (Yi 4 w.heap.size _ rfl S3.out.rr)) rfl ⟨rfl, S3.out.dd, S3.out.uu⟩
theorem Yq8 (d g k : Nat) (v : Value) (L : List Int) (w : World) (hD : Yd w d v L g k)  :
  Calls Tryz.prog 93 #[.pointer (some ⟨d, 0, none⟩), .int .u8 153] w (Yp d v L g w (.ok (Yal 38) k) Ins.val) := by
 have HD := Yh_ hD
 have S1 := Yh_ (RS.start hD)
 clear hD
 go_enter Tryz.func93, Tryz.ntmps93
 go_wp2_with (first | (have _t := S1; clear _t; go_at_call 98; refine (Yey 38 _).mono ?_; rintro e w2 ⟨rfl, hu⟩; have S2 := Yh_ ((S1.out).same hu); clear hu S1) | (have _t := S2; clear _t; refine Ye 42 rfl ?_; refine Yb (Yal 38) w.heap.size rfl _ _ rfl rfl rfl (S2.out).rr rfl ?_; intro w3 hw; have S3 := Yh_ ((S2.out).store HD.out rfl hw); clear hw S2))
 exact bodyPost_ret (Yk rfl (Yi 4 w.heap.size _ rfl S3.out.rr)) rfl ⟨rfl, S3.out.dd, S3.out.uu⟩
theorem Yro (d g k : Nat) (v : Value) (L : List Int) (w : World) (hD : Yd w d v L g k)  :
  Calls Tryz.prog 93 #[.pointer (some ⟨d, 0, none⟩), .int .u8 165] w (Yp d v L g w (.ok (Yal 41) k) Ins.val) := by
 have HD := Yh_ hD
 have S1 := Yh_ (RS.start hD)
 clear hD
 go_enter Tryz.func93, Tryz.ntmps93
 go_wp2_with (first | (have _t := S1; clear _t; go_at_call 98; refine (Yey 41 _).mono ?_; rintro e w2 ⟨rfl, hu⟩; have S2 := Yh_ ((S1.out).same hu); clear hu S1) | (have _t := S2; clear _t; refine Ye 42 rfl ?_; refine Yb (Yal 41) w.heap.size rfl _ _ rfl rfl rfl (S2.out).rr rfl ?_; intro w3 hw; have S3 := Yh_ ((S2.out).store HD.out rfl hw); clear hw S2))
 exact bodyPost_ret (Yk rfl (Yi 4 w.heap.size _ rfl S3.out.rr)) rfl ⟨rfl, S3.out.dd, S3.out.uu⟩
theorem Yrq (d g k : Nat) (v : Value) (L : List Int) (w : World) (hD : Yd w d v L g k)  :
  Calls Tryz.prog 93 #[.pointer (some ⟨d, 0, none⟩), .int .u8 171] w (Yp d v L g w (.ok (Yal 42) k) Ins.val) := by
 have HD := Yh_ hD
 have S1 := Yh_ (RS.start hD)
 clear hD
 go_enter Tryz.func93, Tryz.ntmps93
 go_wp2_with (first | (have _t := S1; clear _t; go_at_call 98; refine (Yey 42 _).mono ?_; rintro e w2 ⟨rfl, hu⟩; have S2 := Yh_ ((S1.out).same hu); clear hu S1) | (have _t := S2; clear _t; refine Ye 42 rfl ?_; refine Yb (Yal 42) w.heap.size rfl _ _ rfl rfl rfl (S2.out).rr rfl ?_; intro w3 hw; have S3 := Yh_ ((S2.out).store HD.out rfl hw); clear hw S2))
 exact bodyPost_ret (Yk rfl (Yi 4 w.heap.size _ rfl S3.out.rr)) rfl ⟨rfl, S3.out.dd, S3.out.uu⟩
theorem Yqe (d g k : Nat) (v : Value) (L : List Int) (w : World) (hD : Yd w d v L g k)  :
  Calls Tryz.prog 93 #[.pointer (some ⟨d, 0, none⟩), .int .u8 195] w (Yp d v L g w (.ok (Yal 31) k) Ins.val) := by
 have HD := Yh_ hD
 have S1 := Yh_ (RS.start hD)
 clear hD
 go_enter Tryz.func93, Tryz.ntmps93
 go_wp2_with (first | (have _t := S1; clear _t; go_at_call 98; refine (Yey 31 _).mono ?_; rintro e w2 ⟨rfl, hu⟩; have S2 := Yh_ ((S1.out).same hu); clear hu S1) | (have _t := S2; clear _t; refine Ye 42 rfl ?_; refine Yb (Yal 31) w.heap.size rfl _ _ rfl rfl rfl (S2.out).rr rfl ?_; intro w3 hw; have S3 := Yh_ ((S2.out).store HD.out rfl hw); clear hw S2))
 exact bodyPost_ret (Yk rfl (Yi 4 w.heap.size _ rfl S3.out.rr)) rfl ⟨rfl, S3.out.dd, S3.out.uu⟩
theorem Yrc (d g k : Nat) (v : Value) (L : List Int) (w : World) (hD : Yd w d v L g k)  :
  Calls Tryz.prog 93 #[.pointer (some ⟨d, 0, none⟩), .int .u8 252] w (Yp d v L g w (.ok (Yal 39) k) Ins.val) := by
 have HD := Yh_ hD
 have S1 := Yh_ (RS.start hD)
 clear hD
 go_enter Tryz.func93, Tryz.ntmps93
 go_wp2_with (first | (have _t := S1; clear _t; go_at_call 98; refine (Yey 39 _).mono ?_; rintro e w2 ⟨rfl, hu⟩; have S2 := Yh_ ((S1.out).same hu); clear hu S1) | (have _t := S2; clear _t; refine Ye 42 rfl ?_; refine Yb (Yal 39) w.heap.size rfl _ _ rfl rfl rfl (S2.out).rr rfl ?_; intro w3 hw; have S3 := Yh_ ((S2.out).store HD.out rfl hw); clear hw S2))
 exact bodyPost_ret (Yk rfl (Yi 4 w.heap.size _ rfl S3.out.rr)) rfl ⟨rfl, S3.out.dd, S3.out.uu⟩
theorem Ypi (d g k : Nat) (v : Value) (L : List Int) (w : World) (hD : Yd w d v L g k)  :
  Calls Tryz.prog 93 #[.pointer (some ⟨d, 0, none⟩), .int .u8 253] w (Yp d v L g w (.ok (Yal 40) k) Ins.val) := by
 have HD := Yh_ hD
 have S1 := Yh_ (RS.start hD)
 clear hD
 go_enter Tryz.func93, Tryz.ntmps93
 go_wp2_with (first | (have _t := S1; clear _t; go_at_call 98; refine (Yey 40 _).mono ?_; rintro e w2 ⟨rfl, hu⟩; have S2 := Yh_ ((S1.out).same hu); clear hu S1) | (have _t := S2; clear _t; refine Ye 42 rfl ?_; refine Yb (Yal 40) w.heap.size rfl _ _ rfl rfl rfl (S2.out).rr rfl ?_; intro w3 hw; have S3 := Yh_ ((S2.out).store HD.out rfl hw); clear hw S2))
 exact bodyPost_ret (Yk rfl (Yi 4 w.heap.size _ rfl S3.out.rr)) rfl ⟨rfl, S3.out.dd, S3.out.uu⟩
theorem Ypv (d g k : Nat) (v : Value) (L : List Int) (w : World) (hD : Yd w d v L g k) (o : Opd) (k1 : Nat) (h : Yau L k = .ok o k1) :
  Calls Tryz.prog 93 #[.pointer (some ⟨d, 0, none⟩), .int .u8 232] w (Yp d v L g w (.ok ⟨30, 0, o, Opd.none, false, 0⟩ k1) Ins.val) := by
 have HD := Yh_ hD
 have S1 := Yh_ (RS.start hD)
 have HP2 := Yh_ (fun (w1 : World) (hd1 : Yd w1 d v L g k) => by have := Yb5 d g k v L w1 hd1; rw [h] at this; exact this)
 clear hD h
 go_enter Tryz.func93, Tryz.ntmps93
 go_wp2_with (first | (have _t := S1; clear _t; go_at_call 70; refine (HP2.out _ (S1.out).dd).mono ?_; rintro e w2 ⟨rfl, hD2, hu⟩; unfold Opd.val; have S2 := Yh_ ((S1.out).step hD2 hu); clear hD2 hu S1) | (have _t := S2; clear _t; refine Ye 42 rfl ?_; refine Yb ⟨30, 0, o, Opd.none, false, 0⟩ w.heap.size rfl _ _ rfl rfl rfl (S2.out).rr rfl ?_; intro w3 hw; have S3 := Yh_ ((S2.out).store HD.out rfl hw); clear hw S2))
 exact bodyPost_ret (Yk rfl (Yi 4 w.heap.size _ rfl S3.out.rr)) rfl ⟨rfl, S3.out.dd, S3.out.uu⟩
theorem Yg2 : (∀ (d g k : Nat) (v : Value) (L : List Int) (w : World) (hD : Yd w d v L g k) (e : Int) (h : Yau L k = .err e), Calls Tryz.prog 93 #[.pointer (some ⟨d, 0, none⟩), .int .u8 232] w (Yp d v L g w (.err e) Ins.val)) ∧
 (∀ (d g k : Nat) (v : Value) (L : List Int) (w : World) (hD : Yd w d v L g k) (e : Int) (h : Yau L k = .err e), Calls Tryz.prog 93 #[.pointer (some ⟨d, 0, none⟩), .int .u8 233] w (Yp d v L g w (.err e) Ins.val)) := by
 refine ⟨fun d g k v L w hD e h => ?_, fun d g k v L w hD e h => ?_⟩
 all_goals
  have HD := Yh_ hD
  have S1 := Yh_ (RS.start hD)
  have HP2 := Yh_ (fun (w1 : World) (hd1 : Yd w1 d v L g k) => by have := Yb5 d g k v L w1 hd1; rw [h] at this; exact this)
  clear hD h
  go_enter Tryz.func93, Tryz.ntmps93
  go_wp2_with (have _t := S1; clear _t; go_at_call 70; refine (HP2.out _ (S1.out).dd).mono ?_; rintro e w2 ⟨rfl, hu⟩)
  exact ⟨rfl, rfl, (S1.out).uu.also hu (by simp)⟩
theorem Yq7 (d g k : Nat) (v : Value) (L : List Int) (w : World) (hD : Yd w d v L g k) (o : Opd) (k1 : Nat) (h : Yau L k = .ok o k1) :
  Calls Tryz.prog 93 #[.pointer (some ⟨d, 0, none⟩), .int .u8 233] w (Yp d v L g w (.ok ⟨32, 0, o, Opd.none, false, 0⟩ k1) Ins.val) := by
 have HD := Yh_ hD
 have S1 := Yh_ (RS.start hD)
 have HP2 := Yh_ (fun (w1 : World) (hd1 : Yd w1 d v L g k) => by have := Yb5 d g k v L w1 hd1; rw [h] at this; exact this)
 clear hD h
 go_enter Tryz.func93, Tryz.ntmps93
 go_wp2_with (first | (have _t := S1; clear _t; go_at_call 70; refine (HP2.out _ (S1.out).dd).mono ?_; rintro e w2 ⟨rfl, hD2, hu⟩; unfold Opd.val; have S2 := Yh_ ((S1.out).step hD2 hu); clear hD2 hu S1) | (have _t := S2; clear _t; refine Ye 42 rfl ?_; refine Yb ⟨32, 0, o, Opd.none, false, 0⟩ w.heap.size rfl _ _ rfl rfl rfl (S2.out).rr rfl ?_; intro w3 hw; have S3 := Yh_ ((S2.out).store HD.out rfl hw); clear hw S2))
 exact bodyPost_ret (Yk rfl (Yi 4 w.heap.size _ rfl S3.out.rr)) rfl ⟨rfl, S3.out.dd, S3.out.uu⟩
theorem Ypx (d g k : Nat) (v : Value) (L : List Int) (w : World) (hD : Yd w d v L g k) (e : Int) (h : Ycg L k = .err e) :
  Calls Tryz.prog 93 #[.pointer (some ⟨d, 0, none⟩), .int .u8 235] w (Yp d v L g w (.err e) Ins.val) := by
 have HD := Yh_ hD
 have S1 := Yh_ (RS.start hD)
 have HP2 := Yh_ (fun (w1 : World) (hd1 : Yd w1 d v L g k) => by have := Yfv d g k v L w1 hd1; rw [h] at this; exact this)
 clear hD h
 go_enter Tryz.func93, Tryz.ntmps93
 go_wp2_with (have _t := S1; clear _t; go_at_call 68; refine (HP2.out _ (S1.out).dd).mono ?_; rintro e w2 ⟨rfl, hu⟩)
 exact ⟨rfl, rfl, (S1.out).uu.also hu (by simp)⟩
theorem Yrb (d g k : Nat) (v : Value) (L : List Int) (w : World) (hD : Yd w d v L g k) (o : Opd) (k1 : Nat) (h : Ycg L k = .ok o k1) :
  Calls Tryz.prog 93 #[.pointer (some ⟨d, 0, none⟩), .int .u8 235] w (Yp d v L g w (.ok ⟨32, 0, o, Opd.none, false, 0⟩ k1) Ins.val) := by
 have HD := Yh_ hD
 have S1 := Yh_ (RS.start hD)
 have HP2 := Yh_ (fun (w1 : World) (hd1 : Yd w1 d v L g k) => by have := Yfv d g k v L w1 hd1; rw [h] at this; exact this)
 clear hD h
 go_enter Tryz.func93, Tryz.ntmps93
 go_wp2_with (first | (have _t := S1; clear _t; go_at_call 68; refine (HP2.out _ (S1.out).dd).mono ?_; rintro e w2 ⟨rfl, hD2, hu⟩; unfold Opd.val; have S2 := Yh_ ((S1.out).step hD2 hu); clear hD2 hu S1) | (have _t := S2; clear _t; refine Ye 42 rfl ?_; refine Yb ⟨32, 0, o, Opd.none, false, 0⟩ w.heap.size rfl _ _ rfl rfl rfl (S2.out).rr rfl ?_; intro w3 hw; have S3 := Yh_ ((S2.out).store HD.out rfl hw); clear hw S2))
 exact bodyPost_ret (Yk rfl (Yi 4 w.heap.size _ rfl S3.out.rr)) rfl ⟨rfl, S3.out.dd, S3.out.uu⟩
theorem Yp6 (d g k : Nat) (v : Value) (L : List Int) (w : World) (hD : Yd w d v L g k) (c : Int) (hc0 : 0 ≤ c) (hc1 : c ≤ 255) (h144 : c ≠ 144) (h153 : c ≠ 153) (h165 : c ≠ 165) (h171 : c ≠ 171) (h195 : c ≠ 195) (h252 : c ≠ 252) (h253 : c ≠ 253) (h232 : c ≠ 232) (h233 : c ≠ 233) (h235 : c ≠ 235) (e : Int) (h : Yb6 L c k = .err e) :
  Calls Tryz.prog 93 #[.pointer (some ⟨d, 0, none⟩), .int .u8 c] w (Yp d v L g w (.err e) Ins.val) := by
 have HD := Yh_ hD
 have S1 := Yh_ (RS.start hD)
 have e144 : (c == 144) = false := by simpa using h144
 have e153 : (c == 153) = false := by simpa using h153
 have e165 : (c == 165) = false := by simpa using h165
 have e171 : (c == 171) = false := by simpa using h171
 have e195 : (c == 195) = false := by simpa using h195
 have e252 : (c == 252) = false := by simpa using h252
 have e253 : (c == 253) = false := by simpa using h253
 have e232 : (c == 232) = false := by simpa using h232
 have e233 : (c == 233) = false := by simpa using h233
 have e235 : (c == 235) = false := by simpa using h235
 have HP2 := Yh_ (fun (w1 : World) (hd1 : Yd w1 d v L g k) => by have := Ylf d g k v L c w1 hd1 hc0 hc1; rw [h] at this; exact this)
 clear hD h144 h153 h165 h171 h195 h252 h253 h232 h233 h235 h
 go_enter Tryz.func93, Tryz.ntmps93
 go_wp2_with (have _t := S1; clear _t; go_at_call 99; refine (HP2.out _ (S1.out).dd).mono ?_; rintro e w2 ⟨rfl, hu⟩)
 exact ⟨rfl, rfl, (S1.out).uu.also hu (by simp)⟩
theorem Yra (d g k : Nat) (v : Value) (L : List Int) (w : World) (hD : Yd w d v L g k) (c : Int) (hc0 : 0 ≤ c) (hc1 : c ≤ 255) (h144 : c ≠ 144) (h153 : c ≠ 153) (h165 : c ≠ 165) (h171 : c ≠ 171) (h195 : c ≠ 195) (h252 : c ≠ 252) (h253 : c ≠ 253) (h232 : c ≠ 232) (h233 : c ≠ 233) (h235 : c ≠ 235) (i : Ins) (k1 : Nat) (h : Yb6 L c k = .ok i k1) :
  Calls Tryz.prog 93 #[.pointer (some ⟨d, 0, none⟩), .int .u8 c] w (Yp d v L g w (.ok i k1) Ins.val) := by
 have HD := Yh_ hD
 have S1 := Yh_ (RS.start hD)
 have e144 : (c == 144) = false := by simpa using h144
 have e153 : (c == 153) = false := by simpa using h153
 have e165 : (c == 165) = false := by simpa using h165
 have e171 : (c == 171) = false := by simpa using h171
 have e195 : (c == 195) = false := by simpa using h195
 have e252 : (c == 252) = false := by simpa using h252
 have e253 : (c == 253) = false := by simpa using h253
 have e232 : (c == 232) = false := by simpa using h232
 have e233 : (c == 233) = false := by simpa using h233
 have e235 : (c == 235) = false := by simpa using h235
 have HP2 := Yh_ (fun (w1 : World) (hd1 : Yd w1 d v L g k) => by have := Ylf d g k v L c w1 hd1 hc0 hc1; rw [h] at this; exact this)
 clear hD h144 h153 h165 h171 h195 h252 h253 h232 h233 h235 h
 go_enter Tryz.func93, Tryz.ntmps93
 go_wp2_with (first | (have _t := S1; clear _t; go_at_call 99; refine (HP2.out _ (S1.out).dd).mono ?_; rintro e w2 ⟨rfl, hD2, hu⟩; have S2 := Yh_ ((S1.out).step hD2 hu); clear hD2 hu S1) | (have _t := S2; clear _t; refine Ye 42 rfl ?_; refine Yb i w.heap.size rfl _ _ rfl rfl rfl (S2.out).rr rfl ?_; intro w3 hw; have S3 := Yh_ ((S2.out).store HD.out rfl hw); clear hw S2))
 exact bodyPost_ret (Yk rfl (Yi 4 w.heap.size _ rfl S3.out.rr)) rfl ⟨rfl, S3.out.dd, S3.out.uu⟩
theorem Ymn (d g k : Nat) (v : Value) (L : List Int) (c : Int) (w : World) (hD : Yd w d v L g k) (hc0 : 0 ≤ c) (hc1 : c ≤ 255) :
  Calls Tryz.prog 93 #[.pointer (some ⟨d, 0, none⟩), .int .u8 c] w (Yp d v L g w (Ycj L c k) Ins.val) := by
 by_cases h144 : c = 144
 ·subst h144
  have e : Ycj L 144 k = (.ok (Yal 44) k) := rfl
  rw [e]
  exact Yql d g k v L w hD
 by_cases h153 : c = 153
 ·subst h153
  have e : Ycj L 153 k = (.ok (Yal 38) k) := rfl
  rw [e]
  exact Yq8 d g k v L w hD
 by_cases h165 : c = 165
 ·subst h165
  have e : Ycj L 165 k = (.ok (Yal 41) k) := rfl
  rw [e]
  exact Yro d g k v L w hD
 by_cases h171 : c = 171
 ·subst h171
  have e : Ycj L 171 k = (.ok (Yal 42) k) := rfl
  rw [e]
  exact Yrq d g k v L w hD
 by_cases h195 : c = 195
 ·subst h195
  have e : Ycj L 195 k = (.ok (Yal 31) k) := rfl
  rw [e]
  exact Yqe d g k v L w hD
 by_cases h252 : c = 252
 ·subst h252
  have e : Ycj L 252 k = (.ok (Yal 39) k) := rfl
  rw [e]
  exact Yrc d g k v L w hD
 by_cases h253 : c = 253
 ·subst h253
  have e : Ycj L 253 k = (.ok (Yal 40) k) := rfl
  rw [e]
  exact Ypi d g k v L w hD
 by_cases h232 : c = 232
 ·subst h232
  have e : Ycj L 232 k = ((Yau L k).bind fun o k => .ok ⟨30, 0, o, Opd.none, false, 0⟩ k) := rfl
  rw [e]
  cases h : Yau L k with
  |err e => exact Yg2.1 d g k v L w hD e h
  |ok o k1 => exact Ypv d g k v L w hD o k1 h
 by_cases h233 : c = 233
 ·subst h233
  have e : Ycj L 233 k = ((Yau L k).bind fun o k => .ok ⟨32, 0, o, Opd.none, false, 0⟩ k) := rfl
  rw [e]
  cases h : Yau L k with
  |err e => exact Yg2.2 d g k v L w hD e h
  |ok o k1 => exact Yq7 d g k v L w hD o k1 h
 by_cases h235 : c = 235
 ·subst h235
  have e : Ycj L 235 k = ((Ycg L k).bind fun o k => .ok ⟨32, 0, o, Opd.none, false, 0⟩ k) := rfl
  rw [e]
  cases h : Ycg L k with
  |err e => exact Ypx d g k v L w hD e h
  |ok o k1 => exact Yrb d g k v L w hD o k1 h
 have e : Ycj L c k = Yb6 L c k := by simp [Ycj, h144, h153, h165, h171, h195, h252, h253, h232, h233, h235]
 rw [e]
 cases h : Yb6 L c k with
 |err e => exact Yp6 d g k v L w hD c hc0 hc1 h144 h153 h165 h171 h195 h252 h253 h232 h233 h235 e h
 |ok i k1 => exact Yra d g k v L w hD c hc0 hc1 h144 h153 h165 h171 h195 h252 h253 h232 h233 h235 i k1 h
end Go.Proofs.YteiplidhkelkbaaGreat
