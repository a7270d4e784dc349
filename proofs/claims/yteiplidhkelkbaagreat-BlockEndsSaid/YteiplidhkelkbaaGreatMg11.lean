/-
  Parts of the proof (their names shortened by a program). No condition.
-/
import Derived.Test.YteiplidhkelkbaaGreatMg01
import Derived.Test.YteiplidhkelkbaaGreatMg10
namespace Go.Proofs.YteiplidhkelkbaaGreat
open Go Go.RowKit
set_option linter.unusedVariables false
set_option linter.unusedSimpArgs false
set_option maxRecDepth 100000
set_option maxHeartbeats 16000000
theorem Yna (d g k : Nat) (v : Value) (L : List Int) (w : World) (hD : Yd w d v L g k) (e : Int) (h : Yc2 L 193 k = .err e) :
  Calls Tryz.prog 99 #[.pointer (some ⟨d, 0, none⟩), .int .u8 193] w (Yp d v L g w (.err e) Ins.val) := by
 have HD := Yh_ hD
 have S1 := Yh_ (RS.start hD)
 have HP2 := Yh_ (fun (w1 : World) (hd1 : Yd w1 d v L g k) => by have := Ygf d g k v L 193 w1 hd1; rw [h] at this; exact this)
 clear hD h
 go_enter Tryz.func99, Tryz.ntmps99
 go_wp2_with (have _t := S1; clear _t; go_at_call 100; refine (HP2.out _ (S1.out).dd).mono ?_; rintro e w2 ⟨rfl, hu⟩)
 exact ⟨rfl, rfl, (S1.out).uu.also hu (by simp)⟩
theorem Yoe (d g k : Nat) (v : Value) (L : List Int) (w : World) (hD : Yd w d v L g k) (i : Ins) (k1 : Nat) (h : Yc2 L 193 k = .ok i k1) :
  Calls Tryz.prog 99 #[.pointer (some ⟨d, 0, none⟩), .int .u8 193] w (Yp d v L g w (.ok i k1) Ins.val) := by
 have HD := Yh_ hD
 have S1 := Yh_ (RS.start hD)
 have HP2 := Yh_ (fun (w1 : World) (hd1 : Yd w1 d v L g k) => by have := Ygf d g k v L 193 w1 hd1; rw [h] at this; exact this)
 clear hD h
 go_enter Tryz.func99, Tryz.ntmps99
 go_wp2_with (first | (have _t := S1; clear _t; go_at_call 100; refine (HP2.out _ (S1.out).dd).mono ?_; rintro e w2 ⟨rfl, hD2, hu⟩; have S2 := Yh_ ((S1.out).step hD2 hu); clear hD2 hu S1) | (have _t := S2; clear _t; refine Ye 42 rfl ?_; refine Yb i w.heap.size rfl _ _ rfl rfl rfl (S2.out).rr rfl ?_; intro w3 hw; have S3 := Yh_ ((S2.out).store HD.out rfl hw); clear hw S2))
 exact bodyPost_ret (Yj rfl (Yi 4 w.heap.size _ rfl S3.out.rr)) rfl ⟨rfl, S3.out.dd, S3.out.uu⟩
theorem Yno (d g k : Nat) (v : Value) (L : List Int) (w : World) (hD : Yd w d v L g k) (e : Int) (h : Yc2 L 209 k = .err e) :
  Calls Tryz.prog 99 #[.pointer (some ⟨d, 0, none⟩), .int .u8 209] w (Yp d v L g w (.err e) Ins.val) := by
 have HD := Yh_ hD
 have S1 := Yh_ (RS.start hD)
 have HP2 := Yh_ (fun (w1 : World) (hd1 : Yd w1 d v L g k) => by have := Ygf d g k v L 209 w1 hd1; rw [h] at this; exact this)
 clear hD h
 go_enter Tryz.func99, Tryz.ntmps99
 go_wp2_with (have _t := S1; clear _t; go_at_call 100; refine (HP2.out _ (S1.out).dd).mono ?_; rintro e w2 ⟨rfl, hu⟩)
 exact ⟨rfl, rfl, (S1.out).uu.also hu (by simp)⟩
theorem Yob (d g k : Nat) (v : Value) (L : List Int) (w : World) (hD : Yd w d v L g k) (i : Ins) (k1 : Nat) (h : Yc2 L 209 k = .ok i k1) :
  Calls Tryz.prog 99 #[.pointer (some ⟨d, 0, none⟩), .int .u8 209] w (Yp d v L g w (.ok i k1) Ins.val) := by
 have HD := Yh_ hD
 have S1 := Yh_ (RS.start hD)
 have HP2 := Yh_ (fun (w1 : World) (hd1 : Yd w1 d v L g k) => by have := Ygf d g k v L 209 w1 hd1; rw [h] at this; exact this)
 clear hD h
 go_enter Tryz.func99, Tryz.ntmps99
 go_wp2_with (first | (have _t := S1; clear _t; go_at_call 100; refine (HP2.out _ (S1.out).dd).mono ?_; rintro e w2 ⟨rfl, hD2, hu⟩; have S2 := Yh_ ((S1.out).step hD2 hu); clear hD2 hu S1) | (have _t := S2; clear _t; refine Ye 42 rfl ?_; refine Yb i w.heap.size rfl _ _ rfl rfl rfl (S2.out).rr rfl ?_; intro w3 hw; have S3 := Yh_ ((S2.out).store HD.out rfl hw); clear hw S2))
 exact bodyPost_ret (Yj rfl (Yi 4 w.heap.size _ rfl S3.out.rr)) rfl ⟨rfl, S3.out.dd, S3.out.uu⟩
theorem Yof (d g k : Nat) (v : Value) (L : List Int) (w : World) (hD : Yd w d v L g k) (e : Int) (h : Yc2 L 211 k = .err e) :
  Calls Tryz.prog 99 #[.pointer (some ⟨d, 0, none⟩), .int .u8 211] w (Yp d v L g w (.err e) Ins.val) := by
 have HD := Yh_ hD
 have S1 := Yh_ (RS.start hD)
 have HP2 := Yh_ (fun (w1 : World) (hd1 : Yd w1 d v L g k) => by have := Ygf d g k v L 211 w1 hd1; rw [h] at this; exact this)
 clear hD h
 go_enter Tryz.func99, Tryz.ntmps99
 go_wp2_with (have _t := S1; clear _t; go_at_call 100; refine (HP2.out _ (S1.out).dd).mono ?_; rintro e w2 ⟨rfl, hu⟩)
 exact ⟨rfl, rfl, (S1.out).uu.also hu (by simp)⟩
theorem Ym4 (d g k : Nat) (v : Value) (L : List Int) (w : World) (hD : Yd w d v L g k) (i : Ins) (k1 : Nat) (h : Yc2 L 211 k = .ok i k1) :
  Calls Tryz.prog 99 #[.pointer (some ⟨d, 0, none⟩), .int .u8 211] w (Yp d v L g w (.ok i k1) Ins.val) := by
 have HD := Yh_ hD
 have S1 := Yh_ (RS.start hD)
 have HP2 := Yh_ (fun (w1 : World) (hd1 : Yd w1 d v L g k) => by have := Ygf d g k v L 211 w1 hd1; rw [h] at this; exact this)
 clear hD h
 go_enter Tryz.func99, Tryz.ntmps99
 go_wp2_with (first | (have _t := S1; clear _t; go_at_call 100; refine (HP2.out _ (S1.out).dd).mono ?_; rintro e w2 ⟨rfl, hD2, hu⟩; have S2 := Yh_ ((S1.out).step hD2 hu); clear hD2 hu S1) | (have _t := S2; clear _t; refine Ye 42 rfl ?_; refine Yb i w.heap.size rfl _ _ rfl rfl rfl (S2.out).rr rfl ?_; intro w3 hw; have S3 := Yh_ ((S2.out).store HD.out rfl hw); clear hw S2))
 exact bodyPost_ret (Yj rfl (Yi 4 w.heap.size _ rfl S3.out.rr)) rfl ⟨rfl, S3.out.dd, S3.out.uu⟩
theorem Ynu (d g k : Nat) (v : Value) (L : List Int) (w : World) (hD : Yd w d v L g k) (e : Int) (h : Ybu L k = .err e) :
  Calls Tryz.prog 99 #[.pointer (some ⟨d, 0, none⟩), .int .u8 205] w (Yp d v L g w (.err e) Ins.val) := by
 have HD := Yh_ hD
 have S1 := Yh_ (RS.start hD)
 have HP2 := Yh_ (fun (w1 : World) (hd1 : Yd w1 d v L g k) => by have := Yd9 d g k v L w1 hd1; rw [h] at this; exact this)
 clear hD h
 go_enter Tryz.func99, Tryz.ntmps99
 go_wp2_with (have _t := S1; clear _t; go_at_call 69; refine (HP2.out _ (S1.out).dd).mono ?_; rintro e w2 ⟨rfl, hu⟩)
 exact ⟨rfl, rfl, (S1.out).uu.also hu (by simp)⟩
theorem Ynm (d g k : Nat) (v : Value) (L : List Int) (w : World) (hD : Yd w d v L g k) (o : Opd) (k1 : Nat) (h : Ybu L k = .ok o k1) (hi : o.imm = 128) :
  Calls Tryz.prog 99 #[.pointer (some ⟨d, 0, none⟩), .int .u8 205] w (Yp d v L g w (.ok ⟨43, 0, o, Opd.none, false, 0⟩ k1) Ins.val) := by
 have HD := Yh_ hD
 have S1 := Yh_ (RS.start hD)
 have ei : (o.imm == 128) = true := by simpa using hi
 have HP2 := Yh_ (fun (w1 : World) (hd1 : Yd w1 d v L g k) => by have := Yd9 d g k v L w1 hd1; rw [h] at this; exact this)
 clear hD h hi
 go_enter Tryz.func99, Tryz.ntmps99
 go_wp2_with (first | (have _t := S1; clear _t; go_at_call 69; refine (HP2.out _ (S1.out).dd).mono ?_; rintro e w2 ⟨rfl, hD2, hu⟩; unfold Opd.val; have S2 := Yh_ ((S1.out).step hD2 hu); clear hD2 hu S1) | (have _t := S2; clear _t; refine Ye 42 rfl ?_; refine Yb ⟨43, 0, o, Opd.none, false, 0⟩ w.heap.size rfl _ _ rfl rfl rfl ((S2.out).same ((Upd.refl [] w2).alloc (.cells o.cells 40))).rr rfl ?_; intro w3 hw; have S3 := Yh_ (((S2.out).same ((Upd.refl [] w2).alloc (.cells o.cells 40))).store HD.out rfl hw); clear hw S2))
 exact bodyPost_ret (Yj rfl (Yi 4 w.heap.size _ rfl S3.out.rr)) rfl ⟨rfl, S3.out.dd, S3.out.uu⟩
theorem Yoo (d g k : Nat) (v : Value) (L : List Int) (w : World) (hD : Yd w d v L g k) (o : Opd) (k1 : Nat) (h : Ybu L k = .ok o k1) (hi : o.imm ≠ 128) :
  Calls Tryz.prog 99 #[.pointer (some ⟨d, 0, none⟩), .int .u8 205] w (Yp d v L g w (.err 12) Ins.val) := by
 have HD := Yh_ hD
 have S1 := Yh_ (RS.start hD)
 have ei : (o.imm == 128) = false := by simpa using hi
 have HP2 := Yh_ (fun (w1 : World) (hd1 : Yd w1 d v L g k) => by have := Yd9 d g k v L w1 hd1; rw [h] at this; exact this)
 clear hD h hi
 go_enter Tryz.func99, Tryz.ntmps99
 go_wp2_with (have _t := S1; clear _t; go_at_call 69; refine (HP2.out _ (S1.out).dd).mono ?_; rintro e w2 ⟨rfl, hD2, hu⟩; unfold Opd.val; have S2 := Yh_ ((S1.out).step hD2 hu); clear hD2 hu S1)
 exact ⟨rfl, rfl, ((S2.out).same ((Upd.refl [] w2).alloc (.cells o.cells 40))).uu⟩
theorem Yoh (d g k : Nat) (v : Value) (L : List Int) (w : World) (hD : Yd w d v L g k) (x : Int) (k1 : Nat) (h : Yz L k = .ok x k1) (hx : x = 224) :
  Calls Tryz.prog 99 #[.pointer (some ⟨d, 0, none⟩), .int .u8 217] w (Yp d v L g w (.ok (Yaj 51) k1) Ins.val) := by
 have HD := Yh_ hD
 have S1 := Yh_ (RS.start hD)
 subst hx
 have HP2 := Yh_ (fun (w1 : World) (hd1 : Yd w1 d v L g k) => by have := Yah d g k v L w1 hd1; rw [h] at this; exact this)
 clear hD h
 go_enter Tryz.func99, Tryz.ntmps99
 go_wp2_with (first | (have _t := S1; clear _t; go_at_call 64; refine (HP2.out _ (S1.out).dd).mono ?_; rintro e w2 ⟨rfl, hD2, hu⟩; have S2 := Yh_ ((S1.out).step hD2 hu); clear hD2 hu S1) | (have _t := S2; clear _t; go_at_call 98; refine (Yex 51 _).mono ?_; rintro e w3 ⟨rfl, hu⟩; have S3 := Yh_ ((S2.out).same hu); clear hu S2) | (have _t := S3; clear _t; refine Ye 42 rfl ?_; refine Yb (Yaj 51) w.heap.size rfl _ _ rfl rfl rfl (S3.out).rr rfl ?_; intro w4 hw; have S4 := Yh_ ((S3.out).store HD.out rfl hw); clear hw S3))
 exact bodyPost_ret (Yj rfl (Yi 4 w.heap.size _ rfl S4.out.rr)) rfl ⟨rfl, S4.out.dd, S4.out.uu⟩
theorem Ynq (d g k : Nat) (v : Value) (L : List Int) (w : World) (hD : Yd w d v L g k) (x : Int) (k1 : Nat) (h : Yz L k = .ok x k1) (hx : x = 225) :
  Calls Tryz.prog 99 #[.pointer (some ⟨d, 0, none⟩), .int .u8 217] w (Yp d v L g w (.ok (Yaj 52) k1) Ins.val) := by
 have HD := Yh_ hD
 have S1 := Yh_ (RS.start hD)
 subst hx
 have HP2 := Yh_ (fun (w1 : World) (hd1 : Yd w1 d v L g k) => by have := Yah d g k v L w1 hd1; rw [h] at this; exact this)
 clear hD h
 go_enter Tryz.func99, Tryz.ntmps99
 go_wp2_with (first | (have _t := S1; clear _t; go_at_call 64; refine (HP2.out _ (S1.out).dd).mono ?_; rintro e w2 ⟨rfl, hD2, hu⟩; have S2 := Yh_ ((S1.out).step hD2 hu); clear hD2 hu S1) | (have _t := S2; clear _t; go_at_call 98; refine (Yex 52 _).mono ?_; rintro e w3 ⟨rfl, hu⟩; have S3 := Yh_ ((S2.out).same hu); clear hu S2) | (have _t := S3; clear _t; refine Ye 42 rfl ?_; refine Yb (Yaj 52) w.heap.size rfl _ _ rfl rfl rfl (S3.out).rr rfl ?_; intro w4 hw; have S4 := Yh_ ((S3.out).store HD.out rfl hw); clear hw S3))
 exact bodyPost_ret (Yj rfl (Yi 4 w.heap.size _ rfl S4.out.rr)) rfl ⟨rfl, S4.out.dd, S4.out.uu⟩
theorem Ym0 (d g k : Nat) (v : Value) (L : List Int) (w : World) (hD : Yd w d v L g k) (x : Int) (k1 : Nat) (h : Yz L k = .ok x k1) (hx : x ≠ 224) (hy : x ≠ 225) :
  Calls Tryz.prog 99 #[.pointer (some ⟨d, 0, none⟩), .int .u8 217] w (Yp d v L g w (.err 12) Ins.val) := by
 have HD := Yh_ hD
 have S1 := Yh_ (RS.start hD)
 have ex : (x == 224) = false := by simpa using hx
 have ey : (x == 225) = false := by simpa using hy
 have HP2 := Yh_ (fun (w1 : World) (hd1 : Yd w1 d v L g k) => by have := Yah d g k v L w1 hd1; rw [h] at this; exact this)
 clear hD h hx hy
 go_enter Tryz.func99, Tryz.ntmps99
 go_wp2_with (have _t := S1; clear _t; go_at_call 64; refine (HP2.out _ (S1.out).dd).mono ?_; rintro e w2 ⟨rfl, hD2, hu⟩; have S2 := Yh_ ((S1.out).step hD2 hu); clear hD2 hu S1)
 exact ⟨rfl, rfl, (S2.out).uu⟩
theorem Ym1 (d g k : Nat) (v : Value) (L : List Int) (w : World) (hD : Yd w d v L g k) (e : Int) (h : Yc7 L 220 k = .err e) :
  Calls Tryz.prog 99 #[.pointer (some ⟨d, 0, none⟩), .int .u8 220] w (Yp d v L g w (.err e) Ins.val) := by
 have HD := Yh_ hD
 have S1 := Yh_ (RS.start hD)
 have HP2 := Yh_ (fun (w1 : World) (hd1 : Yd w1 d v L g k) => by have := Yho d g k v L 220 w1 hd1; rw [h] at this; exact this)
 clear hD h
 go_enter Tryz.func99, Tryz.ntmps99
 go_wp2_with (have _t := S1; clear _t; go_at_call 101; refine (HP2.out _ (S1.out).dd).mono ?_; rintro e w2 ⟨rfl, hu⟩)
 exact ⟨rfl, rfl, (S1.out).uu.also hu (by simp)⟩
theorem Ym7 (d g k : Nat) (v : Value) (L : List Int) (w : World) (hD : Yd w d v L g k) (i : Ins) (k1 : Nat) (h : Yc7 L 220 k = .ok i k1) :
  Calls Tryz.prog 99 #[.pointer (some ⟨d, 0, none⟩), .int .u8 220] w (Yp d v L g w (.ok i k1) Ins.val) := by
 have HD := Yh_ hD
 have S1 := Yh_ (RS.start hD)
 have HP2 := Yh_ (fun (w1 : World) (hd1 : Yd w1 d v L g k) => by have := Yho d g k v L 220 w1 hd1; rw [h] at this; exact this)
 clear hD h
 go_enter Tryz.func99, Tryz.ntmps99
 go_wp2_with (first | (have _t := S1; clear _t; go_at_call 101; refine (HP2.out _ (S1.out).dd).mono ?_; rintro e w2 ⟨rfl, hD2, hu⟩; have S2 := Yh_ ((S1.out).step hD2 hu); clear hD2 hu S1) | (have _t := S2; clear _t; refine Ye 42 rfl ?_; refine Yb i w.heap.size rfl _ _ rfl rfl rfl (S2.out).rr rfl ?_; intro w3 hw; have S3 := Yh_ ((S2.out).store HD.out rfl hw); clear hw S2))
 exact bodyPost_ret (Yj rfl (Yi 4 w.heap.size _ rfl S3.out.rr)) rfl ⟨rfl, S3.out.dd, S3.out.uu⟩
theorem Ym9 (d g k : Nat) (v : Value) (L : List Int) (w : World) (hD : Yd w d v L g k) (e : Int) (h : Yc7 L 221 k = .err e) :
  Calls Tryz.prog 99 #[.pointer (some ⟨d, 0, none⟩), .int .u8 221] w (Yp d v L g w (.err e) Ins.val) := by
 have HD := Yh_ hD
 have S1 := Yh_ (RS.start hD)
 have HP2 := Yh_ (fun (w1 : World) (hd1 : Yd w1 d v L g k) => by have := Yho d g k v L 221 w1 hd1; rw [h] at this; exact this)
 clear hD h
 go_enter Tryz.func99, Tryz.ntmps99
 go_wp2_with (have _t := S1; clear _t; go_at_call 101; refine (HP2.out _ (S1.out).dd).mono ?_; rintro e w2 ⟨rfl, hu⟩)
 exact ⟨rfl, rfl, (S1.out).uu.also hu (by simp)⟩
theorem Yog (d g k : Nat) (v : Value) (L : List Int) (w : World) (hD : Yd w d v L g k) (i : Ins) (k1 : Nat) (h : Yc7 L 221 k = .ok i k1) :
  Calls Tryz.prog 99 #[.pointer (some ⟨d, 0, none⟩), .int .u8 221] w (Yp d v L g w (.ok i k1) Ins.val) := by
 have HD := Yh_ hD
 have S1 := Yh_ (RS.start hD)
 have HP2 := Yh_ (fun (w1 : World) (hd1 : Yd w1 d v L g k) => by have := Yho d g k v L 221 w1 hd1; rw [h] at this; exact this)
 clear hD h
 go_enter Tryz.func99, Tryz.ntmps99
 go_wp2_with (first | (have _t := S1; clear _t; go_at_call 101; refine (HP2.out _ (S1.out).dd).mono ?_; rintro e w2 ⟨rfl, hD2, hu⟩; have S2 := Yh_ ((S1.out).step hD2 hu); clear hD2 hu S1) | (have _t := S2; clear _t; refine Ye 42 rfl ?_; refine Yb i w.heap.size rfl _ _ rfl rfl rfl (S2.out).rr rfl ?_; intro w3 hw; have S3 := Yh_ ((S2.out).store HD.out rfl hw); clear hw S2))
 exact bodyPost_ret (Yj rfl (Yi 4 w.heap.size _ rfl S3.out.rr)) rfl ⟨rfl, S3.out.dd, S3.out.uu⟩
theorem Yg1 : (∀ (d g k : Nat) (v : Value) (L : List Int) (w : World) (hD : Yd w d v L g k) (e : Int) (h : Yz L k = .err e), Calls Tryz.prog 99 #[.pointer (some ⟨d, 0, none⟩), .int .u8 217] w (Yp d v L g w (.err e) Ins.val)) ∧
 (∀ (d g k : Nat) (v : Value) (L : List Int) (w : World) (hD : Yd w d v L g k) (e : Int) (h : Yz L k = .err e), Calls Tryz.prog 99 #[.pointer (some ⟨d, 0, none⟩), .int .u8 243] w (Yp d v L g w (.err e) Ins.val)) := by
 refine ⟨fun d g k v L w hD e h => ?_, fun d g k v L w hD e h => ?_⟩
 all_goals
  have HD := Yh_ hD
  have S1 := Yh_ (RS.start hD)
  have HP2 := Yh_ (fun (w1 : World) (hd1 : Yd w1 d v L g k) => by have := Yah d g k v L w1 hd1; rw [h] at this; exact this)
  clear hD h
  go_enter Tryz.func99, Tryz.ntmps99
  go_wp2_with (have _t := S1; clear _t; go_at_call 64; refine (HP2.out _ (S1.out).dd).mono ?_; rintro e w2 ⟨rfl, hu⟩)
  exact ⟨rfl, rfl, (S1.out).uu.also hu (by simp)⟩
theorem Ym2 (d g k : Nat) (v : Value) (L : List Int) (w : World) (hD : Yd w d v L g k) (x : Int) (k1 : Nat) (h : Yz L k = .ok x k1) (hx : x = 165) :
  Calls Tryz.prog 99 #[.pointer (some ⟨d, 0, none⟩), .int .u8 243] w (Yp d v L g w (.ok ⟨41, 0, Opd.none, Opd.none, true, 0⟩ k1) Ins.val) := by
 have HD := Yh_ hD
 have S1 := Yh_ (RS.start hD)
 subst hx
 have HP2 := Yh_ (fun (w1 : World) (hd1 : Yd w1 d v L g k) => by have := Yah d g k v L w1 hd1; rw [h] at this; exact this)
 clear hD h
 go_enter Tryz.func99, Tryz.ntmps99
 go_wp2_with (first | (have _t := S1; clear _t; go_at_call 64; refine (HP2.out _ (S1.out).dd).mono ?_; rintro e w2 ⟨rfl, hD2, hu⟩; have S2 := Yh_ ((S1.out).step hD2 hu); clear hD2 hu S1) | (have _t := S2; clear _t; refine Ye 42 rfl ?_; refine Yb ⟨41, 0, Opd.none, Opd.none, true, 0⟩ w.heap.size rfl _ _ rfl rfl rfl (S2.out).rr rfl ?_; intro w3 hw; have S3 := Yh_ ((S2.out).store HD.out rfl hw); clear hw S2))
 exact bodyPost_ret (Yj rfl (Yi 4 w.heap.size _ rfl S3.out.rr)) rfl ⟨rfl, S3.out.dd, S3.out.uu⟩
theorem Ym5 (d g k : Nat) (v : Value) (L : List Int) (w : World) (hD : Yd w d v L g k) (x : Int) (k1 : Nat) (h : Yz L k = .ok x k1) (hx : x = 171) :
  Calls Tryz.prog 99 #[.pointer (some ⟨d, 0, none⟩), .int .u8 243] w (Yp d v L g w (.ok ⟨42, 0, Opd.none, Opd.none, true, 0⟩ k1) Ins.val) := by
 have HD := Yh_ hD
 have S1 := Yh_ (RS.start hD)
 subst hx
 have HP2 := Yh_ (fun (w1 : World) (hd1 : Yd w1 d v L g k) => by have := Yah d g k v L w1 hd1; rw [h] at this; exact this)
 clear hD h
 go_enter Tryz.func99, Tryz.ntmps99
 go_wp2_with (first | (have _t := S1; clear _t; go_at_call 64; refine (HP2.out _ (S1.out).dd).mono ?_; rintro e w2 ⟨rfl, hD2, hu⟩; have S2 := Yh_ ((S1.out).step hD2 hu); clear hD2 hu S1) | (have _t := S2; clear _t; refine Ye 42 rfl ?_; refine Yb ⟨42, 0, Opd.none, Opd.none, true, 0⟩ w.heap.size rfl _ _ rfl rfl rfl (S2.out).rr rfl ?_; intro w3 hw; have S3 := Yh_ ((S2.out).store HD.out rfl hw); clear hw S2))
 exact bodyPost_ret (Yj rfl (Yi 4 w.heap.size _ rfl S3.out.rr)) rfl ⟨rfl, S3.out.dd, S3.out.uu⟩
theorem Yny (d g k : Nat) (v : Value) (L : List Int) (w : World) (hD : Yd w d v L g k) (x : Int) (k1 : Nat) (h : Yz L k = .ok x k1) (hx : x ≠ 165) (hy : x ≠ 171) :
  Calls Tryz.prog 99 #[.pointer (some ⟨d, 0, none⟩), .int .u8 243] w (Yp d v L g w (.err 12) Ins.val) := by
 have HD := Yh_ hD
 have S1 := Yh_ (RS.start hD)
 have ex : (x == 165) = false := by simpa using hx
 have ey : (x == 171) = false := by simpa using hy
 have HP2 := Yh_ (fun (w1 : World) (hd1 : Yd w1 d v L g k) => by have := Yah d g k v L w1 hd1; rw [h] at this; exact this)
 clear hD h hx hy
 go_enter Tryz.func99, Tryz.ntmps99
 go_wp2_with (have _t := S1; clear _t; go_at_call 64; refine (HP2.out _ (S1.out).dd).mono ?_; rintro e w2 ⟨rfl, hD2, hu⟩; have S2 := Yh_ ((S1.out).step hD2 hu); clear hD2 hu S1)
 exact ⟨rfl, rfl, (S2.out).uu⟩
theorem Yos (d g k : Nat) (v : Value) (L : List Int) (w : World) (hD : Yd w d v L g k) (e : Int) (h : Ye9 L k = .err e) :
  Calls Tryz.prog 99 #[.pointer (some ⟨d, 0, none⟩), .int .u8 247] w (Yp d v L g w (.err e) Ins.val) := by
 have HD := Yh_ hD
 have S1 := Yh_ (RS.start hD)
 have HP2 := Yh_ (fun (w1 : World) (hd1 : Yd w1 d v L g k) => by have := Yme d g k v L w1 hd1; rw [h] at this; exact this)
 clear hD h
 go_enter Tryz.func99, Tryz.ntmps99
 go_wp2_with (have _t := S1; clear _t; go_at_call 102; refine (HP2.out _ (S1.out).dd).mono ?_; rintro e w2 ⟨rfl, hu⟩)
 exact ⟨rfl, rfl, (S1.out).uu.also hu (by simp)⟩
theorem Ymq (d g k : Nat) (v : Value) (L : List Int) (w : World) (hD : Yd w d v L g k) (i : Ins) (k1 : Nat) (h : Ye9 L k = .ok i k1) :
  Calls Tryz.prog 99 #[.pointer (some ⟨d, 0, none⟩), .int .u8 247] w (Yp d v L g w (.ok i k1) Ins.val) := by
 have HD := Yh_ hD
 have S1 := Yh_ (RS.start hD)
 have HP2 := Yh_ (fun (w1 : World) (hd1 : Yd w1 d v L g k) => by have := Yme d g k v L w1 hd1; rw [h] at this; exact this)
 clear hD h
 go_enter Tryz.func99, Tryz.ntmps99
 go_wp2_with (first | (have _t := S1; clear _t; go_at_call 102; refine (HP2.out _ (S1.out).dd).mono ?_; rintro e w2 ⟨rfl, hD2, hu⟩; have S2 := Yh_ ((S1.out).step hD2 hu); clear hD2 hu S1) | (have _t := S2; clear _t; refine Ye 42 rfl ?_; refine Yb i w.heap.size rfl _ _ rfl rfl rfl (S2.out).rr rfl ?_; intro w3 hw; have S3 := Yh_ ((S2.out).store HD.out rfl hw); clear hw S2))
 exact bodyPost_ret (Yj rfl (Yi 4 w.heap.size _ rfl S3.out.rr)) rfl ⟨rfl, S3.out.dd, S3.out.uu⟩
theorem Ymr (d g k : Nat) (v : Value) (L : List Int) (w : World) (hD : Yd w d v L g k) (e : Int) (h : Yf2 L k = .err e) :
  Calls Tryz.prog 99 #[.pointer (some ⟨d, 0, none⟩), .int .u8 255] w (Yp d v L g w (.err e) Ins.val) := by
 have HD := Yh_ hD
 have S1 := Yh_ (RS.start hD)
 have HP2 := Yh_ (fun (w1 : World) (hd1 : Yd w1 d v L g k) => by have := Ymu d g k v L w1 hd1; rw [h] at this; exact this)
 clear hD h
 go_enter Tryz.func99, Tryz.ntmps99
 go_wp2_with (have _t := S1; clear _t; go_at_call 103; refine (HP2.out _ (S1.out).dd).mono ?_; rintro e w2 ⟨rfl, hu⟩)
 exact ⟨rfl, rfl, (S1.out).uu.also hu (by simp)⟩
theorem Ym8 (d g k : Nat) (v : Value) (L : List Int) (w : World) (hD : Yd w d v L g k) (i : Ins) (k1 : Nat) (h : Yf2 L k = .ok i k1) :
  Calls Tryz.prog 99 #[.pointer (some ⟨d, 0, none⟩), .int .u8 255] w (Yp d v L g w (.ok i k1) Ins.val) := by
 have HD := Yh_ hD
 have S1 := Yh_ (RS.start hD)
 have HP2 := Yh_ (fun (w1 : World) (hd1 : Yd w1 d v L g k) => by have := Ymu d g k v L w1 hd1; rw [h] at this; exact this)
 clear hD h
 go_enter Tryz.func99, Tryz.ntmps99
 go_wp2_with (first | (have _t := S1; clear _t; go_at_call 103; refine (HP2.out _ (S1.out).dd).mono ?_; rintro e w2 ⟨rfl, hD2, hu⟩; have S2 := Yh_ ((S1.out).step hD2 hu); clear hD2 hu S1) | (have _t := S2; clear _t; refine Ye 42 rfl ?_; refine Yb i w.heap.size rfl _ _ rfl rfl rfl (S2.out).rr rfl ?_; intro w3 hw; have S3 := Yh_ ((S2.out).store HD.out rfl hw); clear hw S2))
 exact bodyPost_ret (Yj rfl (Yi 4 w.heap.size _ rfl S3.out.rr)) rfl ⟨rfl, S3.out.dd, S3.out.uu⟩
theorem Ypi (d g k : Nat) (v : Value) (L : List Int) (w : World) (hD : Yd w d v L g k) (c : Int) (hc0 : 0 ≤ c) (hc1 : c ≤ 255) (h193 : c ≠ 193) (h209 : c ≠ 209) (h211 : c ≠ 211) (h205 : c ≠ 205) (h217 : c ≠ 217) (h220 : c ≠ 220) (h221 : c ≠ 221) (h243 : c ≠ 243) (h247 : c ≠ 247) (h255 : c ≠ 255) :
  Calls Tryz.prog 99 #[.pointer (some ⟨d, 0, none⟩), .int .u8 c] w (Yp d v L g w (.err 12) Ins.val) := by
 have HD := Yh_ hD
 have S1 := Yh_ (RS.start hD)
 have e193 : (c == 193) = false := by simpa using h193
 have e209 : (c == 209) = false := by simpa using h209
 have e211 : (c == 211) = false := by simpa using h211
 have e205 : (c == 205) = false := by simpa using h205
 have e217 : (c == 217) = false := by simpa using h217
 have e220 : (c == 220) = false := by simpa using h220
 have e221 : (c == 221) = false := by simpa using h221
 have e243 : (c == 243) = false := by simpa using h243
 have e247 : (c == 247) = false := by simpa using h247
 have e255 : (c == 255) = false := by simpa using h255
 clear hD h193 h209 h211 h205 h217 h220 h221 h243 h247 h255
 go_enter Tryz.func99, Tryz.ntmps99
 go_wp2_with fail
 exact ⟨rfl, rfl, (S1.out).uu⟩
theorem Ykp (d g k : Nat) (v : Value) (L : List Int) (c : Int) (w : World) (hD : Yd w d v L g k) (hc0 : 0 ≤ c) (hc1 : c ≤ 255) :
  Calls Tryz.prog 99 #[.pointer (some ⟨d, 0, none⟩), .int .u8 c] w (Yp d v L g w (Yb7 L c k) Ins.val) := by
 by_cases h193 : c = 193
 ·subst h193
  have e : Yb7 L 193 k = (Yc2 L 193 k) := rfl
  rw [e]
  cases h : Yc2 L 193 k with
  |err e => exact Yna d g k v L w hD e h
  |ok i k1 => exact Yoe d g k v L w hD i k1 h
 by_cases h209 : c = 209
 ·subst h209
  have e : Yb7 L 209 k = (Yc2 L 209 k) := rfl
  rw [e]
  cases h : Yc2 L 209 k with
  |err e => exact Yno d g k v L w hD e h
  |ok i k1 => exact Yob d g k v L w hD i k1 h
 by_cases h211 : c = 211
 ·subst h211
  have e : Yb7 L 211 k = (Yc2 L 211 k) := rfl
  rw [e]
  cases h : Yc2 L 211 k with
  |err e => exact Yof d g k v L w hD e h
  |ok i k1 => exact Ym4 d g k v L w hD i k1 h
 by_cases h205 : c = 205
 ·subst h205
  have e : Yb7 L 205 k = ((Ybu L k).bind fun o k => if o.imm = 128 then .ok ⟨43, 0, o, Opd.none, false, 0⟩ k else .err 12) := rfl
  rw [e]
  cases h : Ybu L k with
  |err e => exact Ynu d g k v L w hD e h
  |ok o k1 =>
   rw [DR.bind_ok]
   by_cases hi : o.imm = 128
   ·rw [if_pos hi]; exact Ynm d g k v L w hD o k1 h hi
   ·rw [if_neg hi]; exact Yoo d g k v L w hD o k1 h hi
 by_cases h217 : c = 217
 ·subst h217
  have e : Yb7 L 217 k = ((Yz L k).bind fun x k => if x = 224 then .ok (Yaj 51) k else if x = 225 then .ok (Yaj 52) k else .err 12) := rfl
  rw [e]
  cases h : Yz L k with
  |err e => exact Yg1.1 d g k v L w hD e h
  |ok x k1 =>
   rw [DR.bind_ok]
   by_cases hx : x = 224
   ·rw [if_pos hx]; exact Yoh d g k v L w hD x k1 h hx
   ·rw [if_neg hx]
    by_cases hy : x = 225
    ·rw [if_pos hy]; exact Ynq d g k v L w hD x k1 h hy
    ·rw [if_neg hy]; exact Ym0 d g k v L w hD x k1 h hx hy
 by_cases h220 : c = 220
 ·subst h220
  have e : Yb7 L 220 k = (Yc7 L 220 k) := rfl
  rw [e]
  cases h : Yc7 L 220 k with
  |err e => exact Ym1 d g k v L w hD e h
  |ok i k1 => exact Ym7 d g k v L w hD i k1 h
 by_cases h221 : c = 221
 ·subst h221
  have e : Yb7 L 221 k = (Yc7 L 221 k) := rfl
  rw [e]
  cases h : Yc7 L 221 k with
  |err e => exact Ym9 d g k v L w hD e h
  |ok i k1 => exact Yog d g k v L w hD i k1 h
 by_cases h243 : c = 243
 ·subst h243
  have e : Yb7 L 243 k = ((Yz L k).bind fun x k => if x = 165 then .ok ⟨41, 0, Opd.none, Opd.none, true, 0⟩ k else if x = 171 then .ok ⟨42, 0, Opd.none, Opd.none, true, 0⟩ k else .err 12) := rfl
  rw [e]
  cases h : Yz L k with
  |err e => exact Yg1.2 d g k v L w hD e h
  |ok x k1 =>
   rw [DR.bind_ok]
   by_cases hx : x = 165
   ·rw [if_pos hx]; exact Ym2 d g k v L w hD x k1 h hx
   ·rw [if_neg hx]
    by_cases hy : x = 171
    ·rw [if_pos hy]; exact Ym5 d g k v L w hD x k1 h hy
    ·rw [if_neg hy]; exact Yny d g k v L w hD x k1 h hx hy
 by_cases h247 : c = 247
 ·subst h247
  have e : Yb7 L 247 k = (Ye9 L k) := rfl
  rw [e]
  cases h : Ye9 L k with
  |err e => exact Yos d g k v L w hD e h
  |ok i k1 => exact Ymq d g k v L w hD i k1 h
 by_cases h255 : c = 255
 ·subst h255
  have e : Yb7 L 255 k = (Yf2 L k) := rfl
  rw [e]
  cases h : Yf2 L k with
  |err e => exact Ymr d g k v L w hD e h
  |ok i k1 => exact Ym8 d g k v L w hD i k1 h
 have e : Yb7 L c k = .err 12 := by simp [Yb7, h193, h209, h211, h205, h217, h220, h221, h243, h247, h255]
 rw [e]
 exact Ypi d g k v L w hD c hc0 hc1 h193 h209 h211 h205 h217 h220 h221 h243 h247 h255
theorem Ypf (d g k : Nat) (v : Value) (L : List Int) (w : World) (hD : Yd w d v L g k)  :
  Calls Tryz.prog 93 #[.pointer (some ⟨d, 0, none⟩), .int .u8 144] w (Yp d v L g w (.ok (Yaj 44) k) Ins.val) := by
 have HD := Yh_ hD
 have S1 := Yh_ (RS.start hD)
 clear hD
 go_enter Tryz.func93, Tryz.ntmps93
 go_wp2_with (first | (have _t := S1; clear _t; go_at_call 98; refine (Yex 44 _).mono ?_; rintro e w2 ⟨rfl, hu⟩; have S2 := Yh_ ((S1.out).same hu); clear hu S1) | (have _t := S2; clear _t; refine Ye 42 rfl ?_; refine Yb (Yaj 44) w.heap.size rfl _ _ rfl rfl rfl (S2.out).rr rfl ?_; intro w3 hw; have S3 := Yh_ ((S2.out).store HD.out rfl hw); clear hw S2))
 exact bodyPost_ret (Yj rfl (Yi 4 w.heap.size _ rfl S3.out.rr)) rfl ⟨rfl, S3.out.dd, S3.out.uu⟩
theorem Yp3 (d g k : Nat) (v : Value) (L : List Int) (w : World) (hD : Yd w d v L g k)  :
  Calls Tryz.prog 93 #[.pointer (some ⟨d, 0, none⟩), .int .u8 153] w (Yp d v L g w (.ok (Yaj 38) k) Ins.val) := by
 have HD := Yh_ hD
 have S1 := Yh_ (RS.start hD)
 clear hD
 go_enter Tryz.func93, Tryz.ntmps93
 go_wp2_with (first | (have _t := S1; clear _t; go_at_call 98; refine (Yex 38 _).mono ?_; rintro e w2 ⟨rfl, hu⟩; have S2 := Yh_ ((S1.out).same hu); clear hu S1) | (have _t := S2; clear _t; refine Ye 42 rfl ?_; refine Yb (Yaj 38) w.heap.size rfl _ _ rfl rfl rfl (S2.out).rr rfl ?_; intro w3 hw; have S3 := Yh_ ((S2.out).store HD.out rfl hw); clear hw S2))
 exact bodyPost_ret (Yj rfl (Yi 4 w.heap.size _ rfl S3.out.rr)) rfl ⟨rfl, S3.out.dd, S3.out.uu⟩
theorem Yqe (d g k : Nat) (v : Value) (L : List Int) (w : World) (hD : Yd w d v L g k)  :
  Calls Tryz.prog 93 #[.pointer (some ⟨d, 0, none⟩), .int .u8 165] w (Yp d v L g w (.ok (Yaj 41) k) Ins.val) := by
 have HD := Yh_ hD
 have S1 := Yh_ (RS.start hD)
 clear hD
 go_enter Tryz.func93, Tryz.ntmps93
 go_wp2_with (first | (have _t := S1; clear _t; go_at_call 98; refine (Yex 41 _).mono ?_; rintro e w2 ⟨rfl, hu⟩; have S2 := Yh_ ((S1.out).same hu); clear hu S1) | (have _t := S2; clear _t; refine Ye 42 rfl ?_; refine Yb (Yaj 41) w.heap.size rfl _ _ rfl rfl rfl (S2.out).rr rfl ?_; intro w3 hw; have S3 := Yh_ ((S2.out).store HD.out rfl hw); clear hw S2))
 exact bodyPost_ret (Yj rfl (Yi 4 w.heap.size _ rfl S3.out.rr)) rfl ⟨rfl, S3.out.dd, S3.out.uu⟩
theorem Yqv (d g k : Nat) (v : Value) (L : List Int) (w : World) (hD : Yd w d v L g k)  :
  Calls Tryz.prog 93 #[.pointer (some ⟨d, 0, none⟩), .int .u8 171] w (Yp d v L g w (.ok (Yaj 42) k) Ins.val) := by
 have HD := Yh_ hD
 have S1 := Yh_ (RS.start hD)
 clear hD
 go_enter Tryz.func93, Tryz.ntmps93
 go_wp2_with (first | (have _t := S1; clear _t; go_at_call 98; refine (Yex 42 _).mono ?_; rintro e w2 ⟨rfl, hu⟩; have S2 := Yh_ ((S1.out).same hu); clear hu S1) | (have _t := S2; clear _t; refine Ye 42 rfl ?_; refine Yb (Yaj 42) w.heap.size rfl _ _ rfl rfl rfl (S2.out).rr rfl ?_; intro w3 hw; have S3 := Yh_ ((S2.out).store HD.out rfl hw); clear hw S2))
 exact bodyPost_ret (Yj rfl (Yi 4 w.heap.size _ rfl S3.out.rr)) rfl ⟨rfl, S3.out.dd, S3.out.uu⟩
theorem Yp5 (d g k : Nat) (v : Value) (L : List Int) (w : World) (hD : Yd w d v L g k)  :
  Calls Tryz.prog 93 #[.pointer (some ⟨d, 0, none⟩), .int .u8 195] w (Yp d v L g w (.ok (Yaj 31) k) Ins.val) := by
 have HD := Yh_ hD
 have S1 := Yh_ (RS.start hD)
 clear hD
 go_enter Tryz.func93, Tryz.ntmps93
 go_wp2_with (first | (have _t := S1; clear _t; go_at_call 98; refine (Yex 31 _).mono ?_; rintro e w2 ⟨rfl, hu⟩; have S2 := Yh_ ((S1.out).same hu); clear hu S1) | (have _t := S2; clear _t; refine Ye 42 rfl ?_; refine Yb (Yaj 31) w.heap.size rfl _ _ rfl rfl rfl (S2.out).rr rfl ?_; intro w3 hw; have S3 := Yh_ ((S2.out).store HD.out rfl hw); clear hw S2))
 exact bodyPost_ret (Yj rfl (Yi 4 w.heap.size _ rfl S3.out.rr)) rfl ⟨rfl, S3.out.dd, S3.out.uu⟩
theorem Ypm (d g k : Nat) (v : Value) (L : List Int) (w : World) (hD : Yd w d v L g k)  :
  Calls Tryz.prog 93 #[.pointer (some ⟨d, 0, none⟩), .int .u8 252] w (Yp d v L g w (.ok (Yaj 39) k) Ins.val) := by
 have HD := Yh_ hD
 have S1 := Yh_ (RS.start hD)
 clear hD
 go_enter Tryz.func93, Tryz.ntmps93
 go_wp2_with (first | (have _t := S1; clear _t; go_at_call 98; refine (Yex 39 _).mono ?_; rintro e w2 ⟨rfl, hu⟩; have S2 := Yh_ ((S1.out).same hu); clear hu S1) | (have _t := S2; clear _t; refine Ye 42 rfl ?_; refine Yb (Yaj 39) w.heap.size rfl _ _ rfl rfl rfl (S2.out).rr rfl ?_; intro w3 hw; have S3 := Yh_ ((S2.out).store HD.out rfl hw); clear hw S2))
 exact bodyPost_ret (Yj rfl (Yi 4 w.heap.size _ rfl S3.out.rr)) rfl ⟨rfl, S3.out.dd, S3.out.uu⟩
theorem Yqy (d g k : Nat) (v : Value) (L : List Int) (w : World) (hD : Yd w d v L g k)  :
  Calls Tryz.prog 93 #[.pointer (some ⟨d, 0, none⟩), .int .u8 253] w (Yp d v L g w (.ok (Yaj 40) k) Ins.val) := by
 have HD := Yh_ hD
 have S1 := Yh_ (RS.start hD)
 clear hD
 go_enter Tryz.func93, Tryz.ntmps93
 go_wp2_with (first | (have _t := S1; clear _t; go_at_call 98; refine (Yex 40 _).mono ?_; rintro e w2 ⟨rfl, hu⟩; have S2 := Yh_ ((S1.out).same hu); clear hu S1) | (have _t := S2; clear _t; refine Ye 42 rfl ?_; refine Yb (Yaj 40) w.heap.size rfl _ _ rfl rfl rfl (S2.out).rr rfl ?_; intro w3 hw; have S3 := Yh_ ((S2.out).store HD.out rfl hw); clear hw S2))
 exact bodyPost_ret (Yj rfl (Yi 4 w.heap.size _ rfl S3.out.rr)) rfl ⟨rfl, S3.out.dd, S3.out.uu⟩
theorem Ypa (d g k : Nat) (v : Value) (L : List Int) (w : World) (hD : Yd w d v L g k) (o : Opd) (k1 : Nat) (h : Yas L k = .ok o k1) :
  Calls Tryz.prog 93 #[.pointer (some ⟨d, 0, none⟩), .int .u8 232] w (Yp d v L g w (.ok ⟨30, 0, o, Opd.none, false, 0⟩ k1) Ins.val) := by
 have HD := Yh_ hD
 have S1 := Yh_ (RS.start hD)
 have HP2 := Yh_ (fun (w1 : World) (hd1 : Yd w1 d v L g k) => by have := Yb4 d g k v L w1 hd1; rw [h] at this; exact this)
 clear hD h
 go_enter Tryz.func93, Tryz.ntmps93
 go_wp2_with (first | (have _t := S1; clear _t; go_at_call 70; refine (HP2.out _ (S1.out).dd).mono ?_; rintro e w2 ⟨rfl, hD2, hu⟩; unfold Opd.val; have S2 := Yh_ ((S1.out).step hD2 hu); clear hD2 hu S1) | (have _t := S2; clear _t; refine Ye 42 rfl ?_; refine Yb ⟨30, 0, o, Opd.none, false, 0⟩ w.heap.size rfl _ _ rfl rfl rfl (S2.out).rr rfl ?_; intro w3 hw; have S3 := Yh_ ((S2.out).store HD.out rfl hw); clear hw S2))
 exact bodyPost_ret (Yj rfl (Yi 4 w.heap.size _ rfl S3.out.rr)) rfl ⟨rfl, S3.out.dd, S3.out.uu⟩
theorem Yg2 : (∀ (d g k : Nat) (v : Value) (L : List Int) (w : World) (hD : Yd w d v L g k) (e : Int) (h : Yas L k = .err e), Calls Tryz.prog 93 #[.pointer (some ⟨d, 0, none⟩), .int .u8 232] w (Yp d v L g w (.err e) Ins.val)) ∧
 (∀ (d g k : Nat) (v : Value) (L : List Int) (w : World) (hD : Yd w d v L g k) (e : Int) (h : Yas L k = .err e), Calls Tryz.prog 93 #[.pointer (some ⟨d, 0, none⟩), .int .u8 233] w (Yp d v L g w (.err e) Ins.val)) := by
 refine ⟨fun d g k v L w hD e h => ?_, fun d g k v L w hD e h => ?_⟩
 all_goals
  have HD := Yh_ hD
  have S1 := Yh_ (RS.start hD)
  have HP2 := Yh_ (fun (w1 : World) (hd1 : Yd w1 d v L g k) => by have := Yb4 d g k v L w1 hd1; rw [h] at this; exact this)
  clear hD h
  go_enter Tryz.func93, Tryz.ntmps93
  go_wp2_with (have _t := S1; clear _t; go_at_call 70; refine (HP2.out _ (S1.out).dd).mono ?_; rintro e w2 ⟨rfl, hu⟩)
  exact ⟨rfl, rfl, (S1.out).uu.also hu (by simp)⟩
theorem Yqw (d g k : Nat) (v : Value) (L : List Int) (w : World) (hD : Yd w d v L g k) (o : Opd) (k1 : Nat) (h : Yas L k = .ok o k1) :
  Calls Tryz.prog 93 #[.pointer (some ⟨d, 0, none⟩), .int .u8 233] w (Yp d v L g w (.ok ⟨32, 0, o, Opd.none, false, 0⟩ k1) Ins.val) := by
 have HD := Yh_ hD
 have S1 := Yh_ (RS.start hD)
 have HP2 := Yh_ (fun (w1 : World) (hd1 : Yd w1 d v L g k) => by have := Yb4 d g k v L w1 hd1; rw [h] at this; exact this)
 clear hD h
 go_enter Tryz.func93, Tryz.ntmps93
 go_wp2_with (first | (have _t := S1; clear _t; go_at_call 70; refine (HP2.out _ (S1.out).dd).mono ?_; rintro e w2 ⟨rfl, hD2, hu⟩; unfold Opd.val; have S2 := Yh_ ((S1.out).step hD2 hu); clear hD2 hu S1) | (have _t := S2; clear _t; refine Ye 42 rfl ?_; refine Yb ⟨32, 0, o, Opd.none, false, 0⟩ w.heap.size rfl _ _ rfl rfl rfl (S2.out).rr rfl ?_; intro w3 hw; have S3 := Yh_ ((S2.out).store HD.out rfl hw); clear hw S2))
 exact bodyPost_ret (Yj rfl (Yi 4 w.heap.size _ rfl S3.out.rr)) rfl ⟨rfl, S3.out.dd, S3.out.uu⟩
theorem Ypp (d g k : Nat) (v : Value) (L : List Int) (w : World) (hD : Yd w d v L g k) (e : Int) (h : Yce L k = .err e) :
  Calls Tryz.prog 93 #[.pointer (some ⟨d, 0, none⟩), .int .u8 235] w (Yp d v L g w (.err e) Ins.val) := by
 have HD := Yh_ hD
 have S1 := Yh_ (RS.start hD)
 have HP2 := Yh_ (fun (w1 : World) (hd1 : Yd w1 d v L g k) => by have := Yfo d g k v L w1 hd1; rw [h] at this; exact this)
 clear hD h
 go_enter Tryz.func93, Tryz.ntmps93
 go_wp2_with (have _t := S1; clear _t; go_at_call 68; refine (HP2.out _ (S1.out).dd).mono ?_; rintro e w2 ⟨rfl, hu⟩)
 exact ⟨rfl, rfl, (S1.out).uu.also hu (by simp)⟩
theorem Yqa (d g k : Nat) (v : Value) (L : List Int) (w : World) (hD : Yd w d v L g k) (o : Opd) (k1 : Nat) (h : Yce L k = .ok o k1) :
  Calls Tryz.prog 93 #[.pointer (some ⟨d, 0, none⟩), .int .u8 235] w (Yp d v L g w (.ok ⟨32, 0, o, Opd.none, false, 0⟩ k1) Ins.val) := by
 have HD := Yh_ hD
 have S1 := Yh_ (RS.start hD)
 have HP2 := Yh_ (fun (w1 : World) (hd1 : Yd w1 d v L g k) => by have := Yfo d g k v L w1 hd1; rw [h] at this; exact this)
 clear hD h
 go_enter Tryz.func93, Tryz.ntmps93
 go_wp2_with (first | (have _t := S1; clear _t; go_at_call 68; refine (HP2.out _ (S1.out).dd).mono ?_; rintro e w2 ⟨rfl, hD2, hu⟩; unfold Opd.val; have S2 := Yh_ ((S1.out).step hD2 hu); clear hD2 hu S1) | (have _t := S2; clear _t; refine Ye 42 rfl ?_; refine Yb ⟨32, 0, o, Opd.none, false, 0⟩ w.heap.size rfl _ _ rfl rfl rfl (S2.out).rr rfl ?_; intro w3 hw; have S3 := Yh_ ((S2.out).store HD.out rfl hw); clear hw S2))
 exact bodyPost_ret (Yj rfl (Yi 4 w.heap.size _ rfl S3.out.rr)) rfl ⟨rfl, S3.out.dd, S3.out.uu⟩
theorem Yph (d g k : Nat) (v : Value) (L : List Int) (w : World) (hD : Yd w d v L g k) (c : Int) (hc0 : 0 ≤ c) (hc1 : c ≤ 255) (h144 : c ≠ 144) (h153 : c ≠ 153) (h165 : c ≠ 165) (h171 : c ≠ 171) (h195 : c ≠ 195) (h252 : c ≠ 252) (h253 : c ≠ 253) (h232 : c ≠ 232) (h233 : c ≠ 233) (h235 : c ≠ 235) (e : Int) (h : Yb7 L c k = .err e) :
  Calls Tryz.prog 93 #[.pointer (some ⟨d, 0, none⟩), .int .u8 c] w (Yp d v L g w (.err e) Ins.val) := by
 have HD := Yh_ hD
 have S1 := Yh_ (RS.start hD)
 have e144 : (c == 144) = false := by simpa using h144
 have e153 : (c == 153) = false := by simpa using h153
 have e165 : (c == 165) = false := by simpa using h165
 have e171 : (c == 171) = false := by simpa using h171
 have e195 : (c == 195) = false := by simpa using h195
 have e252 : (c == 252) = false := by simpa using h252
 have e253 : (c == 253) = false := by simpa using h253
 have e232 : (c == 232) = false := by simpa using h232
 have e233 : (c == 233) = false := by simpa using h233
 have e235 : (c == 235) = false := by simpa using h235
 have HP2 := Yh_ (fun (w1 : World) (hd1 : Yd w1 d v L g k) => by have := Ykp d g k v L c w1 hd1 hc0 hc1; rw [h] at this; exact this)
 clear hD h144 h153 h165 h171 h195 h252 h253 h232 h233 h235 h
 go_enter Tryz.func93, Tryz.ntmps93
 go_wp2_with (have _t := S1; clear _t; go_at_call 99; refine (HP2.out _ (S1.out).dd).mono ?_; rintro e w2 ⟨rfl, hu⟩)
 exact ⟨rfl, rfl, (S1.out).uu.also hu (by simp)⟩
theorem Ypy (d g k : Nat) (v : Value) (L : List Int) (w : World) (hD : Yd w d v L g k) (c : Int) (hc0 : 0 ≤ c) (hc1 : c ≤ 255) (h144 : c ≠ 144) (h153 : c ≠ 153) (h165 : c ≠ 165) (h171 : c ≠ 171) (h195 : c ≠ 195) (h252 : c ≠ 252) (h253 : c ≠ 253) (h232 : c ≠ 232) (h233 : c ≠ 233) (h235 : c ≠ 235) (i : Ins) (k1 : Nat) (h : Yb7 L c k = .ok i k1) :
  Calls Tryz.prog 93 #[.pointer (some ⟨d, 0, none⟩), .int .u8 c] w (Yp d v L g w (.ok i k1) Ins.val) := by
 have HD := Yh_ hD
 have S1 := Yh_ (RS.start hD)
 have e144 : (c == 144) = false := by simpa using h144
 have e153 : (c == 153) = false := by simpa using h153
 have e165 : (c == 165) = false := by simpa using h165
 have e171 : (c == 171) = false := by simpa using h171
 have e195 : (c == 195) = false := by simpa using h195
 have e252 : (c == 252) = false := by simpa using h252
 have e253 : (c == 253) = false := by simpa using h253
 have e232 : (c == 232) = false := by simpa using h232
 have e233 : (c == 233) = false := by simpa using h233
 have e235 : (c == 235) = false := by simpa using h235
 have HP2 := Yh_ (fun (w1 : World) (hd1 : Yd w1 d v L g k) => by have := Ykp d g k v L c w1 hd1 hc0 hc1; rw [h] at this; exact this)
 clear hD h144 h153 h165 h171 h195 h252 h253 h232 h233 h235 h
 go_enter Tryz.func93, Tryz.ntmps93
 go_wp2_with (first | (have _t := S1; clear _t; go_at_call 99; refine (HP2.out _ (S1.out).dd).mono ?_; rintro e w2 ⟨rfl, hD2, hu⟩; have S2 := Yh_ ((S1.out).step hD2 hu); clear hD2 hu S1) | (have _t := S2; clear _t; refine Ye 42 rfl ?_; refine Yb i w.heap.size rfl _ _ rfl rfl rfl (S2.out).rr rfl ?_; intro w3 hw; have S3 := Yh_ ((S2.out).store HD.out rfl hw); clear hw S2))
 exact bodyPost_ret (Yj rfl (Yi 4 w.heap.size _ rfl S3.out.rr)) rfl ⟨rfl, S3.out.dd, S3.out.uu⟩
theorem Ymi (d g k : Nat) (v : Value) (L : List Int) (c : Int) (w : World) (hD : Yd w d v L g k) (hc0 : 0 ≤ c) (hc1 : c ≤ 255) :
  Calls Tryz.prog 93 #[.pointer (some ⟨d, 0, none⟩), .int .u8 c] w (Yp d v L g w (Ycg L c k) Ins.val) := by
 by_cases h144 : c = 144
 ·subst h144
  have e : Ycg L 144 k = (.ok (Yaj 44) k) := rfl
  rw [e]
  exact Ypf d g k v L w hD
 by_cases h153 : c = 153
 ·subst h153
  have e : Ycg L 153 k = (.ok (Yaj 38) k) := rfl
  rw [e]
  exact Yp3 d g k v L w hD
 by_cases h165 : c = 165
 ·subst h165
  have e : Ycg L 165 k = (.ok (Yaj 41) k) := rfl
  rw [e]
  exact Yqe d g k v L w hD
 by_cases h171 : c = 171
 ·subst h171
  have e : Ycg L 171 k = (.ok (Yaj 42) k) := rfl
  rw [e]
  exact Yqv d g k v L w hD
 by_cases h195 : c = 195
 ·subst h195
  have e : Ycg L 195 k = (.ok (Yaj 31) k) := rfl
  rw [e]
  exact Yp5 d g k v L w hD
 by_cases h252 : c = 252
 ·subst h252
  have e : Ycg L 252 k = (.ok (Yaj 39) k) := rfl
  rw [e]
  exact Ypm d g k v L w hD
 by_cases h253 : c = 253
 ·subst h253
  have e : Ycg L 253 k = (.ok (Yaj 40) k) := rfl
  rw [e]
  exact Yqy d g k v L w hD
 by_cases h232 : c = 232
 ·subst h232
  have e : Ycg L 232 k = ((Yas L k).bind fun o k => .ok ⟨30, 0, o, Opd.none, false, 0⟩ k) := rfl
  rw [e]
  cases h : Yas L k with
  |err e => exact Yg2.1 d g k v L w hD e h
  |ok o k1 => exact Ypa d g k v L w hD o k1 h
 by_cases h233 : c = 233
 ·subst h233
  have e : Ycg L 233 k = ((Yas L k).bind fun o k => .ok ⟨32, 0, o, Opd.none, false, 0⟩ k) := rfl
  rw [e]
  cases h : Yas L k with
  |err e => exact Yg2.2 d g k v L w hD e h
  |ok o k1 => exact Yqw d g k v L w hD o k1 h
 by_cases h235 : c = 235
 ·subst h235
  have e : Ycg L 235 k = ((Yce L k).bind fun o k => .ok ⟨32, 0, o, Opd.none, false, 0⟩ k) := rfl
  rw [e]
  cases h : Yce L k with
  |err e => exact Ypp d g k v L w hD e h
  |ok o k1 => exact Yqa d g k v L w hD o k1 h
 have e : Ycg L c k = Yb7 L c k := by simp [Ycg, h144, h153, h165, h171, h195, h252, h253, h232, h233, h235]
 rw [e]
 cases h : Yb7 L c k with
 |err e => exact Yph d g k v L w hD c hc0 hc1 h144 h153 h165 h171 h195 h252 h253 h232 h233 h235 e h
 |ok i k1 => exact Ypy d g k v L w hD c hc0 hc1 h144 h153 h165 h171 h195 h252 h253 h232 h233 h235 i k1 h
end Go.Proofs.YteiplidhkelkbaaGreat
