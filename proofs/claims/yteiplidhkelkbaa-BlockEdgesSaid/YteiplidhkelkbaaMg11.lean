/-
  Package decode: groups, by its contract.
-/
import Derived.Test.YteiplidhkelkbaaMg10
namespace Go.Proofs.Yteiplidhkelkbaa
open Go Go.RowKit
set_option linter.unusedVariables false
set_option linter.unusedSimpArgs false

set_option maxRecDepth 100000 in
set_option maxHeartbeats 2000000 in
theorem groups_193_1 (d g k : Nat) (v : Value) (L : List Int) (w : World) (hD : IsDec w d v L g k) (e : Int) (h : dcShift L 193 k = .err e) :
    Calls Try.prog 55 #[.pointer (some ⟨d, 0, none⟩), .int .u8 193] w (DAns d v L g w (.err e) Ins.val) := by
  have HD := Lib.hid hD
  have S1 := Lib.hid (RS.start hD)
  have HP2 := Lib.hid (fun (w1 : World) (hd1 : IsDec w1 d v L g k) => by have := shift_any d g k v L 193 w1 hd1; rw [h] at this; exact this)
  clear hD h
  go_enter Try.func55, Try.ntmps55
  go_wp2_with (have _t := S1; clear _t; go_at_call 56; refine (HP2.out _ (S1.out).dd).mono ?_; rintro e w2 ⟨rfl, hu⟩)
  exact ⟨rfl, rfl, (S1.out).uu.also hu (by simp)⟩

set_option maxRecDepth 100000 in
set_option maxHeartbeats 2000000 in
theorem groups_193_2 (d g k : Nat) (v : Value) (L : List Int) (w : World) (hD : IsDec w d v L g k) (i : Ins) (k1 : Nat) (h : dcShift L 193 k = .ok i k1) :
    Calls Try.prog 55 #[.pointer (some ⟨d, 0, none⟩), .int .u8 193] w (DAns d v L g w (.ok i k1) Ins.val) := by
  have HD := Lib.hid hD
  have S1 := Lib.hid (RS.start hD)
  have HP2 := Lib.hid (fun (w1 : World) (hd1 : IsDec w1 d v L g k) => by have := shift_any d g k v L 193 w1 hd1; rw [h] at this; exact this)
  clear hD h
  go_enter Try.func55, Try.ntmps55
  go_wp2_with (first | (have _t := S1; clear _t; go_at_call 56; refine (HP2.out _ (S1.out).dd).mono ?_; rintro e w2 ⟨rfl, hD2, hu⟩; have S2 := Lib.hid ((S1.out).step hD2 hu); clear hD2 hu S1) | (have _t := S2; clear _t; refine at_store 38 rfl ?_; refine wpList_store_ins i w.heap.size rfl _ _ rfl rfl rfl (S2.out).rr rfl ?_; intro w3 hw; have S3 := Lib.hid ((S2.out).store HD.out rfl hw); clear hw S2))
  exact bodyPost_ret (results_one' rfl (res_ins 4 w.heap.size _ rfl S3.out.rr)) rfl ⟨rfl, S3.out.dd, S3.out.uu⟩

set_option maxRecDepth 100000 in
set_option maxHeartbeats 2000000 in
theorem groups_209_1 (d g k : Nat) (v : Value) (L : List Int) (w : World) (hD : IsDec w d v L g k) (e : Int) (h : dcShift L 209 k = .err e) :
    Calls Try.prog 55 #[.pointer (some ⟨d, 0, none⟩), .int .u8 209] w (DAns d v L g w (.err e) Ins.val) := by
  have HD := Lib.hid hD
  have S1 := Lib.hid (RS.start hD)
  have HP2 := Lib.hid (fun (w1 : World) (hd1 : IsDec w1 d v L g k) => by have := shift_any d g k v L 209 w1 hd1; rw [h] at this; exact this)
  clear hD h
  go_enter Try.func55, Try.ntmps55
  go_wp2_with (have _t := S1; clear _t; go_at_call 56; refine (HP2.out _ (S1.out).dd).mono ?_; rintro e w2 ⟨rfl, hu⟩)
  exact ⟨rfl, rfl, (S1.out).uu.also hu (by simp)⟩

set_option maxRecDepth 100000 in
set_option maxHeartbeats 2000000 in
theorem groups_209_2 (d g k : Nat) (v : Value) (L : List Int) (w : World) (hD : IsDec w d v L g k) (i : Ins) (k1 : Nat) (h : dcShift L 209 k = .ok i k1) :
    Calls Try.prog 55 #[.pointer (some ⟨d, 0, none⟩), .int .u8 209] w (DAns d v L g w (.ok i k1) Ins.val) := by
  have HD := Lib.hid hD
  have S1 := Lib.hid (RS.start hD)
  have HP2 := Lib.hid (fun (w1 : World) (hd1 : IsDec w1 d v L g k) => by have := shift_any d g k v L 209 w1 hd1; rw [h] at this; exact this)
  clear hD h
  go_enter Try.func55, Try.ntmps55
  go_wp2_with (first | (have _t := S1; clear _t; go_at_call 56; refine (HP2.out _ (S1.out).dd).mono ?_; rintro e w2 ⟨rfl, hD2, hu⟩; have S2 := Lib.hid ((S1.out).step hD2 hu); clear hD2 hu S1) | (have _t := S2; clear _t; refine at_store 38 rfl ?_; refine wpList_store_ins i w.heap.size rfl _ _ rfl rfl rfl (S2.out).rr rfl ?_; intro w3 hw; have S3 := Lib.hid ((S2.out).store HD.out rfl hw); clear hw S2))
  exact bodyPost_ret (results_one' rfl (res_ins 4 w.heap.size _ rfl S3.out.rr)) rfl ⟨rfl, S3.out.dd, S3.out.uu⟩

set_option maxRecDepth 100000 in
set_option maxHeartbeats 2000000 in
theorem groups_211_1 (d g k : Nat) (v : Value) (L : List Int) (w : World) (hD : IsDec w d v L g k) (e : Int) (h : dcShift L 211 k = .err e) :
    Calls Try.prog 55 #[.pointer (some ⟨d, 0, none⟩), .int .u8 211] w (DAns d v L g w (.err e) Ins.val) := by
  have HD := Lib.hid hD
  have S1 := Lib.hid (RS.start hD)
  have HP2 := Lib.hid (fun (w1 : World) (hd1 : IsDec w1 d v L g k) => by have := shift_any d g k v L 211 w1 hd1; rw [h] at this; exact this)
  clear hD h
  go_enter Try.func55, Try.ntmps55
  go_wp2_with (have _t := S1; clear _t; go_at_call 56; refine (HP2.out _ (S1.out).dd).mono ?_; rintro e w2 ⟨rfl, hu⟩)
  exact ⟨rfl, rfl, (S1.out).uu.also hu (by simp)⟩

set_option maxRecDepth 100000 in
set_option maxHeartbeats 2000000 in
theorem groups_211_2 (d g k : Nat) (v : Value) (L : List Int) (w : World) (hD : IsDec w d v L g k) (i : Ins) (k1 : Nat) (h : dcShift L 211 k = .ok i k1) :
    Calls Try.prog 55 #[.pointer (some ⟨d, 0, none⟩), .int .u8 211] w (DAns d v L g w (.ok i k1) Ins.val) := by
  have HD := Lib.hid hD
  have S1 := Lib.hid (RS.start hD)
  have HP2 := Lib.hid (fun (w1 : World) (hd1 : IsDec w1 d v L g k) => by have := shift_any d g k v L 211 w1 hd1; rw [h] at this; exact this)
  clear hD h
  go_enter Try.func55, Try.ntmps55
  go_wp2_with (first | (have _t := S1; clear _t; go_at_call 56; refine (HP2.out _ (S1.out).dd).mono ?_; rintro e w2 ⟨rfl, hD2, hu⟩; have S2 := Lib.hid ((S1.out).step hD2 hu); clear hD2 hu S1) | (have _t := S2; clear _t; refine at_store 38 rfl ?_; refine wpList_store_ins i w.heap.size rfl _ _ rfl rfl rfl (S2.out).rr rfl ?_; intro w3 hw; have S3 := Lib.hid ((S2.out).store HD.out rfl hw); clear hw S2))
  exact bodyPost_ret (results_one' rfl (res_ins 4 w.heap.size _ rfl S3.out.rr)) rfl ⟨rfl, S3.out.dd, S3.out.uu⟩

set_option maxRecDepth 100000 in
set_option maxHeartbeats 2000000 in
theorem groups_205_1 (d g k : Nat) (v : Value) (L : List Int) (w : World) (hD : IsDec w d v L g k) (e : Int) (h : dcSmall L k = .err e) :
    Calls Try.prog 55 #[.pointer (some ⟨d, 0, none⟩), .int .u8 205] w (DAns d v L g w (.err e) Ins.val) := by
  have HD := Lib.hid hD
  have S1 := Lib.hid (RS.start hD)
  have HP2 := Lib.hid (fun (w1 : World) (hd1 : IsDec w1 d v L g k) => by have := small_any d g k v L w1 hd1; rw [h] at this; exact this)
  clear hD h
  go_enter Try.func55, Try.ntmps55
  go_wp2_with (have _t := S1; clear _t; go_at_call 37; refine (HP2.out _ (S1.out).dd).mono ?_; rintro e w2 ⟨rfl, hu⟩)
  exact ⟨rfl, rfl, (S1.out).uu.also hu (by simp)⟩

set_option maxRecDepth 100000 in
set_option maxHeartbeats 2000000 in
theorem groups_205_2 (d g k : Nat) (v : Value) (L : List Int) (w : World) (hD : IsDec w d v L g k) (o : Opd) (k1 : Nat) (h : dcSmall L k = .ok o k1) (hi : o.imm = 128) :
    Calls Try.prog 55 #[.pointer (some ⟨d, 0, none⟩), .int .u8 205] w (DAns d v L g w (.ok ⟨43, 0, o, Opd.none, false, 0⟩ k1) Ins.val) := by
  have HD := Lib.hid hD
  have S1 := Lib.hid (RS.start hD)
  have ei : (o.imm == 128) = true := by simpa using hi
  have HP2 := Lib.hid (fun (w1 : World) (hd1 : IsDec w1 d v L g k) => by have := small_any d g k v L w1 hd1; rw [h] at this; exact this)
  clear hD h hi
  go_enter Try.func55, Try.ntmps55
  go_wp2_with (first | (have _t := S1; clear _t; go_at_call 37; refine (HP2.out _ (S1.out).dd).mono ?_; rintro e w2 ⟨rfl, hD2, hu⟩; unfold Opd.val; have S2 := Lib.hid ((S1.out).step hD2 hu); clear hD2 hu S1) | (have _t := S2; clear _t; refine at_store 38 rfl ?_; refine wpList_store_ins ⟨43, 0, o, Opd.none, false, 0⟩ w.heap.size rfl _ _ rfl rfl rfl ((S2.out).same ((Upd.refl [] w2).alloc (.cells o.cells 36))).rr rfl ?_; intro w3 hw; have S3 := Lib.hid (((S2.out).same ((Upd.refl [] w2).alloc (.cells o.cells 36))).store HD.out rfl hw); clear hw S2))
  exact bodyPost_ret (results_one' rfl (res_ins 4 w.heap.size _ rfl S3.out.rr)) rfl ⟨rfl, S3.out.dd, S3.out.uu⟩

set_option maxRecDepth 100000 in
set_option maxHeartbeats 2000000 in
theorem groups_205_3 (d g k : Nat) (v : Value) (L : List Int) (w : World) (hD : IsDec w d v L g k) (o : Opd) (k1 : Nat) (h : dcSmall L k = .ok o k1) (hi : o.imm ≠ 128) :
    Calls Try.prog 55 #[.pointer (some ⟨d, 0, none⟩), .int .u8 205] w (DAns d v L g w (.err 12) Ins.val) := by
  have HD := Lib.hid hD
  have S1 := Lib.hid (RS.start hD)
  have ei : (o.imm == 128) = false := by simpa using hi
  have HP2 := Lib.hid (fun (w1 : World) (hd1 : IsDec w1 d v L g k) => by have := small_any d g k v L w1 hd1; rw [h] at this; exact this)
  clear hD h hi
  go_enter Try.func55, Try.ntmps55
  go_wp2_with (have _t := S1; clear _t; go_at_call 37; refine (HP2.out _ (S1.out).dd).mono ?_; rintro e w2 ⟨rfl, hD2, hu⟩; unfold Opd.val; have S2 := Lib.hid ((S1.out).step hD2 hu); clear hD2 hu S1)
  exact ⟨rfl, rfl, ((S2.out).same ((Upd.refl [] w2).alloc (.cells o.cells 36))).uu⟩

set_option maxRecDepth 100000 in
set_option maxHeartbeats 2000000 in
theorem groups_217_1 (d g k : Nat) (v : Value) (L : List Int) (w : World) (hD : IsDec w d v L g k) (e : Int) (h : dcByte L k = .err e) :
    Calls Try.prog 55 #[.pointer (some ⟨d, 0, none⟩), .int .u8 217] w (DAns d v L g w (.err e) Ins.val) := by
  have HD := Lib.hid hD
  have S1 := Lib.hid (RS.start hD)
  have HP2 := Lib.hid (fun (w1 : World) (hd1 : IsDec w1 d v L g k) => by have := byte_any d g k v L w1 hd1; rw [h] at this; exact this)
  clear hD h
  go_enter Try.func55, Try.ntmps55
  go_wp2_with (have _t := S1; clear _t; go_at_call 32; refine (HP2.out _ (S1.out).dd).mono ?_; rintro e w2 ⟨rfl, hu⟩)
  exact ⟨rfl, rfl, (S1.out).uu.also hu (by simp)⟩

set_option maxRecDepth 100000 in
set_option maxHeartbeats 2000000 in
theorem groups_217_2 (d g k : Nat) (v : Value) (L : List Int) (w : World) (hD : IsDec w d v L g k) (x : Int) (k1 : Nat) (h : dcByte L k = .ok x k1) (hx : x = 224) :
    Calls Try.prog 55 #[.pointer (some ⟨d, 0, none⟩), .int .u8 217] w (DAns d v L g w (.ok (bareI 51) k1) Ins.val) := by
  have HD := Lib.hid hD
  have S1 := Lib.hid (RS.start hD)
  subst hx
  have HP2 := Lib.hid (fun (w1 : World) (hd1 : IsDec w1 d v L g k) => by have := byte_any d g k v L w1 hd1; rw [h] at this; exact this)
  clear hD h
  go_enter Try.func55, Try.ntmps55
  go_wp2_with (first | (have _t := S1; clear _t; go_at_call 32; refine (HP2.out _ (S1.out).dd).mono ?_; rintro e w2 ⟨rfl, hD2, hu⟩; have S2 := Lib.hid ((S1.out).step hD2 hu); clear hD2 hu S1) | (have _t := S2; clear _t; go_at_call 54; refine (bare_any 51 _).mono ?_; rintro e w3 ⟨rfl, hu⟩; have S3 := Lib.hid ((S2.out).same hu); clear hu S2) | (have _t := S3; clear _t; refine at_store 38 rfl ?_; refine wpList_store_ins (bareI 51) w.heap.size rfl _ _ rfl rfl rfl (S3.out).rr rfl ?_; intro w4 hw; have S4 := Lib.hid ((S3.out).store HD.out rfl hw); clear hw S3))
  exact bodyPost_ret (results_one' rfl (res_ins 4 w.heap.size _ rfl S4.out.rr)) rfl ⟨rfl, S4.out.dd, S4.out.uu⟩

set_option maxRecDepth 100000 in
set_option maxHeartbeats 2000000 in
theorem groups_217_3 (d g k : Nat) (v : Value) (L : List Int) (w : World) (hD : IsDec w d v L g k) (x : Int) (k1 : Nat) (h : dcByte L k = .ok x k1) (hx : x = 225) :
    Calls Try.prog 55 #[.pointer (some ⟨d, 0, none⟩), .int .u8 217] w (DAns d v L g w (.ok (bareI 52) k1) Ins.val) := by
  have HD := Lib.hid hD
  have S1 := Lib.hid (RS.start hD)
  subst hx
  have HP2 := Lib.hid (fun (w1 : World) (hd1 : IsDec w1 d v L g k) => by have := byte_any d g k v L w1 hd1; rw [h] at this; exact this)
  clear hD h
  go_enter Try.func55, Try.ntmps55
  go_wp2_with (first | (have _t := S1; clear _t; go_at_call 32; refine (HP2.out _ (S1.out).dd).mono ?_; rintro e w2 ⟨rfl, hD2, hu⟩; have S2 := Lib.hid ((S1.out).step hD2 hu); clear hD2 hu S1) | (have _t := S2; clear _t; go_at_call 54; refine (bare_any 52 _).mono ?_; rintro e w3 ⟨rfl, hu⟩; have S3 := Lib.hid ((S2.out).same hu); clear hu S2) | (have _t := S3; clear _t; refine at_store 38 rfl ?_; refine wpList_store_ins (bareI 52) w.heap.size rfl _ _ rfl rfl rfl (S3.out).rr rfl ?_; intro w4 hw; have S4 := Lib.hid ((S3.out).store HD.out rfl hw); clear hw S3))
  exact bodyPost_ret (results_one' rfl (res_ins 4 w.heap.size _ rfl S4.out.rr)) rfl ⟨rfl, S4.out.dd, S4.out.uu⟩

set_option maxRecDepth 100000 in
set_option maxHeartbeats 2000000 in
theorem groups_217_4 (d g k : Nat) (v : Value) (L : List Int) (w : World) (hD : IsDec w d v L g k) (x : Int) (k1 : Nat) (h : dcByte L k = .ok x k1) (hx : x ≠ 224) (hy : x ≠ 225) :
    Calls Try.prog 55 #[.pointer (some ⟨d, 0, none⟩), .int .u8 217] w (DAns d v L g w (.err 12) Ins.val) := by
  have HD := Lib.hid hD
  have S1 := Lib.hid (RS.start hD)
  have ex : (x == 224) = false := by simpa using hx
  have ey : (x == 225) = false := by simpa using hy
  have HP2 := Lib.hid (fun (w1 : World) (hd1 : IsDec w1 d v L g k) => by have := byte_any d g k v L w1 hd1; rw [h] at this; exact this)
  clear hD h hx hy
  go_enter Try.func55, Try.ntmps55
  go_wp2_with (have _t := S1; clear _t; go_at_call 32; refine (HP2.out _ (S1.out).dd).mono ?_; rintro e w2 ⟨rfl, hD2, hu⟩; have S2 := Lib.hid ((S1.out).step hD2 hu); clear hD2 hu S1)
  exact ⟨rfl, rfl, (S2.out).uu⟩

set_option maxRecDepth 100000 in
set_option maxHeartbeats 2000000 in
theorem groups_220_1 (d g k : Nat) (v : Value) (L : List Int) (w : World) (hD : IsDec w d v L g k) (e : Int) (h : dcNumber L 220 k = .err e) :
    Calls Try.prog 55 #[.pointer (some ⟨d, 0, none⟩), .int .u8 220] w (DAns d v L g w (.err e) Ins.val) := by
  have HD := Lib.hid hD
  have S1 := Lib.hid (RS.start hD)
  have HP2 := Lib.hid (fun (w1 : World) (hd1 : IsDec w1 d v L g k) => by have := number_any d g k v L 220 w1 hd1; rw [h] at this; exact this)
  clear hD h
  go_enter Try.func55, Try.ntmps55
  go_wp2_with (have _t := S1; clear _t; go_at_call 57; refine (HP2.out _ (S1.out).dd).mono ?_; rintro e w2 ⟨rfl, hu⟩)
  exact ⟨rfl, rfl, (S1.out).uu.also hu (by simp)⟩

set_option maxRecDepth 100000 in
set_option maxHeartbeats 2000000 in
theorem groups_220_2 (d g k : Nat) (v : Value) (L : List Int) (w : World) (hD : IsDec w d v L g k) (i : Ins) (k1 : Nat) (h : dcNumber L 220 k = .ok i k1) :
    Calls Try.prog 55 #[.pointer (some ⟨d, 0, none⟩), .int .u8 220] w (DAns d v L g w (.ok i k1) Ins.val) := by
  have HD := Lib.hid hD
  have S1 := Lib.hid (RS.start hD)
  have HP2 := Lib.hid (fun (w1 : World) (hd1 : IsDec w1 d v L g k) => by have := number_any d g k v L 220 w1 hd1; rw [h] at this; exact this)
  clear hD h
  go_enter Try.func55, Try.ntmps55
  go_wp2_with (first | (have _t := S1; clear _t; go_at_call 57; refine (HP2.out _ (S1.out).dd).mono ?_; rintro e w2 ⟨rfl, hD2, hu⟩; have S2 := Lib.hid ((S1.out).step hD2 hu); clear hD2 hu S1) | (have _t := S2; clear _t; refine at_store 38 rfl ?_; refine wpList_store_ins i w.heap.size rfl _ _ rfl rfl rfl (S2.out).rr rfl ?_; intro w3 hw; have S3 := Lib.hid ((S2.out).store HD.out rfl hw); clear hw S2))
  exact bodyPost_ret (results_one' rfl (res_ins 4 w.heap.size _ rfl S3.out.rr)) rfl ⟨rfl, S3.out.dd, S3.out.uu⟩

set_option maxRecDepth 100000 in
set_option maxHeartbeats 2000000 in
theorem groups_221_1 (d g k : Nat) (v : Value) (L : List Int) (w : World) (hD : IsDec w d v L g k) (e : Int) (h : dcNumber L 221 k = .err e) :
    Calls Try.prog 55 #[.pointer (some ⟨d, 0, none⟩), .int .u8 221] w (DAns d v L g w (.err e) Ins.val) := by
  have HD := Lib.hid hD
  have S1 := Lib.hid (RS.start hD)
  have HP2 := Lib.hid (fun (w1 : World) (hd1 : IsDec w1 d v L g k) => by have := number_any d g k v L 221 w1 hd1; rw [h] at this; exact this)
  clear hD h
  go_enter Try.func55, Try.ntmps55
  go_wp2_with (have _t := S1; clear _t; go_at_call 57; refine (HP2.out _ (S1.out).dd).mono ?_; rintro e w2 ⟨rfl, hu⟩)
  exact ⟨rfl, rfl, (S1.out).uu.also hu (by simp)⟩

set_option maxRecDepth 100000 in
set_option maxHeartbeats 2000000 in
theorem groups_221_2 (d g k : Nat) (v : Value) (L : List Int) (w : World) (hD : IsDec w d v L g k) (i : Ins) (k1 : Nat) (h : dcNumber L 221 k = .ok i k1) :
    Calls Try.prog 55 #[.pointer (some ⟨d, 0, none⟩), .int .u8 221] w (DAns d v L g w (.ok i k1) Ins.val) := by
  have HD := Lib.hid hD
  have S1 := Lib.hid (RS.start hD)
  have HP2 := Lib.hid (fun (w1 : World) (hd1 : IsDec w1 d v L g k) => by have := number_any d g k v L 221 w1 hd1; rw [h] at this; exact this)
  clear hD h
  go_enter Try.func55, Try.ntmps55
  go_wp2_with (first | (have _t := S1; clear _t; go_at_call 57; refine (HP2.out _ (S1.out).dd).mono ?_; rintro e w2 ⟨rfl, hD2, hu⟩; have S2 := Lib.hid ((S1.out).step hD2 hu); clear hD2 hu S1) | (have _t := S2; clear _t; refine at_store 38 rfl ?_; refine wpList_store_ins i w.heap.size rfl _ _ rfl rfl rfl (S2.out).rr rfl ?_; intro w3 hw; have S3 := Lib.hid ((S2.out).store HD.out rfl hw); clear hw S2))
  exact bodyPost_ret (results_one' rfl (res_ins 4 w.heap.size _ rfl S3.out.rr)) rfl ⟨rfl, S3.out.dd, S3.out.uu⟩

set_option maxRecDepth 100000 in
set_option maxHeartbeats 2000000 in
theorem groups_243_1 (d g k : Nat) (v : Value) (L : List Int) (w : World) (hD : IsDec w d v L g k) (e : Int) (h : dcByte L k = .err e) :
    Calls Try.prog 55 #[.pointer (some ⟨d, 0, none⟩), .int .u8 243] w (DAns d v L g w (.err e) Ins.val) := by
  have HD := Lib.hid hD
  have S1 := Lib.hid (RS.start hD)
  have HP2 := Lib.hid (fun (w1 : World) (hd1 : IsDec w1 d v L g k) => by have := byte_any d g k v L w1 hd1; rw [h] at this; exact this)
  clear hD h
  go_enter Try.func55, Try.ntmps55
  go_wp2_with (have _t := S1; clear _t; go_at_call 32; refine (HP2.out _ (S1.out).dd).mono ?_; rintro e w2 ⟨rfl, hu⟩)
  exact ⟨rfl, rfl, (S1.out).uu.also hu (by simp)⟩

set_option maxRecDepth 100000 in
set_option maxHeartbeats 2000000 in
theorem groups_243_2 (d g k : Nat) (v : Value) (L : List Int) (w : World) (hD : IsDec w d v L g k) (x : Int) (k1 : Nat) (h : dcByte L k = .ok x k1) (hx : x = 165) :
    Calls Try.prog 55 #[.pointer (some ⟨d, 0, none⟩), .int .u8 243] w (DAns d v L g w (.ok ⟨41, 0, Opd.none, Opd.none, true, 0⟩ k1) Ins.val) := by
  have HD := Lib.hid hD
  have S1 := Lib.hid (RS.start hD)
  subst hx
  have HP2 := Lib.hid (fun (w1 : World) (hd1 : IsDec w1 d v L g k) => by have := byte_any d g k v L w1 hd1; rw [h] at this; exact this)
  clear hD h
  go_enter Try.func55, Try.ntmps55
  go_wp2_with (first | (have _t := S1; clear _t; go_at_call 32; refine (HP2.out _ (S1.out).dd).mono ?_; rintro e w2 ⟨rfl, hD2, hu⟩; have S2 := Lib.hid ((S1.out).step hD2 hu); clear hD2 hu S1) | (have _t := S2; clear _t; refine at_store 38 rfl ?_; refine wpList_store_ins ⟨41, 0, Opd.none, Opd.none, true, 0⟩ w.heap.size rfl _ _ rfl rfl rfl (S2.out).rr rfl ?_; intro w3 hw; have S3 := Lib.hid ((S2.out).store HD.out rfl hw); clear hw S2))
  exact bodyPost_ret (results_one' rfl (res_ins 4 w.heap.size _ rfl S3.out.rr)) rfl ⟨rfl, S3.out.dd, S3.out.uu⟩

set_option maxRecDepth 100000 in
set_option maxHeartbeats 2000000 in
theorem groups_243_3 (d g k : Nat) (v : Value) (L : List Int) (w : World) (hD : IsDec w d v L g k) (x : Int) (k1 : Nat) (h : dcByte L k = .ok x k1) (hx : x = 171) :
    Calls Try.prog 55 #[.pointer (some ⟨d, 0, none⟩), .int .u8 243] w (DAns d v L g w (.ok ⟨42, 0, Opd.none, Opd.none, true, 0⟩ k1) Ins.val) := by
  have HD := Lib.hid hD
  have S1 := Lib.hid (RS.start hD)
  subst hx
  have HP2 := Lib.hid (fun (w1 : World) (hd1 : IsDec w1 d v L g k) => by have := byte_any d g k v L w1 hd1; rw [h] at this; exact this)
  clear hD h
  go_enter Try.func55, Try.ntmps55
  go_wp2_with (first | (have _t := S1; clear _t; go_at_call 32; refine (HP2.out _ (S1.out).dd).mono ?_; rintro e w2 ⟨rfl, hD2, hu⟩; have S2 := Lib.hid ((S1.out).step hD2 hu); clear hD2 hu S1) | (have _t := S2; clear _t; refine at_store 38 rfl ?_; refine wpList_store_ins ⟨42, 0, Opd.none, Opd.none, true, 0⟩ w.heap.size rfl _ _ rfl rfl rfl (S2.out).rr rfl ?_; intro w3 hw; have S3 := Lib.hid ((S2.out).store HD.out rfl hw); clear hw S2))
  exact bodyPost_ret (results_one' rfl (res_ins 4 w.heap.size _ rfl S3.out.rr)) rfl ⟨rfl, S3.out.dd, S3.out.uu⟩

set_option maxRecDepth 100000 in
set_option maxHeartbeats 2000000 in
theorem groups_243_4 (d g k : Nat) (v : Value) (L : List Int) (w : World) (hD : IsDec w d v L g k) (x : Int) (k1 : Nat) (h : dcByte L k = .ok x k1) (hx : x ≠ 165) (hy : x ≠ 171) :
    Calls Try.prog 55 #[.pointer (some ⟨d, 0, none⟩), .int .u8 243] w (DAns d v L g w (.err 12) Ins.val) := by
  have HD := Lib.hid hD
  have S1 := Lib.hid (RS.start hD)
  have ex : (x == 165) = false := by simpa using hx
  have ey : (x == 171) = false := by simpa using hy
  have HP2 := Lib.hid (fun (w1 : World) (hd1 : IsDec w1 d v L g k) => by have := byte_any d g k v L w1 hd1; rw [h] at this; exact this)
  clear hD h hx hy
  go_enter Try.func55, Try.ntmps55
  go_wp2_with (have _t := S1; clear _t; go_at_call 32; refine (HP2.out _ (S1.out).dd).mono ?_; rintro e w2 ⟨rfl, hD2, hu⟩; have S2 := Lib.hid ((S1.out).step hD2 hu); clear hD2 hu S1)
  exact ⟨rfl, rfl, (S2.out).uu⟩

set_option maxRecDepth 100000 in
set_option maxHeartbeats 2000000 in
theorem groups_247_1 (d g k : Nat) (v : Value) (L : List Int) (w : World) (hD : IsDec w d v L g k) (e : Int) (h : dcUnary L k = .err e) :
    Calls Try.prog 55 #[.pointer (some ⟨d, 0, none⟩), .int .u8 247] w (DAns d v L g w (.err e) Ins.val) := by
  have HD := Lib.hid hD
  have S1 := Lib.hid (RS.start hD)
  have HP2 := Lib.hid (fun (w1 : World) (hd1 : IsDec w1 d v L g k) => by have := unary_any d g k v L w1 hd1; rw [h] at this; exact this)
  clear hD h
  go_enter Try.func55, Try.ntmps55
  go_wp2_with (have _t := S1; clear _t; go_at_call 58; refine (HP2.out _ (S1.out).dd).mono ?_; rintro e w2 ⟨rfl, hu⟩)
  exact ⟨rfl, rfl, (S1.out).uu.also hu (by simp)⟩

set_option maxRecDepth 100000 in
set_option maxHeartbeats 2000000 in
theorem groups_247_2 (d g k : Nat) (v : Value) (L : List Int) (w : World) (hD : IsDec w d v L g k) (i : Ins) (k1 : Nat) (h : dcUnary L k = .ok i k1) :
    Calls Try.prog 55 #[.pointer (some ⟨d, 0, none⟩), .int .u8 247] w (DAns d v L g w (.ok i k1) Ins.val) := by
  have HD := Lib.hid hD
  have S1 := Lib.hid (RS.start hD)
  have HP2 := Lib.hid (fun (w1 : World) (hd1 : IsDec w1 d v L g k) => by have := unary_any d g k v L w1 hd1; rw [h] at this; exact this)
  clear hD h
  go_enter Try.func55, Try.ntmps55
  go_wp2_with (first | (have _t := S1; clear _t; go_at_call 58; refine (HP2.out _ (S1.out).dd).mono ?_; rintro e w2 ⟨rfl, hD2, hu⟩; have S2 := Lib.hid ((S1.out).step hD2 hu); clear hD2 hu S1) | (have _t := S2; clear _t; refine at_store 38 rfl ?_; refine wpList_store_ins i w.heap.size rfl _ _ rfl rfl rfl (S2.out).rr rfl ?_; intro w3 hw; have S3 := Lib.hid ((S2.out).store HD.out rfl hw); clear hw S2))
  exact bodyPost_ret (results_one' rfl (res_ins 4 w.heap.size _ rfl S3.out.rr)) rfl ⟨rfl, S3.out.dd, S3.out.uu⟩

set_option maxRecDepth 100000 in
set_option maxHeartbeats 2000000 in
theorem groups_255_1 (d g k : Nat) (v : Value) (L : List Int) (w : World) (hD : IsDec w d v L g k) (e : Int) (h : dcLast L k = .err e) :
    Calls Try.prog 55 #[.pointer (some ⟨d, 0, none⟩), .int .u8 255] w (DAns d v L g w (.err e) Ins.val) := by
  have HD := Lib.hid hD
  have S1 := Lib.hid (RS.start hD)
  have HP2 := Lib.hid (fun (w1 : World) (hd1 : IsDec w1 d v L g k) => by have := last_any d g k v L w1 hd1; rw [h] at this; exact this)
  clear hD h
  go_enter Try.func55, Try.ntmps55
  go_wp2_with (have _t := S1; clear _t; go_at_call 59; refine (HP2.out _ (S1.out).dd).mono ?_; rintro e w2 ⟨rfl, hu⟩)
  exact ⟨rfl, rfl, (S1.out).uu.also hu (by simp)⟩

set_option maxRecDepth 100000 in
set_option maxHeartbeats 2000000 in
theorem groups_255_2 (d g k : Nat) (v : Value) (L : List Int) (w : World) (hD : IsDec w d v L g k) (i : Ins) (k1 : Nat) (h : dcLast L k = .ok i k1) :
    Calls Try.prog 55 #[.pointer (some ⟨d, 0, none⟩), .int .u8 255] w (DAns d v L g w (.ok i k1) Ins.val) := by
  have HD := Lib.hid hD
  have S1 := Lib.hid (RS.start hD)
  have HP2 := Lib.hid (fun (w1 : World) (hd1 : IsDec w1 d v L g k) => by have := last_any d g k v L w1 hd1; rw [h] at this; exact this)
  clear hD h
  go_enter Try.func55, Try.ntmps55
  go_wp2_with (first | (have _t := S1; clear _t; go_at_call 59; refine (HP2.out _ (S1.out).dd).mono ?_; rintro e w2 ⟨rfl, hD2, hu⟩; have S2 := Lib.hid ((S1.out).step hD2 hu); clear hD2 hu S1) | (have _t := S2; clear _t; refine at_store 38 rfl ?_; refine wpList_store_ins i w.heap.size rfl _ _ rfl rfl rfl (S2.out).rr rfl ?_; intro w3 hw; have S3 := Lib.hid ((S2.out).store HD.out rfl hw); clear hw S2))
  exact bodyPost_ret (results_one' rfl (res_ins 4 w.heap.size _ rfl S3.out.rr)) rfl ⟨rfl, S3.out.dd, S3.out.uu⟩

set_option maxRecDepth 100000 in
set_option maxHeartbeats 2000000 in
theorem groups_rest (d g k : Nat) (v : Value) (L : List Int) (w : World) (hD : IsDec w d v L g k) (c : Int) (hc0 : 0 ≤ c) (hc1 : c ≤ 255) (h193 : c ≠ 193) (h209 : c ≠ 209) (h211 : c ≠ 211) (h205 : c ≠ 205) (h217 : c ≠ 217) (h220 : c ≠ 220) (h221 : c ≠ 221) (h243 : c ≠ 243) (h247 : c ≠ 247) (h255 : c ≠ 255) :
    Calls Try.prog 55 #[.pointer (some ⟨d, 0, none⟩), .int .u8 c] w (DAns d v L g w (.err 12) Ins.val) := by
  have HD := Lib.hid hD
  have S1 := Lib.hid (RS.start hD)
  have e193 : (c == 193) = false := by simpa using h193
  have e209 : (c == 209) = false := by simpa using h209
  have e211 : (c == 211) = false := by simpa using h211
  have e205 : (c == 205) = false := by simpa using h205
  have e217 : (c == 217) = false := by simpa using h217
  have e220 : (c == 220) = false := by simpa using h220
  have e221 : (c == 221) = false := by simpa using h221
  have e243 : (c == 243) = false := by simpa using h243
  have e247 : (c == 247) = false := by simpa using h247
  have e255 : (c == 255) = false := by simpa using h255
  clear hD h193 h209 h211 h205 h217 h220 h221 h243 h247 h255
  go_enter Try.func55, Try.ntmps55
  go_wp2_with fail
  exact ⟨rfl, rfl, (S1.out).uu⟩

theorem groups_any (d g k : Nat) (v : Value) (L : List Int) (c : Int) (w : World) (hD : IsDec w d v L g k) (hc0 : 0 ≤ c) (hc1 : c ≤ 255) :
    Calls Try.prog 55 #[.pointer (some ⟨d, 0, none⟩), .int .u8 c] w (DAns d v L g w (dcGroups L c k) Ins.val) := by
  by_cases h193 : c = 193
  · subst h193
    have e : dcGroups L 193 k = (dcShift L 193 k) := rfl
    rw [e]
    cases h : dcShift L 193 k with
    | err e => exact groups_193_1 d g k v L w hD e h
    | ok i k1 => exact groups_193_2 d g k v L w hD i k1 h
  by_cases h209 : c = 209
  · subst h209
    have e : dcGroups L 209 k = (dcShift L 209 k) := rfl
    rw [e]
    cases h : dcShift L 209 k with
    | err e => exact groups_209_1 d g k v L w hD e h
    | ok i k1 => exact groups_209_2 d g k v L w hD i k1 h
  by_cases h211 : c = 211
  · subst h211
    have e : dcGroups L 211 k = (dcShift L 211 k) := rfl
    rw [e]
    cases h : dcShift L 211 k with
    | err e => exact groups_211_1 d g k v L w hD e h
    | ok i k1 => exact groups_211_2 d g k v L w hD i k1 h
  by_cases h205 : c = 205
  · subst h205
    have e : dcGroups L 205 k = ((dcSmall L k).bind fun o k => if o.imm = 128 then .ok ⟨43, 0, o, Opd.none, false, 0⟩ k else .err 12) := rfl
    rw [e]
    cases h : dcSmall L k with
    | err e => exact groups_205_1 d g k v L w hD e h
    | ok o k1 =>
      rw [DR.bind_ok]
      by_cases hi : o.imm = 128
      · rw [if_pos hi]; exact groups_205_2 d g k v L w hD o k1 h hi
      · rw [if_neg hi]; exact groups_205_3 d g k v L w hD o k1 h hi
  by_cases h217 : c = 217
  · subst h217
    have e : dcGroups L 217 k = ((dcByte L k).bind fun x k => if x = 224 then .ok (bareI 51) k else if x = 225 then .ok (bareI 52) k else .err 12) := rfl
    rw [e]
    cases h : dcByte L k with
    | err e => exact groups_217_1 d g k v L w hD e h
    | ok x k1 =>
      rw [DR.bind_ok]
      by_cases hx : x = 224
      · rw [if_pos hx]; exact groups_217_2 d g k v L w hD x k1 h hx
      · rw [if_neg hx]
        by_cases hy : x = 225
        · rw [if_pos hy]; exact groups_217_3 d g k v L w hD x k1 h hy
        · rw [if_neg hy]; exact groups_217_4 d g k v L w hD x k1 h hx hy
  by_cases h220 : c = 220
  · subst h220
    have e : dcGroups L 220 k = (dcNumber L 220 k) := rfl
    rw [e]
    cases h : dcNumber L 220 k with
    | err e => exact groups_220_1 d g k v L w hD e h
    | ok i k1 => exact groups_220_2 d g k v L w hD i k1 h
  by_cases h221 : c = 221
  · subst h221
    have e : dcGroups L 221 k = (dcNumber L 221 k) := rfl
    rw [e]
    cases h : dcNumber L 221 k with
    | err e => exact groups_221_1 d g k v L w hD e h
    | ok i k1 => exact groups_221_2 d g k v L w hD i k1 h
  by_cases h243 : c = 243
  · subst h243
    have e : dcGroups L 243 k = ((dcByte L k).bind fun x k => if x = 165 then .ok ⟨41, 0, Opd.none, Opd.none, true, 0⟩ k else if x = 171 then .ok ⟨42, 0, Opd.none, Opd.none, true, 0⟩ k else .err 12) := rfl
    rw [e]
    cases h : dcByte L k with
    | err e => exact groups_243_1 d g k v L w hD e h
    | ok x k1 =>
      rw [DR.bind_ok]
      by_cases hx : x = 165
      · rw [if_pos hx]; exact groups_243_2 d g k v L w hD x k1 h hx
      · rw [if_neg hx]
        by_cases hy : x = 171
        · rw [if_pos hy]; exact groups_243_3 d g k v L w hD x k1 h hy
        · rw [if_neg hy]; exact groups_243_4 d g k v L w hD x k1 h hx hy
  by_cases h247 : c = 247
  · subst h247
    have e : dcGroups L 247 k = (dcUnary L k) := rfl
    rw [e]
    cases h : dcUnary L k with
    | err e => exact groups_247_1 d g k v L w hD e h
    | ok i k1 => exact groups_247_2 d g k v L w hD i k1 h
  by_cases h255 : c = 255
  · subst h255
    have e : dcGroups L 255 k = (dcLast L k) := rfl
    rw [e]
    cases h : dcLast L k with
    | err e => exact groups_255_1 d g k v L w hD e h
    | ok i k1 => exact groups_255_2 d g k v L w hD i k1 h
  have e : dcGroups L c k = .err 12 := by simp [dcGroups, h193, h209, h211, h205, h217, h220, h221, h243, h247, h255]
  rw [e]
  exact groups_rest d g k v L w hD c hc0 hc1 h193 h209 h211 h205 h217 h220 h221 h243 h247 h255

end Go.Proofs.Yteiplidhkelkbaa

/-
  Package decode: plain, by its contract.
-/
namespace Go.Proofs.Yteiplidhkelkbaa
open Go Go.RowKit
set_option linter.unusedVariables false
set_option linter.unusedSimpArgs false

set_option maxRecDepth 100000 in
set_option maxHeartbeats 2000000 in
theorem plain_144_1 (d g k : Nat) (v : Value) (L : List Int) (w : World) (hD : IsDec w d v L g k)  :
    Calls Try.prog 50 #[.pointer (some ⟨d, 0, none⟩), .int .u8 144] w (DAns d v L g w (.ok (bareI 44) k) Ins.val) := by
  have HD := Lib.hid hD
  have S1 := Lib.hid (RS.start hD)
  clear hD
  go_enter Try.func50, Try.ntmps50
  go_wp2_with (first | (have _t := S1; clear _t; go_at_call 54; refine (bare_any 44 _).mono ?_; rintro e w2 ⟨rfl, hu⟩; have S2 := Lib.hid ((S1.out).same hu); clear hu S1) | (have _t := S2; clear _t; refine at_store 38 rfl ?_; refine wpList_store_ins (bareI 44) w.heap.size rfl _ _ rfl rfl rfl (S2.out).rr rfl ?_; intro w3 hw; have S3 := Lib.hid ((S2.out).store HD.out rfl hw); clear hw S2))
  exact bodyPost_ret (results_one' rfl (res_ins 4 w.heap.size _ rfl S3.out.rr)) rfl ⟨rfl, S3.out.dd, S3.out.uu⟩

set_option maxRecDepth 100000 in
set_option maxHeartbeats 2000000 in
theorem plain_153_1 (d g k : Nat) (v : Value) (L : List Int) (w : World) (hD : IsDec w d v L g k)  :
    Calls Try.prog 50 #[.pointer (some ⟨d, 0, none⟩), .int .u8 153] w (DAns d v L g w (.ok (bareI 38) k) Ins.val) := by
  have HD := Lib.hid hD
  have S1 := Lib.hid (RS.start hD)
  clear hD
  go_enter Try.func50, Try.ntmps50
  go_wp2_with (first | (have _t := S1; clear _t; go_at_call 54; refine (bare_any 38 _).mono ?_; rintro e w2 ⟨rfl, hu⟩; have S2 := Lib.hid ((S1.out).same hu); clear hu S1) | (have _t := S2; clear _t; refine at_store 38 rfl ?_; refine wpList_store_ins (bareI 38) w.heap.size rfl _ _ rfl rfl rfl (S2.out).rr rfl ?_; intro w3 hw; have S3 := Lib.hid ((S2.out).store HD.out rfl hw); clear hw S2))
  exact bodyPost_ret (results_one' rfl (res_ins 4 w.heap.size _ rfl S3.out.rr)) rfl ⟨rfl, S3.out.dd, S3.out.uu⟩

set_option maxRecDepth 100000 in
set_option maxHeartbeats 2000000 in
theorem plain_165_1 (d g k : Nat) (v : Value) (L : List Int) (w : World) (hD : IsDec w d v L g k)  :
    Calls Try.prog 50 #[.pointer (some ⟨d, 0, none⟩), .int .u8 165] w (DAns d v L g w (.ok (bareI 41) k) Ins.val) := by
  have HD := Lib.hid hD
  have S1 := Lib.hid (RS.start hD)
  clear hD
  go_enter Try.func50, Try.ntmps50
  go_wp2_with (first | (have _t := S1; clear _t; go_at_call 54; refine (bare_any 41 _).mono ?_; rintro e w2 ⟨rfl, hu⟩; have S2 := Lib.hid ((S1.out).same hu); clear hu S1) | (have _t := S2; clear _t; refine at_store 38 rfl ?_; refine wpList_store_ins (bareI 41) w.heap.size rfl _ _ rfl rfl rfl (S2.out).rr rfl ?_; intro w3 hw; have S3 := Lib.hid ((S2.out).store HD.out rfl hw); clear hw S2))
  exact bodyPost_ret (results_one' rfl (res_ins 4 w.heap.size _ rfl S3.out.rr)) rfl ⟨rfl, S3.out.dd, S3.out.uu⟩

set_option maxRecDepth 100000 in
set_option maxHeartbeats 2000000 in
theorem plain_171_1 (d g k : Nat) (v : Value) (L : List Int) (w : World) (hD : IsDec w d v L g k)  :
    Calls Try.prog 50 #[.pointer (some ⟨d, 0, none⟩), .int .u8 171] w (DAns d v L g w (.ok (bareI 42) k) Ins.val) := by
  have HD := Lib.hid hD
  have S1 := Lib.hid (RS.start hD)
  clear hD
  go_enter Try.func50, Try.ntmps50
  go_wp2_with (first | (have _t := S1; clear _t; go_at_call 54; refine (bare_any 42 _).mono ?_; rintro e w2 ⟨rfl, hu⟩; have S2 := Lib.hid ((S1.out).same hu); clear hu S1) | (have _t := S2; clear _t; refine at_store 38 rfl ?_; refine wpList_store_ins (bareI 42) w.heap.size rfl _ _ rfl rfl rfl (S2.out).rr rfl ?_; intro w3 hw; have S3 := Lib.hid ((S2.out).store HD.out rfl hw); clear hw S2))
  exact bodyPost_ret (results_one' rfl (res_ins 4 w.heap.size _ rfl S3.out.rr)) rfl ⟨rfl, S3.out.dd, S3.out.uu⟩

set_option maxRecDepth 100000 in
set_option maxHeartbeats 2000000 in
theorem plain_195_1 (d g k : Nat) (v : Value) (L : List Int) (w : World) (hD : IsDec w d v L g k)  :
    Calls Try.prog 50 #[.pointer (some ⟨d, 0, none⟩), .int .u8 195] w (DAns d v L g w (.ok (bareI 31) k) Ins.val) := by
  have HD := Lib.hid hD
  have S1 := Lib.hid (RS.start hD)
  clear hD
  go_enter Try.func50, Try.ntmps50
  go_wp2_with (first | (have _t := S1; clear _t; go_at_call 54; refine (bare_any 31 _).mono ?_; rintro e w2 ⟨rfl, hu⟩; have S2 := Lib.hid ((S1.out).same hu); clear hu S1) | (have _t := S2; clear _t; refine at_store 38 rfl ?_; refine wpList_store_ins (bareI 31) w.heap.size rfl _ _ rfl rfl rfl (S2.out).rr rfl ?_; intro w3 hw; have S3 := Lib.hid ((S2.out).store HD.out rfl hw); clear hw S2))
  exact bodyPost_ret (results_one' rfl (res_ins 4 w.heap.size _ rfl S3.out.rr)) rfl ⟨rfl, S3.out.dd, S3.out.uu⟩

set_option maxRecDepth 100000 in
set_option maxHeartbeats 2000000 in
theorem plain_252_1 (d g k : Nat) (v : Value) (L : List Int) (w : World) (hD : IsDec w d v L g k)  :
    Calls Try.prog 50 #[.pointer (some ⟨d, 0, none⟩), .int .u8 252] w (DAns d v L g w (.ok (bareI 39) k) Ins.val) := by
  have HD := Lib.hid hD
  have S1 := Lib.hid (RS.start hD)
  clear hD
  go_enter Try.func50, Try.ntmps50
  go_wp2_with (first | (have _t := S1; clear _t; go_at_call 54; refine (bare_any 39 _).mono ?_; rintro e w2 ⟨rfl, hu⟩; have S2 := Lib.hid ((S1.out).same hu); clear hu S1) | (have _t := S2; clear _t; refine at_store 38 rfl ?_; refine wpList_store_ins (bareI 39) w.heap.size rfl _ _ rfl rfl rfl (S2.out).rr rfl ?_; intro w3 hw; have S3 := Lib.hid ((S2.out).store HD.out rfl hw); clear hw S2))
  exact bodyPost_ret (results_one' rfl (res_ins 4 w.heap.size _ rfl S3.out.rr)) rfl ⟨rfl, S3.out.dd, S3.out.uu⟩

set_option maxRecDepth 100000 in
set_option maxHeartbeats 2000000 in
theorem plain_253_1 (d g k : Nat) (v : Value) (L : List Int) (w : World) (hD : IsDec w d v L g k)  :
    Calls Try.prog 50 #[.pointer (some ⟨d, 0, none⟩), .int .u8 253] w (DAns d v L g w (.ok (bareI 40) k) Ins.val) := by
  have HD := Lib.hid hD
  have S1 := Lib.hid (RS.start hD)
  clear hD
  go_enter Try.func50, Try.ntmps50
  go_wp2_with (first | (have _t := S1; clear _t; go_at_call 54; refine (bare_any 40 _).mono ?_; rintro e w2 ⟨rfl, hu⟩; have S2 := Lib.hid ((S1.out).same hu); clear hu S1) | (have _t := S2; clear _t; refine at_store 38 rfl ?_; refine wpList_store_ins (bareI 40) w.heap.size rfl _ _ rfl rfl rfl (S2.out).rr rfl ?_; intro w3 hw; have S3 := Lib.hid ((S2.out).store HD.out rfl hw); clear hw S2))
  exact bodyPost_ret (results_one' rfl (res_ins 4 w.heap.size _ rfl S3.out.rr)) rfl ⟨rfl, S3.out.dd, S3.out.uu⟩

set_option maxRecDepth 100000 in
set_option maxHeartbeats 2000000 in
theorem plain_232_1 (d g k : Nat) (v : Value) (L : List Int) (w : World) (hD : IsDec w d v L g k) (e : Int) (h : dcImm32 L k = .err e) :
    Calls Try.prog 50 #[.pointer (some ⟨d, 0, none⟩), .int .u8 232] w (DAns d v L g w (.err e) Ins.val) := by
  have HD := Lib.hid hD
  have S1 := Lib.hid (RS.start hD)
  have HP2 := Lib.hid (fun (w1 : World) (hd1 : IsDec w1 d v L g k) => by have := imm32_any d g k v L w1 hd1; rw [h] at this; exact this)
  clear hD h
  go_enter Try.func50, Try.ntmps50
  go_wp2_with (have _t := S1; clear _t; go_at_call 38; refine (HP2.out _ (S1.out).dd).mono ?_; rintro e w2 ⟨rfl, hu⟩)
  exact ⟨rfl, rfl, (S1.out).uu.also hu (by simp)⟩

set_option maxRecDepth 100000 in
set_option maxHeartbeats 2000000 in
theorem plain_232_2 (d g k : Nat) (v : Value) (L : List Int) (w : World) (hD : IsDec w d v L g k) (o : Opd) (k1 : Nat) (h : dcImm32 L k = .ok o k1) :
    Calls Try.prog 50 #[.pointer (some ⟨d, 0, none⟩), .int .u8 232] w (DAns d v L g w (.ok ⟨30, 0, o, Opd.none, false, 0⟩ k1) Ins.val) := by
  have HD := Lib.hid hD
  have S1 := Lib.hid (RS.start hD)
  have HP2 := Lib.hid (fun (w1 : World) (hd1 : IsDec w1 d v L g k) => by have := imm32_any d g k v L w1 hd1; rw [h] at this; exact this)
  clear hD h
  go_enter Try.func50, Try.ntmps50
  go_wp2_with (first | (have _t := S1; clear _t; go_at_call 38; refine (HP2.out _ (S1.out).dd).mono ?_; rintro e w2 ⟨rfl, hD2, hu⟩; unfold Opd.val; have S2 := Lib.hid ((S1.out).step hD2 hu); clear hD2 hu S1) | (have _t := S2; clear _t; refine at_store 38 rfl ?_; refine wpList_store_ins ⟨30, 0, o, Opd.none, false, 0⟩ w.heap.size rfl _ _ rfl rfl rfl (S2.out).rr rfl ?_; intro w3 hw; have S3 := Lib.hid ((S2.out).store HD.out rfl hw); clear hw S2))
  exact bodyPost_ret (results_one' rfl (res_ins 4 w.heap.size _ rfl S3.out.rr)) rfl ⟨rfl, S3.out.dd, S3.out.uu⟩

set_option maxRecDepth 100000 in
set_option maxHeartbeats 2000000 in
theorem plain_233_1 (d g k : Nat) (v : Value) (L : List Int) (w : World) (hD : IsDec w d v L g k) (e : Int) (h : dcImm32 L k = .err e) :
    Calls Try.prog 50 #[.pointer (some ⟨d, 0, none⟩), .int .u8 233] w (DAns d v L g w (.err e) Ins.val) := by
  have HD := Lib.hid hD
  have S1 := Lib.hid (RS.start hD)
  have HP2 := Lib.hid (fun (w1 : World) (hd1 : IsDec w1 d v L g k) => by have := imm32_any d g k v L w1 hd1; rw [h] at this; exact this)
  clear hD h
  go_enter Try.func50, Try.ntmps50
  go_wp2_with (have _t := S1; clear _t; go_at_call 38; refine (HP2.out _ (S1.out).dd).mono ?_; rintro e w2 ⟨rfl, hu⟩)
  exact ⟨rfl, rfl, (S1.out).uu.also hu (by simp)⟩

set_option maxRecDepth 100000 in
set_option maxHeartbeats 2000000 in
theorem plain_233_2 (d g k : Nat) (v : Value) (L : List Int) (w : World) (hD : IsDec w d v L g k) (o : Opd) (k1 : Nat) (h : dcImm32 L k = .ok o k1) :
    Calls Try.prog 50 #[.pointer (some ⟨d, 0, none⟩), .int .u8 233] w (DAns d v L g w (.ok ⟨32, 0, o, Opd.none, false, 0⟩ k1) Ins.val) := by
  have HD := Lib.hid hD
  have S1 := Lib.hid (RS.start hD)
  have HP2 := Lib.hid (fun (w1 : World) (hd1 : IsDec w1 d v L g k) => by have := imm32_any d g k v L w1 hd1; rw [h] at this; exact this)
  clear hD h
  go_enter Try.func50, Try.ntmps50
  go_wp2_with (first | (have _t := S1; clear _t; go_at_call 38; refine (HP2.out _ (S1.out).dd).mono ?_; rintro e w2 ⟨rfl, hD2, hu⟩; unfold Opd.val; have S2 := Lib.hid ((S1.out).step hD2 hu); clear hD2 hu S1) | (have _t := S2; clear _t; refine at_store 38 rfl ?_; refine wpList_store_ins ⟨32, 0, o, Opd.none, false, 0⟩ w.heap.size rfl _ _ rfl rfl rfl (S2.out).rr rfl ?_; intro w3 hw; have S3 := Lib.hid ((S2.out).store HD.out rfl hw); clear hw S2))
  exact bodyPost_ret (results_one' rfl (res_ins 4 w.heap.size _ rfl S3.out.rr)) rfl ⟨rfl, S3.out.dd, S3.out.uu⟩

set_option maxRecDepth 100000 in
set_option maxHeartbeats 2000000 in
theorem plain_235_1 (d g k : Nat) (v : Value) (L : List Int) (w : World) (hD : IsDec w d v L g k) (e : Int) (h : dcImm8 L k = .err e) :
    Calls Try.prog 50 #[.pointer (some ⟨d, 0, none⟩), .int .u8 235] w (DAns d v L g w (.err e) Ins.val) := by
  have HD := Lib.hid hD
  have S1 := Lib.hid (RS.start hD)
  have HP2 := Lib.hid (fun (w1 : World) (hd1 : IsDec w1 d v L g k) => by have := imm8_any d g k v L w1 hd1; rw [h] at this; exact this)
  clear hD h
  go_enter Try.func50, Try.ntmps50
  go_wp2_with (have _t := S1; clear _t; go_at_call 36; refine (HP2.out _ (S1.out).dd).mono ?_; rintro e w2 ⟨rfl, hu⟩)
  exact ⟨rfl, rfl, (S1.out).uu.also hu (by simp)⟩

set_option maxRecDepth 100000 in
set_option maxHeartbeats 2000000 in
theorem plain_235_2 (d g k : Nat) (v : Value) (L : List Int) (w : World) (hD : IsDec w d v L g k) (o : Opd) (k1 : Nat) (h : dcImm8 L k = .ok o k1) :
    Calls Try.prog 50 #[.pointer (some ⟨d, 0, none⟩), .int .u8 235] w (DAns d v L g w (.ok ⟨32, 0, o, Opd.none, false, 0⟩ k1) Ins.val) := by
  have HD := Lib.hid hD
  have S1 := Lib.hid (RS.start hD)
  have HP2 := Lib.hid (fun (w1 : World) (hd1 : IsDec w1 d v L g k) => by have := imm8_any d g k v L w1 hd1; rw [h] at this; exact this)
  clear hD h
  go_enter Try.func50, Try.ntmps50
  go_wp2_with (first | (have _t := S1; clear _t; go_at_call 36; refine (HP2.out _ (S1.out).dd).mono ?_; rintro e w2 ⟨rfl, hD2, hu⟩; unfold Opd.val; have S2 := Lib.hid ((S1.out).step hD2 hu); clear hD2 hu S1) | (have _t := S2; clear _t; refine at_store 38 rfl ?_; refine wpList_store_ins ⟨32, 0, o, Opd.none, false, 0⟩ w.heap.size rfl _ _ rfl rfl rfl (S2.out).rr rfl ?_; intro w3 hw; have S3 := Lib.hid ((S2.out).store HD.out rfl hw); clear hw S2))
  exact bodyPost_ret (results_one' rfl (res_ins 4 w.heap.size _ rfl S3.out.rr)) rfl ⟨rfl, S3.out.dd, S3.out.uu⟩

set_option maxRecDepth 100000 in
set_option maxHeartbeats 2000000 in
theorem plain_rest1 (d g k : Nat) (v : Value) (L : List Int) (w : World) (hD : IsDec w d v L g k) (c : Int) (hc0 : 0 ≤ c) (hc1 : c ≤ 255) (h144 : c ≠ 144) (h153 : c ≠ 153) (h165 : c ≠ 165) (h171 : c ≠ 171) (h195 : c ≠ 195) (h252 : c ≠ 252) (h253 : c ≠ 253) (h232 : c ≠ 232) (h233 : c ≠ 233) (h235 : c ≠ 235) (e : Int) (h : dcGroups L c k = .err e) :
    Calls Try.prog 50 #[.pointer (some ⟨d, 0, none⟩), .int .u8 c] w (DAns d v L g w (.err e) Ins.val) := by
  have HD := Lib.hid hD
  have S1 := Lib.hid (RS.start hD)
  have e144 : (c == 144) = false := by simpa using h144
  have e153 : (c == 153) = false := by simpa using h153
  have e165 : (c == 165) = false := by simpa using h165
  have e171 : (c == 171) = false := by simpa using h171
  have e195 : (c == 195) = false := by simpa using h195
  have e252 : (c == 252) = false := by simpa using h252
  have e253 : (c == 253) = false := by simpa using h253
  have e232 : (c == 232) = false := by simpa using h232
  have e233 : (c == 233) = false := by simpa using h233
  have e235 : (c == 235) = false := by simpa using h235
  have HP2 := Lib.hid (fun (w1 : World) (hd1 : IsDec w1 d v L g k) => by have := groups_any d g k v L c w1 hd1 hc0 hc1; rw [h] at this; exact this)
  clear hD h144 h153 h165 h171 h195 h252 h253 h232 h233 h235 h
  go_enter Try.func50, Try.ntmps50
  go_wp2_with (have _t := S1; clear _t; go_at_call 55; refine (HP2.out _ (S1.out).dd).mono ?_; rintro e w2 ⟨rfl, hu⟩)
  exact ⟨rfl, rfl, (S1.out).uu.also hu (by simp)⟩

set_option maxRecDepth 100000 in
set_option maxHeartbeats 2000000 in
theorem plain_rest2 (d g k : Nat) (v : Value) (L : List Int) (w : World) (hD : IsDec w d v L g k) (c : Int) (hc0 : 0 ≤ c) (hc1 : c ≤ 255) (h144 : c ≠ 144) (h153 : c ≠ 153) (h165 : c ≠ 165) (h171 : c ≠ 171) (h195 : c ≠ 195) (h252 : c ≠ 252) (h253 : c ≠ 253) (h232 : c ≠ 232) (h233 : c ≠ 233) (h235 : c ≠ 235) (i : Ins) (k1 : Nat) (h : dcGroups L c k = .ok i k1) :
    Calls Try.prog 50 #[.pointer (some ⟨d, 0, none⟩), .int .u8 c] w (DAns d v L g w (.ok i k1) Ins.val) := by
  have HD := Lib.hid hD
  have S1 := Lib.hid (RS.start hD)
  have e144 : (c == 144) = false := by simpa using h144
  have e153 : (c == 153) = false := by simpa using h153
  have e165 : (c == 165) = false := by simpa using h165
  have e171 : (c == 171) = false := by simpa using h171
  have e195 : (c == 195) = false := by simpa using h195
  have e252 : (c == 252) = false := by simpa using h252
  have e253 : (c == 253) = false := by simpa using h253
  have e232 : (c == 232) = false := by simpa using h232
  have e233 : (c == 233) = false := by simpa using h233
  have e235 : (c == 235) = false := by simpa using h235
  have HP2 := Lib.hid (fun (w1 : World) (hd1 : IsDec w1 d v L g k) => by have := groups_any d g k v L c w1 hd1 hc0 hc1; rw [h] at this; exact this)
  clear hD h144 h153 h165 h171 h195 h252 h253 h232 h233 h235 h
  go_enter Try.func50, Try.ntmps50
  go_wp2_with (first | (have _t := S1; clear _t; go_at_call 55; refine (HP2.out _ (S1.out).dd).mono ?_; rintro e w2 ⟨rfl, hD2, hu⟩; have S2 := Lib.hid ((S1.out).step hD2 hu); clear hD2 hu S1) | (have _t := S2; clear _t; refine at_store 38 rfl ?_; refine wpList_store_ins i w.heap.size rfl _ _ rfl rfl rfl (S2.out).rr rfl ?_; intro w3 hw; have S3 := Lib.hid ((S2.out).store HD.out rfl hw); clear hw S2))
  exact bodyPost_ret (results_one' rfl (res_ins 4 w.heap.size _ rfl S3.out.rr)) rfl ⟨rfl, S3.out.dd, S3.out.uu⟩

theorem plain_any (d g k : Nat) (v : Value) (L : List Int) (c : Int) (w : World) (hD : IsDec w d v L g k) (hc0 : 0 ≤ c) (hc1 : c ≤ 255) :
    Calls Try.prog 50 #[.pointer (some ⟨d, 0, none⟩), .int .u8 c] w (DAns d v L g w (dcPlain L c k) Ins.val) := by
  by_cases h144 : c = 144
  · subst h144
    have e : dcPlain L 144 k = (.ok (bareI 44) k) := rfl
    rw [e]
    exact plain_144_1 d g k v L w hD
  by_cases h153 : c = 153
  · subst h153
    have e : dcPlain L 153 k = (.ok (bareI 38) k) := rfl
    rw [e]
    exact plain_153_1 d g k v L w hD
  by_cases h165 : c = 165
  · subst h165
    have e : dcPlain L 165 k = (.ok (bareI 41) k) := rfl
    rw [e]
    exact plain_165_1 d g k v L w hD
  by_cases h171 : c = 171
  · subst h171
    have e : dcPlain L 171 k = (.ok (bareI 42) k) := rfl
    rw [e]
    exact plain_171_1 d g k v L w hD
  by_cases h195 : c = 195
  · subst h195
    have e : dcPlain L 195 k = (.ok (bareI 31) k) := rfl
    rw [e]
    exact plain_195_1 d g k v L w hD
  by_cases h252 : c = 252
  · subst h252
    have e : dcPlain L 252 k = (.ok (bareI 39) k) := rfl
    rw [e]
    exact plain_252_1 d g k v L w hD
  by_cases h253 : c = 253
  · subst h253
    have e : dcPlain L 253 k = (.ok (bareI 40) k) := rfl
    rw [e]
    exact plain_253_1 d g k v L w hD
  by_cases h232 : c = 232
  · subst h232
    have e : dcPlain L 232 k = ((dcImm32 L k).bind fun o k => .ok ⟨30, 0, o, Opd.none, false, 0⟩ k) := rfl
    rw [e]
    cases h : dcImm32 L k with
    | err e => exact plain_232_1 d g k v L w hD e h
    | ok o k1 => exact plain_232_2 d g k v L w hD o k1 h
  by_cases h233 : c = 233
  · subst h233
    have e : dcPlain L 233 k = ((dcImm32 L k).bind fun o k => .ok ⟨32, 0, o, Opd.none, false, 0⟩ k) := rfl
    rw [e]
    cases h : dcImm32 L k with
    | err e => exact plain_233_1 d g k v L w hD e h
    | ok o k1 => exact plain_233_2 d g k v L w hD o k1 h
  by_cases h235 : c = 235
  · subst h235
    have e : dcPlain L 235 k = ((dcImm8 L k).bind fun o k => .ok ⟨32, 0, o, Opd.none, false, 0⟩ k) := rfl
    rw [e]
    cases h : dcImm8 L k with
    | err e => exact plain_235_1 d g k v L w hD e h
    | ok o k1 => exact plain_235_2 d g k v L w hD o k1 h
  have e : dcPlain L c k = dcGroups L c k := by simp [dcPlain, h144, h153, h165, h171, h195, h252, h253, h232, h233, h235]
  rw [e]
  cases h : dcGroups L c k with
  | err e => exact plain_rest1 d g k v L w hD c hc0 hc1 h144 h153 h165 h171 h195 h252 h253 h232 h233 h235 e h
  | ok i k1 => exact plain_rest2 d g k v L w hD c hc0 hc1 h144 h153 h165 h171 h195 h252 h253 h232 h233 h235 i k1 h

end Go.Proofs.Yteiplidhkelkbaa
