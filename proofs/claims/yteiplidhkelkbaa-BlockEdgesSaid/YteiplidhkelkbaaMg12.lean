/-
  Package decode: moves, by its contract.
-/
import Derived.Test.YteiplidhkelkbaaMg11
namespace Go.Proofs.Yteiplidhkelkbaa
open Go Go.RowKit
set_option linter.unusedVariables false
set_option linter.unusedSimpArgs false

set_option maxRecDepth 100000 in
set_option maxHeartbeats 2000000 in
theorem moves_104_1 (d g k : Nat) (v : Value) (L : List Int) (w : World) (hD : IsDec w d v L g k) (e : Int) (h : dcImm32 L k = .err e) :
    Calls Try.prog 39 #[.pointer (some ⟨d, 0, none⟩), .int .u8 104] w (DAns d v L g w (.err e) Ins.val) := by
  have HD := Lib.hid hD
  have S1 := Lib.hid (RS.start hD)
  have HP2 := Lib.hid (fun (w1 : World) (hd1 : IsDec w1 d v L g k) => by have := imm32_any d g k v L w1 hd1; rw [h] at this; exact this)
  clear hD h
  go_enter Try.func39, Try.ntmps39
  go_wp2_with (have _t := S1; clear _t; go_at_call 38; refine (HP2.out _ (S1.out).dd).mono ?_; rintro e w2 ⟨rfl, hu⟩)
  exact ⟨rfl, rfl, (S1.out).uu.also hu (by simp)⟩

set_option maxRecDepth 100000 in
set_option maxHeartbeats 2000000 in
theorem moves_104_2 (d g k : Nat) (v : Value) (L : List Int) (w : World) (hD : IsDec w d v L g k) (o : Opd) (k1 : Nat) (h : dcImm32 L k = .ok o k1) :
    Calls Try.prog 39 #[.pointer (some ⟨d, 0, none⟩), .int .u8 104] w (DAns d v L g w (.ok ⟨28, 0, o, Opd.none, false, 0⟩ k1) Ins.val) := by
  have HD := Lib.hid hD
  have S1 := Lib.hid (RS.start hD)
  have HP2 := Lib.hid (fun (w1 : World) (hd1 : IsDec w1 d v L g k) => by have := imm32_any d g k v L w1 hd1; rw [h] at this; exact this)
  clear hD h
  go_enter Try.func39, Try.ntmps39
  go_wp2_with (first | (have _t := S1; clear _t; go_at_call 38; refine (HP2.out _ (S1.out).dd).mono ?_; rintro e w2 ⟨rfl, hD2, hu⟩; unfold Opd.val; have S2 := Lib.hid ((S1.out).step hD2 hu); clear hD2 hu S1) | (have _t := S2; clear _t; refine at_store 38 rfl ?_; refine wpList_store_ins ⟨28, 0, o, Opd.none, false, 0⟩ w.heap.size rfl _ _ rfl rfl rfl (S2.out).rr rfl ?_; intro w3 hw; have S3 := Lib.hid ((S2.out).store HD.out rfl hw); clear hw S2))
  exact bodyPost_ret (results_one' rfl (res_ins 4 w.heap.size _ rfl S3.out.rr)) rfl ⟨rfl, S3.out.dd, S3.out.uu⟩

set_option maxRecDepth 100000 in
set_option maxHeartbeats 2000000 in
theorem moves_106_1 (d g k : Nat) (v : Value) (L : List Int) (w : World) (hD : IsDec w d v L g k) (e : Int) (h : dcImm8 L k = .err e) :
    Calls Try.prog 39 #[.pointer (some ⟨d, 0, none⟩), .int .u8 106] w (DAns d v L g w (.err e) Ins.val) := by
  have HD := Lib.hid hD
  have S1 := Lib.hid (RS.start hD)
  have HP2 := Lib.hid (fun (w1 : World) (hd1 : IsDec w1 d v L g k) => by have := imm8_any d g k v L w1 hd1; rw [h] at this; exact this)
  clear hD h
  go_enter Try.func39, Try.ntmps39
  go_wp2_with (have _t := S1; clear _t; go_at_call 36; refine (HP2.out _ (S1.out).dd).mono ?_; rintro e w2 ⟨rfl, hu⟩)
  exact ⟨rfl, rfl, (S1.out).uu.also hu (by simp)⟩

set_option maxRecDepth 100000 in
set_option maxHeartbeats 2000000 in
theorem moves_106_2 (d g k : Nat) (v : Value) (L : List Int) (w : World) (hD : IsDec w d v L g k) (o : Opd) (k1 : Nat) (h : dcImm8 L k = .ok o k1) :
    Calls Try.prog 39 #[.pointer (some ⟨d, 0, none⟩), .int .u8 106] w (DAns d v L g w (.ok ⟨28, 0, o, Opd.none, false, 0⟩ k1) Ins.val) := by
  have HD := Lib.hid hD
  have S1 := Lib.hid (RS.start hD)
  have HP2 := Lib.hid (fun (w1 : World) (hd1 : IsDec w1 d v L g k) => by have := imm8_any d g k v L w1 hd1; rw [h] at this; exact this)
  clear hD h
  go_enter Try.func39, Try.ntmps39
  go_wp2_with (first | (have _t := S1; clear _t; go_at_call 36; refine (HP2.out _ (S1.out).dd).mono ?_; rintro e w2 ⟨rfl, hD2, hu⟩; unfold Opd.val; have S2 := Lib.hid ((S1.out).step hD2 hu); clear hD2 hu S1) | (have _t := S2; clear _t; refine at_store 38 rfl ?_; refine wpList_store_ins ⟨28, 0, o, Opd.none, false, 0⟩ w.heap.size rfl _ _ rfl rfl rfl (S2.out).rr rfl ?_; intro w3 hw; have S3 := Lib.hid ((S2.out).store HD.out rfl hw); clear hw S2))
  exact bodyPost_ret (results_one' rfl (res_ins 4 w.heap.size _ rfl S3.out.rr)) rfl ⟨rfl, S3.out.dd, S3.out.uu⟩

set_option maxRecDepth 100000 in
set_option maxHeartbeats 2000000 in
theorem moves_133_1 (d g k : Nat) (v : Value) (L : List Int) (w : World) (hD : IsDec w d v L g k) (e : Int) (h : dcTwo L 11 false k = .err e) :
    Calls Try.prog 39 #[.pointer (some ⟨d, 0, none⟩), .int .u8 133] w (DAns d v L g w (.err e) Ins.val) := by
  have HD := Lib.hid hD
  have S1 := Lib.hid (RS.start hD)
  have HP2 := Lib.hid (fun (w1 : World) (hd1 : IsDec w1 d v L g k) => by have := two_any d g k v L 11 false w1 hd1; rw [h] at this; exact this)
  clear hD h
  go_enter Try.func39, Try.ntmps39
  go_wp2_with (have _t := S1; clear _t; go_at_call 42; refine (HP2.out _ (S1.out).dd).mono ?_; rintro e w2 ⟨rfl, hu⟩)
  exact ⟨rfl, rfl, (S1.out).uu.also hu (by simp)⟩

set_option maxRecDepth 100000 in
set_option maxHeartbeats 2000000 in
theorem moves_133_2 (d g k : Nat) (v : Value) (L : List Int) (w : World) (hD : IsDec w d v L g k) (i : Ins) (k1 : Nat) (h : dcTwo L 11 false k = .ok i k1) :
    Calls Try.prog 39 #[.pointer (some ⟨d, 0, none⟩), .int .u8 133] w (DAns d v L g w (.ok i k1) Ins.val) := by
  have HD := Lib.hid hD
  have S1 := Lib.hid (RS.start hD)
  have HP2 := Lib.hid (fun (w1 : World) (hd1 : IsDec w1 d v L g k) => by have := two_any d g k v L 11 false w1 hd1; rw [h] at this; exact this)
  clear hD h
  go_enter Try.func39, Try.ntmps39
  go_wp2_with (first | (have _t := S1; clear _t; go_at_call 42; refine (HP2.out _ (S1.out).dd).mono ?_; rintro e w2 ⟨rfl, hD2, hu⟩; have S2 := Lib.hid ((S1.out).step hD2 hu); clear hD2 hu S1) | (have _t := S2; clear _t; refine at_store 38 rfl ?_; refine wpList_store_ins i w.heap.size rfl _ _ rfl rfl rfl (S2.out).rr rfl ?_; intro w3 hw; have S3 := Lib.hid ((S2.out).store HD.out rfl hw); clear hw S2))
  exact bodyPost_ret (results_one' rfl (res_ins 4 w.heap.size _ rfl S3.out.rr)) rfl ⟨rfl, S3.out.dd, S3.out.uu⟩

set_option maxRecDepth 100000 in
set_option maxHeartbeats 2000000 in
theorem moves_135_1 (d g k : Nat) (v : Value) (L : List Int) (w : World) (hD : IsDec w d v L g k) (e : Int) (h : dcTwo L 27 false k = .err e) :
    Calls Try.prog 39 #[.pointer (some ⟨d, 0, none⟩), .int .u8 135] w (DAns d v L g w (.err e) Ins.val) := by
  have HD := Lib.hid hD
  have S1 := Lib.hid (RS.start hD)
  have HP2 := Lib.hid (fun (w1 : World) (hd1 : IsDec w1 d v L g k) => by have := two_any d g k v L 27 false w1 hd1; rw [h] at this; exact this)
  clear hD h
  go_enter Try.func39, Try.ntmps39
  go_wp2_with (have _t := S1; clear _t; go_at_call 42; refine (HP2.out _ (S1.out).dd).mono ?_; rintro e w2 ⟨rfl, hu⟩)
  exact ⟨rfl, rfl, (S1.out).uu.also hu (by simp)⟩

set_option maxRecDepth 100000 in
set_option maxHeartbeats 2000000 in
theorem moves_135_2 (d g k : Nat) (v : Value) (L : List Int) (w : World) (hD : IsDec w d v L g k) (i : Ins) (k1 : Nat) (h : dcTwo L 27 false k = .ok i k1) :
    Calls Try.prog 39 #[.pointer (some ⟨d, 0, none⟩), .int .u8 135] w (DAns d v L g w (.ok i k1) Ins.val) := by
  have HD := Lib.hid hD
  have S1 := Lib.hid (RS.start hD)
  have HP2 := Lib.hid (fun (w1 : World) (hd1 : IsDec w1 d v L g k) => by have := two_any d g k v L 27 false w1 hd1; rw [h] at this; exact this)
  clear hD h
  go_enter Try.func39, Try.ntmps39
  go_wp2_with (first | (have _t := S1; clear _t; go_at_call 42; refine (HP2.out _ (S1.out).dd).mono ?_; rintro e w2 ⟨rfl, hD2, hu⟩; have S2 := Lib.hid ((S1.out).step hD2 hu); clear hD2 hu S1) | (have _t := S2; clear _t; refine at_store 38 rfl ?_; refine wpList_store_ins i w.heap.size rfl _ _ rfl rfl rfl (S2.out).rr rfl ?_; intro w3 hw; have S3 := Lib.hid ((S2.out).store HD.out rfl hw); clear hw S2))
  exact bodyPost_ret (results_one' rfl (res_ins 4 w.heap.size _ rfl S3.out.rr)) rfl ⟨rfl, S3.out.dd, S3.out.uu⟩

set_option maxRecDepth 100000 in
set_option maxHeartbeats 2000000 in
theorem moves_136_1 (d g k : Nat) (v : Value) (L : List Int) (w : World) (hD : IsDec w d v L g k) (e : Int) (h : dcTwo L 2 false k = .err e) :
    Calls Try.prog 39 #[.pointer (some ⟨d, 0, none⟩), .int .u8 136] w (DAns d v L g w (.err e) Ins.val) := by
  have HD := Lib.hid hD
  have S1 := Lib.hid (RS.start hD)
  have HP2 := Lib.hid (fun (w1 : World) (hd1 : IsDec w1 d v L g k) => by have := two_any d g k v L 2 false w1 hd1; rw [h] at this; exact this)
  clear hD h
  go_enter Try.func39, Try.ntmps39
  go_wp2_with (have _t := S1; clear _t; go_at_call 42; refine (HP2.out _ (S1.out).dd).mono ?_; rintro e w2 ⟨rfl, hu⟩)
  exact ⟨rfl, rfl, (S1.out).uu.also hu (by simp)⟩

set_option maxRecDepth 100000 in
set_option maxHeartbeats 2000000 in
theorem moves_136_2 (d g k : Nat) (v : Value) (L : List Int) (w : World) (hD : IsDec w d v L g k) (i : Ins) (k1 : Nat) (h : dcTwo L 2 false k = .ok i k1) :
    Calls Try.prog 39 #[.pointer (some ⟨d, 0, none⟩), .int .u8 136] w (DAns d v L g w (.ok i k1) Ins.val) := by
  have HD := Lib.hid hD
  have S1 := Lib.hid (RS.start hD)
  have HP2 := Lib.hid (fun (w1 : World) (hd1 : IsDec w1 d v L g k) => by have := two_any d g k v L 2 false w1 hd1; rw [h] at this; exact this)
  clear hD h
  go_enter Try.func39, Try.ntmps39
  go_wp2_with (first | (have _t := S1; clear _t; go_at_call 42; refine (HP2.out _ (S1.out).dd).mono ?_; rintro e w2 ⟨rfl, hD2, hu⟩; have S2 := Lib.hid ((S1.out).step hD2 hu); clear hD2 hu S1) | (have _t := S2; clear _t; refine at_store 38 rfl ?_; refine wpList_store_ins i w.heap.size rfl _ _ rfl rfl rfl (S2.out).rr rfl ?_; intro w3 hw; have S3 := Lib.hid ((S2.out).store HD.out rfl hw); clear hw S2))
  exact bodyPost_ret (results_one' rfl (res_ins 4 w.heap.size _ rfl S3.out.rr)) rfl ⟨rfl, S3.out.dd, S3.out.uu⟩

set_option maxRecDepth 100000 in
set_option maxHeartbeats 2000000 in
theorem moves_138_1 (d g k : Nat) (v : Value) (L : List Int) (w : World) (hD : IsDec w d v L g k) (e : Int) (h : dcTwo L 2 true k = .err e) :
    Calls Try.prog 39 #[.pointer (some ⟨d, 0, none⟩), .int .u8 138] w (DAns d v L g w (.err e) Ins.val) := by
  have HD := Lib.hid hD
  have S1 := Lib.hid (RS.start hD)
  have HP2 := Lib.hid (fun (w1 : World) (hd1 : IsDec w1 d v L g k) => by have := two_any d g k v L 2 true w1 hd1; rw [h] at this; exact this)
  clear hD h
  go_enter Try.func39, Try.ntmps39
  go_wp2_with (have _t := S1; clear _t; go_at_call 42; refine (HP2.out _ (S1.out).dd).mono ?_; rintro e w2 ⟨rfl, hu⟩)
  exact ⟨rfl, rfl, (S1.out).uu.also hu (by simp)⟩

set_option maxRecDepth 100000 in
set_option maxHeartbeats 2000000 in
theorem moves_138_2 (d g k : Nat) (v : Value) (L : List Int) (w : World) (hD : IsDec w d v L g k) (i : Ins) (k1 : Nat) (h : dcTwo L 2 true k = .ok i k1) :
    Calls Try.prog 39 #[.pointer (some ⟨d, 0, none⟩), .int .u8 138] w (DAns d v L g w (.ok i k1) Ins.val) := by
  have HD := Lib.hid hD
  have S1 := Lib.hid (RS.start hD)
  have HP2 := Lib.hid (fun (w1 : World) (hd1 : IsDec w1 d v L g k) => by have := two_any d g k v L 2 true w1 hd1; rw [h] at this; exact this)
  clear hD h
  go_enter Try.func39, Try.ntmps39
  go_wp2_with (first | (have _t := S1; clear _t; go_at_call 42; refine (HP2.out _ (S1.out).dd).mono ?_; rintro e w2 ⟨rfl, hD2, hu⟩; have S2 := Lib.hid ((S1.out).step hD2 hu); clear hD2 hu S1) | (have _t := S2; clear _t; refine at_store 38 rfl ?_; refine wpList_store_ins i w.heap.size rfl _ _ rfl rfl rfl (S2.out).rr rfl ?_; intro w3 hw; have S3 := Lib.hid ((S2.out).store HD.out rfl hw); clear hw S2))
  exact bodyPost_ret (results_one' rfl (res_ins 4 w.heap.size _ rfl S3.out.rr)) rfl ⟨rfl, S3.out.dd, S3.out.uu⟩

set_option maxRecDepth 100000 in
set_option maxHeartbeats 2000000 in
theorem moves_137_1 (d g k : Nat) (v : Value) (L : List Int) (w : World) (hD : IsDec w d v L g k) (e : Int) (h : dcTwo L 1 false k = .err e) :
    Calls Try.prog 39 #[.pointer (some ⟨d, 0, none⟩), .int .u8 137] w (DAns d v L g w (.err e) Ins.val) := by
  have HD := Lib.hid hD
  have S1 := Lib.hid (RS.start hD)
  have HP2 := Lib.hid (fun (w1 : World) (hd1 : IsDec w1 d v L g k) => by have := two_any d g k v L 1 false w1 hd1; rw [h] at this; exact this)
  clear hD h
  go_enter Try.func39, Try.ntmps39
  go_wp2_with (have _t := S1; clear _t; go_at_call 42; refine (HP2.out _ (S1.out).dd).mono ?_; rintro e w2 ⟨rfl, hu⟩)
  exact ⟨rfl, rfl, (S1.out).uu.also hu (by simp)⟩

set_option maxRecDepth 100000 in
set_option maxHeartbeats 2000000 in
theorem moves_137_2 (d g k : Nat) (v : Value) (L : List Int) (w : World) (hD : IsDec w d v L g k) (i : Ins) (k1 : Nat) (h : dcTwo L 1 false k = .ok i k1) :
    Calls Try.prog 39 #[.pointer (some ⟨d, 0, none⟩), .int .u8 137] w (DAns d v L g w (.ok i k1) Ins.val) := by
  have HD := Lib.hid hD
  have S1 := Lib.hid (RS.start hD)
  have HP2 := Lib.hid (fun (w1 : World) (hd1 : IsDec w1 d v L g k) => by have := two_any d g k v L 1 false w1 hd1; rw [h] at this; exact this)
  clear hD h
  go_enter Try.func39, Try.ntmps39
  go_wp2_with (first | (have _t := S1; clear _t; go_at_call 42; refine (HP2.out _ (S1.out).dd).mono ?_; rintro e w2 ⟨rfl, hD2, hu⟩; have S2 := Lib.hid ((S1.out).step hD2 hu); clear hD2 hu S1) | (have _t := S2; clear _t; refine at_store 38 rfl ?_; refine wpList_store_ins i w.heap.size rfl _ _ rfl rfl rfl (S2.out).rr rfl ?_; intro w3 hw; have S3 := Lib.hid ((S2.out).store HD.out rfl hw); clear hw S2))
  exact bodyPost_ret (results_one' rfl (res_ins 4 w.heap.size _ rfl S3.out.rr)) rfl ⟨rfl, S3.out.dd, S3.out.uu⟩

set_option maxRecDepth 100000 in
set_option maxHeartbeats 2000000 in
theorem moves_139_1 (d g k : Nat) (v : Value) (L : List Int) (w : World) (hD : IsDec w d v L g k) (e : Int) (h : dcTwo L 1 true k = .err e) :
    Calls Try.prog 39 #[.pointer (some ⟨d, 0, none⟩), .int .u8 139] w (DAns d v L g w (.err e) Ins.val) := by
  have HD := Lib.hid hD
  have S1 := Lib.hid (RS.start hD)
  have HP2 := Lib.hid (fun (w1 : World) (hd1 : IsDec w1 d v L g k) => by have := two_any d g k v L 1 true w1 hd1; rw [h] at this; exact this)
  clear hD h
  go_enter Try.func39, Try.ntmps39
  go_wp2_with (have _t := S1; clear _t; go_at_call 42; refine (HP2.out _ (S1.out).dd).mono ?_; rintro e w2 ⟨rfl, hu⟩)
  exact ⟨rfl, rfl, (S1.out).uu.also hu (by simp)⟩

set_option maxRecDepth 100000 in
set_option maxHeartbeats 2000000 in
theorem moves_139_2 (d g k : Nat) (v : Value) (L : List Int) (w : World) (hD : IsDec w d v L g k) (i : Ins) (k1 : Nat) (h : dcTwo L 1 true k = .ok i k1) :
    Calls Try.prog 39 #[.pointer (some ⟨d, 0, none⟩), .int .u8 139] w (DAns d v L g w (.ok i k1) Ins.val) := by
  have HD := Lib.hid hD
  have S1 := Lib.hid (RS.start hD)
  have HP2 := Lib.hid (fun (w1 : World) (hd1 : IsDec w1 d v L g k) => by have := two_any d g k v L 1 true w1 hd1; rw [h] at this; exact this)
  clear hD h
  go_enter Try.func39, Try.ntmps39
  go_wp2_with (first | (have _t := S1; clear _t; go_at_call 42; refine (HP2.out _ (S1.out).dd).mono ?_; rintro e w2 ⟨rfl, hD2, hu⟩; have S2 := Lib.hid ((S1.out).step hD2 hu); clear hD2 hu S1) | (have _t := S2; clear _t; refine at_store 38 rfl ?_; refine wpList_store_ins i w.heap.size rfl _ _ rfl rfl rfl (S2.out).rr rfl ?_; intro w3 hw; have S3 := Lib.hid ((S2.out).store HD.out rfl hw); clear hw S2))
  exact bodyPost_ret (results_one' rfl (res_ins 4 w.heap.size _ rfl S3.out.rr)) rfl ⟨rfl, S3.out.dd, S3.out.uu⟩

set_option maxRecDepth 100000 in
set_option maxHeartbeats 2000000 in
theorem moves_141_1 (d g k : Nat) (v : Value) (L : List Int) (w : World) (hD : IsDec w d v L g k) (e : Int) (h : dcLea L k = .err e) :
    Calls Try.prog 39 #[.pointer (some ⟨d, 0, none⟩), .int .u8 141] w (DAns d v L g w (.err e) Ins.val) := by
  have HD := Lib.hid hD
  have S1 := Lib.hid (RS.start hD)
  have HP2 := Lib.hid (fun (w1 : World) (hd1 : IsDec w1 d v L g k) => by have := lea_any d g k v L w1 hd1; rw [h] at this; exact this)
  clear hD h
  go_enter Try.func39, Try.ntmps39
  go_wp2_with (have _t := S1; clear _t; go_at_call 48; refine (HP2.out _ (S1.out).dd).mono ?_; rintro e w2 ⟨rfl, hu⟩)
  exact ⟨rfl, rfl, (S1.out).uu.also hu (by simp)⟩

set_option maxRecDepth 100000 in
set_option maxHeartbeats 2000000 in
theorem moves_141_2 (d g k : Nat) (v : Value) (L : List Int) (w : World) (hD : IsDec w d v L g k) (i : Ins) (k1 : Nat) (h : dcLea L k = .ok i k1) :
    Calls Try.prog 39 #[.pointer (some ⟨d, 0, none⟩), .int .u8 141] w (DAns d v L g w (.ok i k1) Ins.val) := by
  have HD := Lib.hid hD
  have S1 := Lib.hid (RS.start hD)
  have HP2 := Lib.hid (fun (w1 : World) (hd1 : IsDec w1 d v L g k) => by have := lea_any d g k v L w1 hd1; rw [h] at this; exact this)
  clear hD h
  go_enter Try.func39, Try.ntmps39
  go_wp2_with (first | (have _t := S1; clear _t; go_at_call 48; refine (HP2.out _ (S1.out).dd).mono ?_; rintro e w2 ⟨rfl, hD2, hu⟩; have S2 := Lib.hid ((S1.out).step hD2 hu); clear hD2 hu S1) | (have _t := S2; clear _t; refine at_store 38 rfl ?_; refine wpList_store_ins i w.heap.size rfl _ _ rfl rfl rfl (S2.out).rr rfl ?_; intro w3 hw; have S3 := Lib.hid ((S2.out).store HD.out rfl hw); clear hw S2))
  exact bodyPost_ret (results_one' rfl (res_ins 4 w.heap.size _ rfl S3.out.rr)) rfl ⟨rfl, S3.out.dd, S3.out.uu⟩

set_option maxRecDepth 100000 in
set_option maxHeartbeats 2000000 in
theorem moves_169_1 (d g k : Nat) (v : Value) (L : List Int) (w : World) (hD : IsDec w d v L g k) (e : Int) (h : dcImm32 L k = .err e) :
    Calls Try.prog 39 #[.pointer (some ⟨d, 0, none⟩), .int .u8 169] w (DAns d v L g w (.err e) Ins.val) := by
  have HD := Lib.hid hD
  have S1 := Lib.hid (RS.start hD)
  have HP3 := Lib.hid (fun (w1 : World) (hd1 : IsDec w1 d v L g k) => by have := imm32_any d g k v L w1 hd1; rw [h] at this; exact this)
  clear hD h
  go_enter Try.func39, Try.ntmps39
  go_wp2_with (first | (have _t := S1; clear _t; go_at_call 35; refine (dreg_any 0 _).mono ?_; rintro e w2 ⟨rfl, hu⟩; unfold Opd.val regO; have S2 := Lib.hid ((S1.out).same hu); clear hu S1) | (have _t := S2; clear _t; go_at_call 38; refine (HP3.out _ (S2.out).dd).mono ?_; rintro e w3 ⟨rfl, hu⟩))
  exact ⟨rfl, rfl, (S2.out).uu.also hu (by simp)⟩

set_option maxRecDepth 100000 in
set_option maxHeartbeats 2000000 in
theorem moves_169_2 (d g k : Nat) (v : Value) (L : List Int) (w : World) (hD : IsDec w d v L g k) (o : Opd) (k1 : Nat) (h : dcImm32 L k = .ok o k1) :
    Calls Try.prog 39 #[.pointer (some ⟨d, 0, none⟩), .int .u8 169] w (DAns d v L g w (.ok ⟨11, 0, regO 0, o, false, 0⟩ k1) Ins.val) := by
  have HD := Lib.hid hD
  have S1 := Lib.hid (RS.start hD)
  have HP3 := Lib.hid (fun (w1 : World) (hd1 : IsDec w1 d v L g k) => by have := imm32_any d g k v L w1 hd1; rw [h] at this; exact this)
  clear hD h
  go_enter Try.func39, Try.ntmps39
  go_wp2_with (first | (have _t := S1; clear _t; go_at_call 35; refine (dreg_any 0 _).mono ?_; rintro e w2 ⟨rfl, hu⟩; unfold Opd.val regO; have S2 := Lib.hid ((S1.out).same hu); clear hu S1) | (have _t := S2; clear _t; go_at_call 38; refine (HP3.out _ (S2.out).dd).mono ?_; rintro e w3 ⟨rfl, hD3, hu⟩; unfold Opd.val; have S3 := Lib.hid ((S2.out).step hD3 hu); clear hD3 hu S2) | (have _t := S3; clear _t; refine at_store 38 rfl ?_; refine wpList_store_ins ⟨11, 0, regO 0, o, false, 0⟩ w.heap.size rfl _ _ rfl rfl rfl (S3.out).rr rfl ?_; intro w4 hw; have S4 := Lib.hid ((S3.out).store HD.out rfl hw); clear hw S3))
  exact bodyPost_ret (results_one' rfl (res_ins 4 w.heap.size _ rfl S4.out.rr)) rfl ⟨rfl, S4.out.dd, S4.out.uu⟩

set_option maxRecDepth 100000 in
set_option maxHeartbeats 2000000 in
theorem moves_198_1 (d g k : Nat) (v : Value) (L : List Int) (w : World) (hD : IsDec w d v L g k) (e : Int) (h : dcLays L 198 k = .err e) :
    Calls Try.prog 39 #[.pointer (some ⟨d, 0, none⟩), .int .u8 198] w (DAns d v L g w (.err e) Ins.val) := by
  have HD := Lib.hid hD
  have S1 := Lib.hid (RS.start hD)
  have HP2 := Lib.hid (fun (w1 : World) (hd1 : IsDec w1 d v L g k) => by have := lays_any d g k v L 198 w1 hd1; rw [h] at this; exact this)
  clear hD h
  go_enter Try.func39, Try.ntmps39
  go_wp2_with (have _t := S1; clear _t; go_at_call 49; refine (HP2.out _ (S1.out).dd).mono ?_; rintro e w2 ⟨rfl, hu⟩)
  exact ⟨rfl, rfl, (S1.out).uu.also hu (by simp)⟩

set_option maxRecDepth 100000 in
set_option maxHeartbeats 2000000 in
theorem moves_198_2 (d g k : Nat) (v : Value) (L : List Int) (w : World) (hD : IsDec w d v L g k) (i : Ins) (k1 : Nat) (h : dcLays L 198 k = .ok i k1) :
    Calls Try.prog 39 #[.pointer (some ⟨d, 0, none⟩), .int .u8 198] w (DAns d v L g w (.ok i k1) Ins.val) := by
  have HD := Lib.hid hD
  have S1 := Lib.hid (RS.start hD)
  have HP2 := Lib.hid (fun (w1 : World) (hd1 : IsDec w1 d v L g k) => by have := lays_any d g k v L 198 w1 hd1; rw [h] at this; exact this)
  clear hD h
  go_enter Try.func39, Try.ntmps39
  go_wp2_with (first | (have _t := S1; clear _t; go_at_call 49; refine (HP2.out _ (S1.out).dd).mono ?_; rintro e w2 ⟨rfl, hD2, hu⟩; have S2 := Lib.hid ((S1.out).step hD2 hu); clear hD2 hu S1) | (have _t := S2; clear _t; refine at_store 38 rfl ?_; refine wpList_store_ins i w.heap.size rfl _ _ rfl rfl rfl (S2.out).rr rfl ?_; intro w3 hw; have S3 := Lib.hid ((S2.out).store HD.out rfl hw); clear hw S2))
  exact bodyPost_ret (results_one' rfl (res_ins 4 w.heap.size _ rfl S3.out.rr)) rfl ⟨rfl, S3.out.dd, S3.out.uu⟩

set_option maxRecDepth 100000 in
set_option maxHeartbeats 2000000 in
theorem moves_199_1 (d g k : Nat) (v : Value) (L : List Int) (w : World) (hD : IsDec w d v L g k) (e : Int) (h : dcLays L 199 k = .err e) :
    Calls Try.prog 39 #[.pointer (some ⟨d, 0, none⟩), .int .u8 199] w (DAns d v L g w (.err e) Ins.val) := by
  have HD := Lib.hid hD
  have S1 := Lib.hid (RS.start hD)
  have HP2 := Lib.hid (fun (w1 : World) (hd1 : IsDec w1 d v L g k) => by have := lays_any d g k v L 199 w1 hd1; rw [h] at this; exact this)
  clear hD h
  go_enter Try.func39, Try.ntmps39
  go_wp2_with (have _t := S1; clear _t; go_at_call 49; refine (HP2.out _ (S1.out).dd).mono ?_; rintro e w2 ⟨rfl, hu⟩)
  exact ⟨rfl, rfl, (S1.out).uu.also hu (by simp)⟩

set_option maxRecDepth 100000 in
set_option maxHeartbeats 2000000 in
theorem moves_199_2 (d g k : Nat) (v : Value) (L : List Int) (w : World) (hD : IsDec w d v L g k) (i : Ins) (k1 : Nat) (h : dcLays L 199 k = .ok i k1) :
    Calls Try.prog 39 #[.pointer (some ⟨d, 0, none⟩), .int .u8 199] w (DAns d v L g w (.ok i k1) Ins.val) := by
  have HD := Lib.hid hD
  have S1 := Lib.hid (RS.start hD)
  have HP2 := Lib.hid (fun (w1 : World) (hd1 : IsDec w1 d v L g k) => by have := lays_any d g k v L 199 w1 hd1; rw [h] at this; exact this)
  clear hD h
  go_enter Try.func39, Try.ntmps39
  go_wp2_with (first | (have _t := S1; clear _t; go_at_call 49; refine (HP2.out _ (S1.out).dd).mono ?_; rintro e w2 ⟨rfl, hD2, hu⟩; have S2 := Lib.hid ((S1.out).step hD2 hu); clear hD2 hu S1) | (have _t := S2; clear _t; refine at_store 38 rfl ?_; refine wpList_store_ins i w.heap.size rfl _ _ rfl rfl rfl (S2.out).rr rfl ?_; intro w3 hw; have S3 := Lib.hid ((S2.out).store HD.out rfl hw); clear hw S2))
  exact bodyPost_ret (results_one' rfl (res_ins 4 w.heap.size _ rfl S3.out.rr)) rfl ⟨rfl, S3.out.dd, S3.out.uu⟩

set_option maxRecDepth 100000 in
set_option maxHeartbeats 2000000 in
theorem moves_rest1 (d g k : Nat) (v : Value) (L : List Int) (w : World) (hD : IsDec w d v L g k) (c : Int) (hc0 : 0 ≤ c) (hc1 : c ≤ 255) (h104 : c ≠ 104) (h106 : c ≠ 106) (h129 : c ≠ 129) (h131 : c ≠ 131) (h133 : c ≠ 133) (h135 : c ≠ 135) (h136 : c ≠ 136) (h138 : c ≠ 138) (h137 : c ≠ 137) (h139 : c ≠ 139) (h141 : c ≠ 141) (h169 : c ≠ 169) (h198 : c ≠ 198) (h199 : c ≠ 199) (e : Int) (h : dcPlain L c k = .err e) :
    Calls Try.prog 39 #[.pointer (some ⟨d, 0, none⟩), .int .u8 c] w (DAns d v L g w (.err e) Ins.val) := by
  have HD := Lib.hid hD
  have S1 := Lib.hid (RS.start hD)
  have e104 : (c == 104) = false := by simpa using h104
  have e106 : (c == 106) = false := by simpa using h106
  have e129 : (c == 129) = false := by simpa using h129
  have e131 : (c == 131) = false := by simpa using h131
  have e133 : (c == 133) = false := by simpa using h133
  have e135 : (c == 135) = false := by simpa using h135
  have e136 : (c == 136) = false := by simpa using h136
  have e138 : (c == 138) = false := by simpa using h138
  have e137 : (c == 137) = false := by simpa using h137
  have e139 : (c == 139) = false := by simpa using h139
  have e141 : (c == 141) = false := by simpa using h141
  have e169 : (c == 169) = false := by simpa using h169
  have e198 : (c == 198) = false := by simpa using h198
  have e199 : (c == 199) = false := by simpa using h199
  have HP2 := Lib.hid (fun (w1 : World) (hd1 : IsDec w1 d v L g k) => by have := plain_any d g k v L c w1 hd1 hc0 hc1; rw [h] at this; exact this)
  clear hD h104 h106 h129 h131 h133 h135 h136 h138 h137 h139 h141 h169 h198 h199 h
  go_enter Try.func39, Try.ntmps39
  go_wp2_with (have _t := S1; clear _t; go_at_call 50; refine (HP2.out _ (S1.out).dd).mono ?_; rintro e w2 ⟨rfl, hu⟩)
  exact ⟨rfl, rfl, (S1.out).uu.also hu (by simp)⟩

set_option maxRecDepth 100000 in
set_option maxHeartbeats 2000000 in
theorem moves_rest2 (d g k : Nat) (v : Value) (L : List Int) (w : World) (hD : IsDec w d v L g k) (c : Int) (hc0 : 0 ≤ c) (hc1 : c ≤ 255) (h104 : c ≠ 104) (h106 : c ≠ 106) (h129 : c ≠ 129) (h131 : c ≠ 131) (h133 : c ≠ 133) (h135 : c ≠ 135) (h136 : c ≠ 136) (h138 : c ≠ 138) (h137 : c ≠ 137) (h139 : c ≠ 139) (h141 : c ≠ 141) (h169 : c ≠ 169) (h198 : c ≠ 198) (h199 : c ≠ 199) (i : Ins) (k1 : Nat) (h : dcPlain L c k = .ok i k1) :
    Calls Try.prog 39 #[.pointer (some ⟨d, 0, none⟩), .int .u8 c] w (DAns d v L g w (.ok i k1) Ins.val) := by
  have HD := Lib.hid hD
  have S1 := Lib.hid (RS.start hD)
  have e104 : (c == 104) = false := by simpa using h104
  have e106 : (c == 106) = false := by simpa using h106
  have e129 : (c == 129) = false := by simpa using h129
  have e131 : (c == 131) = false := by simpa using h131
  have e133 : (c == 133) = false := by simpa using h133
  have e135 : (c == 135) = false := by simpa using h135
  have e136 : (c == 136) = false := by simpa using h136
  have e138 : (c == 138) = false := by simpa using h138
  have e137 : (c == 137) = false := by simpa using h137
  have e139 : (c == 139) = false := by simpa using h139
  have e141 : (c == 141) = false := by simpa using h141
  have e169 : (c == 169) = false := by simpa using h169
  have e198 : (c == 198) = false := by simpa using h198
  have e199 : (c == 199) = false := by simpa using h199
  have HP2 := Lib.hid (fun (w1 : World) (hd1 : IsDec w1 d v L g k) => by have := plain_any d g k v L c w1 hd1 hc0 hc1; rw [h] at this; exact this)
  clear hD h104 h106 h129 h131 h133 h135 h136 h138 h137 h139 h141 h169 h198 h199 h
  go_enter Try.func39, Try.ntmps39
  go_wp2_with (first | (have _t := S1; clear _t; go_at_call 50; refine (HP2.out _ (S1.out).dd).mono ?_; rintro e w2 ⟨rfl, hD2, hu⟩; have S2 := Lib.hid ((S1.out).step hD2 hu); clear hD2 hu S1) | (have _t := S2; clear _t; refine at_store 38 rfl ?_; refine wpList_store_ins i w.heap.size rfl _ _ rfl rfl rfl (S2.out).rr rfl ?_; intro w3 hw; have S3 := Lib.hid ((S2.out).store HD.out rfl hw); clear hw S2))
  exact bodyPost_ret (results_one' rfl (res_ins 4 w.heap.size _ rfl S3.out.rr)) rfl ⟨rfl, S3.out.dd, S3.out.uu⟩

theorem moves_any (d g k : Nat) (v : Value) (L : List Int) (c : Int) (w : World) (hD : IsDec w d v L g k) (hc0 : 0 ≤ c) (hc1 : c ≤ 255) :
    Calls Try.prog 39 #[.pointer (some ⟨d, 0, none⟩), .int .u8 c] w (DAns d v L g w (dcMoves L c k) Ins.val) := by
  by_cases h104 : c = 104
  · subst h104
    have e : dcMoves L 104 k = ((dcImm32 L k).bind fun o k => .ok ⟨28, 0, o, Opd.none, false, 0⟩ k) := rfl
    rw [e]
    cases h : dcImm32 L k with
    | err e => exact moves_104_1 d g k v L w hD e h
    | ok o k1 => exact moves_104_2 d g k v L w hD o k1 h
  by_cases h106 : c = 106
  · subst h106
    have e : dcMoves L 106 k = ((dcImm8 L k).bind fun o k => .ok ⟨28, 0, o, Opd.none, false, 0⟩ k) := rfl
    rw [e]
    cases h : dcImm8 L k with
    | err e => exact moves_106_1 d g k v L w hD e h
    | ok o k1 => exact moves_106_2 d g k v L w hD o k1 h
  by_cases h129 : c = 129
  · subst h129
    have e : dcMoves L 129 k = (dcMoves L 129 k) := rfl
    rw [e]
    exact mv81_any d g k v L w hD
  by_cases h131 : c = 131
  · subst h131
    have e : dcMoves L 131 k = (dcMoves L 131 k) := rfl
    rw [e]
    exact mv83_any d g k v L w hD
  by_cases h133 : c = 133
  · subst h133
    have e : dcMoves L 133 k = (dcTwo L 11 false k) := rfl
    rw [e]
    cases h : dcTwo L 11 false k with
    | err e => exact moves_133_1 d g k v L w hD e h
    | ok i k1 => exact moves_133_2 d g k v L w hD i k1 h
  by_cases h135 : c = 135
  · subst h135
    have e : dcMoves L 135 k = (dcTwo L 27 false k) := rfl
    rw [e]
    cases h : dcTwo L 27 false k with
    | err e => exact moves_135_1 d g k v L w hD e h
    | ok i k1 => exact moves_135_2 d g k v L w hD i k1 h
  by_cases h136 : c = 136
  · subst h136
    have e : dcMoves L 136 k = (dcTwo L 2 false k) := rfl
    rw [e]
    cases h : dcTwo L 2 false k with
    | err e => exact moves_136_1 d g k v L w hD e h
    | ok i k1 => exact moves_136_2 d g k v L w hD i k1 h
  by_cases h138 : c = 138
  · subst h138
    have e : dcMoves L 138 k = (dcTwo L 2 true k) := rfl
    rw [e]
    cases h : dcTwo L 2 true k with
    | err e => exact moves_138_1 d g k v L w hD e h
    | ok i k1 => exact moves_138_2 d g k v L w hD i k1 h
  by_cases h137 : c = 137
  · subst h137
    have e : dcMoves L 137 k = (dcTwo L 1 false k) := rfl
    rw [e]
    cases h : dcTwo L 1 false k with
    | err e => exact moves_137_1 d g k v L w hD e h
    | ok i k1 => exact moves_137_2 d g k v L w hD i k1 h
  by_cases h139 : c = 139
  · subst h139
    have e : dcMoves L 139 k = (dcTwo L 1 true k) := rfl
    rw [e]
    cases h : dcTwo L 1 true k with
    | err e => exact moves_139_1 d g k v L w hD e h
    | ok i k1 => exact moves_139_2 d g k v L w hD i k1 h
  by_cases h141 : c = 141
  · subst h141
    have e : dcMoves L 141 k = (dcLea L k) := rfl
    rw [e]
    cases h : dcLea L k with
    | err e => exact moves_141_1 d g k v L w hD e h
    | ok i k1 => exact moves_141_2 d g k v L w hD i k1 h
  by_cases h169 : c = 169
  · subst h169
    have e : dcMoves L 169 k = ((dcImm32 L k).bind fun o k => .ok ⟨11, 0, regO 0, o, false, 0⟩ k) := rfl
    rw [e]
    cases h : dcImm32 L k with
    | err e => exact moves_169_1 d g k v L w hD e h
    | ok o k1 => exact moves_169_2 d g k v L w hD o k1 h
  by_cases h198 : c = 198
  · subst h198
    have e : dcMoves L 198 k = (dcLays L 198 k) := rfl
    rw [e]
    cases h : dcLays L 198 k with
    | err e => exact moves_198_1 d g k v L w hD e h
    | ok i k1 => exact moves_198_2 d g k v L w hD i k1 h
  by_cases h199 : c = 199
  · subst h199
    have e : dcMoves L 199 k = (dcLays L 199 k) := rfl
    rw [e]
    cases h : dcLays L 199 k with
    | err e => exact moves_199_1 d g k v L w hD e h
    | ok i k1 => exact moves_199_2 d g k v L w hD i k1 h
  have e : dcMoves L c k = dcPlain L c k := by simp [dcMoves, h104, h106, h129, h131, h133, h135, h136, h138, h137, h139, h141, h169, h198, h199]
  rw [e]
  cases h : dcPlain L c k with
  | err e => exact moves_rest1 d g k v L w hD c hc0 hc1 h104 h106 h129 h131 h133 h135 h136 h138 h137 h139 h141 h169 h198 h199 e h
  | ok i k1 => exact moves_rest2 d g k v L w hD c hc0 hc1 h104 h106 h129 h131 h133 h135 h136 h138 h137 h139 h141 h169 h198 h199 i k1 h

end Go.Proofs.Yteiplidhkelkbaa
