/-
  Package decode: plain, by its contract.
-/
import Derived.Test.YtpockhoacfkjaaaDcK
namespace Go.Proofs.Ytpockhoacfkjaaa
open Go Go.RowKit
set_option linter.unusedVariables false
set_option linter.unusedSimpArgs false

set_option maxRecDepth 100000 in
set_option maxHeartbeats 2000000 in
theorem plain_144_1 (d g k : Nat) (v : Value) (L : List Int) (w : World) (hD : IsDec w d v L g k)  :
    Calls Try.prog 80 #[.pointer (some ⟨d, 0, none⟩), .int .u8 144] w (DAns d v L g w (.ok (bareI 44) k) Ins.val) := by
  have HD := Lib.hid hD
  have S1 := Lib.hid (RS.start hD)
  clear hD
  go_enter Try.func80, Try.ntmps80
  go_wp2_with (first | (have _t := S1; clear _t; go_at_call 100; refine (bare_any 44 _).mono ?_; rintro e w2 ⟨rfl, hu⟩; have S2 := Lib.hid ((S1.out).same hu); clear hu S1) | (have _t := S2; clear _t; refine at_store 28 rfl ?_; refine wpList_store_ins (bareI 44) w.heap.size rfl _ _ rfl rfl rfl (S2.out).rr rfl ?_; intro w3 hw; have S3 := Lib.hid ((S2.out).store HD.out rfl hw); clear hw S2))
  exact bodyPost_ret (results_one' rfl (res_ins 4 w.heap.size _ rfl S3.out.rr)) rfl ⟨rfl, S3.out.dd, S3.out.uu⟩

set_option maxRecDepth 100000 in
set_option maxHeartbeats 2000000 in
theorem plain_153_1 (d g k : Nat) (v : Value) (L : List Int) (w : World) (hD : IsDec w d v L g k)  :
    Calls Try.prog 80 #[.pointer (some ⟨d, 0, none⟩), .int .u8 153] w (DAns d v L g w (.ok (bareI 38) k) Ins.val) := by
  have HD := Lib.hid hD
  have S1 := Lib.hid (RS.start hD)
  clear hD
  go_enter Try.func80, Try.ntmps80
  go_wp2_with (first | (have _t := S1; clear _t; go_at_call 100; refine (bare_any 38 _).mono ?_; rintro e w2 ⟨rfl, hu⟩; have S2 := Lib.hid ((S1.out).same hu); clear hu S1) | (have _t := S2; clear _t; refine at_store 28 rfl ?_; refine wpList_store_ins (bareI 38) w.heap.size rfl _ _ rfl rfl rfl (S2.out).rr rfl ?_; intro w3 hw; have S3 := Lib.hid ((S2.out).store HD.out rfl hw); clear hw S2))
  exact bodyPost_ret (results_one' rfl (res_ins 4 w.heap.size _ rfl S3.out.rr)) rfl ⟨rfl, S3.out.dd, S3.out.uu⟩

set_option maxRecDepth 100000 in
set_option maxHeartbeats 2000000 in
theorem plain_165_1 (d g k : Nat) (v : Value) (L : List Int) (w : World) (hD : IsDec w d v L g k)  :
    Calls Try.prog 80 #[.pointer (some ⟨d, 0, none⟩), .int .u8 165] w (DAns d v L g w (.ok (bareI 41) k) Ins.val) := by
  have HD := Lib.hid hD
  have S1 := Lib.hid (RS.start hD)
  clear hD
  go_enter Try.func80, Try.ntmps80
  go_wp2_with (first | (have _t := S1; clear _t; go_at_call 100; refine (bare_any 41 _).mono ?_; rintro e w2 ⟨rfl, hu⟩; have S2 := Lib.hid ((S1.out).same hu); clear hu S1) | (have _t := S2; clear _t; refine at_store 28 rfl ?_; refine wpList_store_ins (bareI 41) w.heap.size rfl _ _ rfl rfl rfl (S2.out).rr rfl ?_; intro w3 hw; have S3 := Lib.hid ((S2.out).store HD.out rfl hw); clear hw S2))
  exact bodyPost_ret (results_one' rfl (res_ins 4 w.heap.size _ rfl S3.out.rr)) rfl ⟨rfl, S3.out.dd, S3.out.uu⟩

set_option maxRecDepth 100000 in
set_option maxHeartbeats 2000000 in
theorem plain_171_1 (d g k : Nat) (v : Value) (L : List Int) (w : World) (hD : IsDec w d v L g k)  :
    Calls Try.prog 80 #[.pointer (some ⟨d, 0, none⟩), .int .u8 171] w (DAns d v L g w (.ok (bareI 42) k) Ins.val) := by
  have HD := Lib.hid hD
  have S1 := Lib.hid (RS.start hD)
  clear hD
  go_enter Try.func80, Try.ntmps80
  go_wp2_with (first | (have _t := S1; clear _t; go_at_call 100; refine (bare_any 42 _).mono ?_; rintro e w2 ⟨rfl, hu⟩; have S2 := Lib.hid ((S1.out).same hu); clear hu S1) | (have _t := S2; clear _t; refine at_store 28 rfl ?_; refine wpList_store_ins (bareI 42) w.heap.size rfl _ _ rfl rfl rfl (S2.out).rr rfl ?_; intro w3 hw; have S3 := Lib.hid ((S2.out).store HD.out rfl hw); clear hw S2))
  exact bodyPost_ret (results_one' rfl (res_ins 4 w.heap.size _ rfl S3.out.rr)) rfl ⟨rfl, S3.out.dd, S3.out.uu⟩

set_option maxRecDepth 100000 in
set_option maxHeartbeats 2000000 in
theorem plain_195_1 (d g k : Nat) (v : Value) (L : List Int) (w : World) (hD : IsDec w d v L g k)  :
    Calls Try.prog 80 #[.pointer (some ⟨d, 0, none⟩), .int .u8 195] w (DAns d v L g w (.ok (bareI 31) k) Ins.val) := by
  have HD := Lib.hid hD
  have S1 := Lib.hid (RS.start hD)
  clear hD
  go_enter Try.func80, Try.ntmps80
  go_wp2_with (first | (have _t := S1; clear _t; go_at_call 100; refine (bare_any 31 _).mono ?_; rintro e w2 ⟨rfl, hu⟩; have S2 := Lib.hid ((S1.out).same hu); clear hu S1) | (have _t := S2; clear _t; refine at_store 28 rfl ?_; refine wpList_store_ins (bareI 31) w.heap.size rfl _ _ rfl rfl rfl (S2.out).rr rfl ?_; intro w3 hw; have S3 := Lib.hid ((S2.out).store HD.out rfl hw); clear hw S2))
  exact bodyPost_ret (results_one' rfl (res_ins 4 w.heap.size _ rfl S3.out.rr)) rfl ⟨rfl, S3.out.dd, S3.out.uu⟩

set_option maxRecDepth 100000 in
set_option maxHeartbeats 2000000 in
theorem plain_252_1 (d g k : Nat) (v : Value) (L : List Int) (w : World) (hD : IsDec w d v L g k)  :
    Calls Try.prog 80 #[.pointer (some ⟨d, 0, none⟩), .int .u8 252] w (DAns d v L g w (.ok (bareI 39) k) Ins.val) := by
  have HD := Lib.hid hD
  have S1 := Lib.hid (RS.start hD)
  clear hD
  go_enter Try.func80, Try.ntmps80
  go_wp2_with (first | (have _t := S1; clear _t; go_at_call 100; refine (bare_any 39 _).mono ?_; rintro e w2 ⟨rfl, hu⟩; have S2 := Lib.hid ((S1.out).same hu); clear hu S1) | (have _t := S2; clear _t; refine at_store 28 rfl ?_; refine wpList_store_ins (bareI 39) w.heap.size rfl _ _ rfl rfl rfl (S2.out).rr rfl ?_; intro w3 hw; have S3 := Lib.hid ((S2.out).store HD.out rfl hw); clear hw S2))
  exact bodyPost_ret (results_one' rfl (res_ins 4 w.heap.size _ rfl S3.out.rr)) rfl ⟨rfl, S3.out.dd, S3.out.uu⟩

set_option maxRecDepth 100000 in
set_option maxHeartbeats 2000000 in
theorem plain_253_1 (d g k : Nat) (v : Value) (L : List Int) (w : World) (hD : IsDec w d v L g k)  :
    Calls Try.prog 80 #[.pointer (some ⟨d, 0, none⟩), .int .u8 253] w (DAns d v L g w (.ok (bareI 40) k) Ins.val) := by
  have HD := Lib.hid hD
  have S1 := Lib.hid (RS.start hD)
  clear hD
  go_enter Try.func80, Try.ntmps80
  go_wp2_with (first | (have _t := S1; clear _t; go_at_call 100; refine (bare_any 40 _).mono ?_; rintro e w2 ⟨rfl, hu⟩; have S2 := Lib.hid ((S1.out).same hu); clear hu S1) | (have _t := S2; clear _t; refine at_store 28 rfl ?_; refine wpList_store_ins (bareI 40) w.heap.size rfl _ _ rfl rfl rfl (S2.out).rr rfl ?_; intro w3 hw; have S3 := Lib.hid ((S2.out).store HD.out rfl hw); clear hw S2))
  exact bodyPost_ret (results_one' rfl (res_ins 4 w.heap.size _ rfl S3.out.rr)) rfl ⟨rfl, S3.out.dd, S3.out.uu⟩

set_option maxRecDepth 100000 in
set_option maxHeartbeats 2000000 in
theorem plain_232_1 (d g k : Nat) (v : Value) (L : List Int) (w : World) (hD : IsDec w d v L g k) (e : Int) (h : dcImm32 L k = .err e) :
    Calls Try.prog 80 #[.pointer (some ⟨d, 0, none⟩), .int .u8 232] w (DAns d v L g w (.err e) Ins.val) := by
  have HD := Lib.hid hD
  have S1 := Lib.hid (RS.start hD)
  have HP2 := Lib.hid (fun (w1 : World) (hd1 : IsDec w1 d v L g k) => by have := imm32_any d g k v L w1 hd1; rw [h] at this; exact this)
  clear hD h
  go_enter Try.func80, Try.ntmps80
  go_wp2_with (have _t := S1; clear _t; go_at_call 44; refine (HP2.out _ (S1.out).dd).mono ?_; rintro e w2 ⟨rfl, hu⟩)
  exact ⟨rfl, rfl, (S1.out).uu.also hu (by simp)⟩

set_option maxRecDepth 100000 in
set_option maxHeartbeats 2000000 in
theorem plain_232_2 (d g k : Nat) (v : Value) (L : List Int) (w : World) (hD : IsDec w d v L g k) (o : Opd) (k1 : Nat) (h : dcImm32 L k = .ok o k1) :
    Calls Try.prog 80 #[.pointer (some ⟨d, 0, none⟩), .int .u8 232] w (DAns d v L g w (.ok ⟨30, 0, o, Opd.none, false, 0⟩ k1) Ins.val) := by
  have HD := Lib.hid hD
  have S1 := Lib.hid (RS.start hD)
  have HP2 := Lib.hid (fun (w1 : World) (hd1 : IsDec w1 d v L g k) => by have := imm32_any d g k v L w1 hd1; rw [h] at this; exact this)
  clear hD h
  go_enter Try.func80, Try.ntmps80
  go_wp2_with (first | (have _t := S1; clear _t; go_at_call 44; refine (HP2.out _ (S1.out).dd).mono ?_; rintro e w2 ⟨rfl, hD2, hu⟩; unfold Opd.val; have S2 := Lib.hid ((S1.out).step hD2 hu); clear hD2 hu S1) | (have _t := S2; clear _t; refine at_store 28 rfl ?_; refine wpList_store_ins ⟨30, 0, o, Opd.none, false, 0⟩ w.heap.size rfl _ _ rfl rfl rfl (S2.out).rr rfl ?_; intro w3 hw; have S3 := Lib.hid ((S2.out).store HD.out rfl hw); clear hw S2))
  exact bodyPost_ret (results_one' rfl (res_ins 4 w.heap.size _ rfl S3.out.rr)) rfl ⟨rfl, S3.out.dd, S3.out.uu⟩

set_option maxRecDepth 100000 in
set_option maxHeartbeats 2000000 in
theorem plain_233_1 (d g k : Nat) (v : Value) (L : List Int) (w : World) (hD : IsDec w d v L g k) (e : Int) (h : dcImm32 L k = .err e) :
    Calls Try.prog 80 #[.pointer (some ⟨d, 0, none⟩), .int .u8 233] w (DAns d v L g w (.err e) Ins.val) := by
  have HD := Lib.hid hD
  have S1 := Lib.hid (RS.start hD)
  have HP2 := Lib.hid (fun (w1 : World) (hd1 : IsDec w1 d v L g k) => by have := imm32_any d g k v L w1 hd1; rw [h] at this; exact this)
  clear hD h
  go_enter Try.func80, Try.ntmps80
  go_wp2_with (have _t := S1; clear _t; go_at_call 44; refine (HP2.out _ (S1.out).dd).mono ?_; rintro e w2 ⟨rfl, hu⟩)
  exact ⟨rfl, rfl, (S1.out).uu.also hu (by simp)⟩

set_option maxRecDepth 100000 in
set_option maxHeartbeats 2000000 in
theorem plain_233_2 (d g k : Nat) (v : Value) (L : List Int) (w : World) (hD : IsDec w d v L g k) (o : Opd) (k1 : Nat) (h : dcImm32 L k = .ok o k1) :
    Calls Try.prog 80 #[.pointer (some ⟨d, 0, none⟩), .int .u8 233] w (DAns d v L g w (.ok ⟨32, 0, o, Opd.none, false, 0⟩ k1) Ins.val) := by
  have HD := Lib.hid hD
  have S1 := Lib.hid (RS.start hD)
  have HP2 := Lib.hid (fun (w1 : World) (hd1 : IsDec w1 d v L g k) => by have := imm32_any d g k v L w1 hd1; rw [h] at this; exact this)
  clear hD h
  go_enter Try.func80, Try.ntmps80
  go_wp2_with (first | (have _t := S1; clear _t; go_at_call 44; refine (HP2.out _ (S1.out).dd).mono ?_; rintro e w2 ⟨rfl, hD2, hu⟩; unfold Opd.val; have S2 := Lib.hid ((S1.out).step hD2 hu); clear hD2 hu S1) | (have _t := S2; clear _t; refine at_store 28 rfl ?_; refine wpList_store_ins ⟨32, 0, o, Opd.none, false, 0⟩ w.heap.size rfl _ _ rfl rfl rfl (S2.out).rr rfl ?_; intro w3 hw; have S3 := Lib.hid ((S2.out).store HD.out rfl hw); clear hw S2))
  exact bodyPost_ret (results_one' rfl (res_ins 4 w.heap.size _ rfl S3.out.rr)) rfl ⟨rfl, S3.out.dd, S3.out.uu⟩

set_option maxRecDepth 100000 in
set_option maxHeartbeats 2000000 in
theorem plain_235_1 (d g k : Nat) (v : Value) (L : List Int) (w : World) (hD : IsDec w d v L g k) (e : Int) (h : dcImm8 L k = .err e) :
    Calls Try.prog 80 #[.pointer (some ⟨d, 0, none⟩), .int .u8 235] w (DAns d v L g w (.err e) Ins.val) := by
  have HD := Lib.hid hD
  have S1 := Lib.hid (RS.start hD)
  have HP2 := Lib.hid (fun (w1 : World) (hd1 : IsDec w1 d v L g k) => by have := imm8_any d g k v L w1 hd1; rw [h] at this; exact this)
  clear hD h
  go_enter Try.func80, Try.ntmps80
  go_wp2_with (have _t := S1; clear _t; go_at_call 42; refine (HP2.out _ (S1.out).dd).mono ?_; rintro e w2 ⟨rfl, hu⟩)
  exact ⟨rfl, rfl, (S1.out).uu.also hu (by simp)⟩

set_option maxRecDepth 100000 in
set_option maxHeartbeats 2000000 in
theorem plain_235_2 (d g k : Nat) (v : Value) (L : List Int) (w : World) (hD : IsDec w d v L g k) (o : Opd) (k1 : Nat) (h : dcImm8 L k = .ok o k1) :
    Calls Try.prog 80 #[.pointer (some ⟨d, 0, none⟩), .int .u8 235] w (DAns d v L g w (.ok ⟨32, 0, o, Opd.none, false, 0⟩ k1) Ins.val) := by
  have HD := Lib.hid hD
  have S1 := Lib.hid (RS.start hD)
  have HP2 := Lib.hid (fun (w1 : World) (hd1 : IsDec w1 d v L g k) => by have := imm8_any d g k v L w1 hd1; rw [h] at this; exact this)
  clear hD h
  go_enter Try.func80, Try.ntmps80
  go_wp2_with (first | (have _t := S1; clear _t; go_at_call 42; refine (HP2.out _ (S1.out).dd).mono ?_; rintro e w2 ⟨rfl, hD2, hu⟩; unfold Opd.val; have S2 := Lib.hid ((S1.out).step hD2 hu); clear hD2 hu S1) | (have _t := S2; clear _t; refine at_store 28 rfl ?_; refine wpList_store_ins ⟨32, 0, o, Opd.none, false, 0⟩ w.heap.size rfl _ _ rfl rfl rfl (S2.out).rr rfl ?_; intro w3 hw; have S3 := Lib.hid ((S2.out).store HD.out rfl hw); clear hw S2))
  exact bodyPost_ret (results_one' rfl (res_ins 4 w.heap.size _ rfl S3.out.rr)) rfl ⟨rfl, S3.out.dd, S3.out.uu⟩

set_option maxRecDepth 100000 in
set_option maxHeartbeats 2000000 in
theorem plain_rest1 (d g k : Nat) (v : Value) (L : List Int) (w : World) (hD : IsDec w d v L g k) (c : Int) (hc0 : 0 ≤ c) (hc1 : c ≤ 255) (h144 : c ≠ 144) (h153 : c ≠ 153) (h165 : c ≠ 165) (h171 : c ≠ 171) (h195 : c ≠ 195) (h252 : c ≠ 252) (h253 : c ≠ 253) (h232 : c ≠ 232) (h233 : c ≠ 233) (h235 : c ≠ 235) (e : Int) (h : dcGroups L c k = .err e) :
    Calls Try.prog 80 #[.pointer (some ⟨d, 0, none⟩), .int .u8 c] w (DAns d v L g w (.err e) Ins.val) := by
  have HD := Lib.hid hD
  have S1 := Lib.hid (RS.start hD)
  have e144 : (c == 144) = false := by simpa using h144
  have e153 : (c == 153) = false := by simpa using h153
  have e165 : (c == 165) = false := by simpa using h165
  have e171 : (c == 171) = false := by simpa using h171
  have e195 : (c == 195) = false := by simpa using h195
  have e252 : (c == 252) = false := by simpa using h252
  have e253 : (c == 253) = false := by simpa using h253
  have e232 : (c == 232) = false := by simpa using h232
  have e233 : (c == 233) = false := by simpa using h233
  have e235 : (c == 235) = false := by simpa using h235
  have HP2 := Lib.hid (fun (w1 : World) (hd1 : IsDec w1 d v L g k) => by have := groups_any d g k v L c w1 hd1 hc0 hc1; rw [h] at this; exact this)
  clear hD h144 h153 h165 h171 h195 h252 h253 h232 h233 h235 h
  go_enter Try.func80, Try.ntmps80
  go_wp2_with (have _t := S1; clear _t; go_at_call 101; refine (HP2.out _ (S1.out).dd).mono ?_; rintro e w2 ⟨rfl, hu⟩)
  exact ⟨rfl, rfl, (S1.out).uu.also hu (by simp)⟩

set_option maxRecDepth 100000 in
set_option maxHeartbeats 2000000 in
theorem plain_rest2 (d g k : Nat) (v : Value) (L : List Int) (w : World) (hD : IsDec w d v L g k) (c : Int) (hc0 : 0 ≤ c) (hc1 : c ≤ 255) (h144 : c ≠ 144) (h153 : c ≠ 153) (h165 : c ≠ 165) (h171 : c ≠ 171) (h195 : c ≠ 195) (h252 : c ≠ 252) (h253 : c ≠ 253) (h232 : c ≠ 232) (h233 : c ≠ 233) (h235 : c ≠ 235) (i : Ins) (k1 : Nat) (h : dcGroups L c k = .ok i k1) :
    Calls Try.prog 80 #[.pointer (some ⟨d, 0, none⟩), .int .u8 c] w (DAns d v L g w (.ok i k1) Ins.val) := by
  have HD := Lib.hid hD
  have S1 := Lib.hid (RS.start hD)
  have e144 : (c == 144) = false := by simpa using h144
  have e153 : (c == 153) = false := by simpa using h153
  have e165 : (c == 165) = false := by simpa using h165
  have e171 : (c == 171) = false := by simpa using h171
  have e195 : (c == 195) = false := by simpa using h195
  have e252 : (c == 252) = false := by simpa using h252
  have e253 : (c == 253) = false := by simpa using h253
  have e232 : (c == 232) = false := by simpa using h232
  have e233 : (c == 233) = false := by simpa using h233
  have e235 : (c == 235) = false := by simpa using h235
  have HP2 := Lib.hid (fun (w1 : World) (hd1 : IsDec w1 d v L g k) => by have := groups_any d g k v L c w1 hd1 hc0 hc1; rw [h] at this; exact this)
  clear hD h144 h153 h165 h171 h195 h252 h253 h232 h233 h235 h
  go_enter Try.func80, Try.ntmps80
  go_wp2_with (first | (have _t := S1; clear _t; go_at_call 101; refine (HP2.out _ (S1.out).dd).mono ?_; rintro e w2 ⟨rfl, hD2, hu⟩; have S2 := Lib.hid ((S1.out).step hD2 hu); clear hD2 hu S1) | (have _t := S2; clear _t; refine at_store 28 rfl ?_; refine wpList_store_ins i w.heap.size rfl _ _ rfl rfl rfl (S2.out).rr rfl ?_; intro w3 hw; have S3 := Lib.hid ((S2.out).store HD.out rfl hw); clear hw S2))
  exact bodyPost_ret (results_one' rfl (res_ins 4 w.heap.size _ rfl S3.out.rr)) rfl ⟨rfl, S3.out.dd, S3.out.uu⟩

theorem plain_any (d g k : Nat) (v : Value) (L : List Int) (c : Int) (w : World) (hD : IsDec w d v L g k) (hc0 : 0 ≤ c) (hc1 : c ≤ 255) :
    Calls Try.prog 80 #[.pointer (some ⟨d, 0, none⟩), .int .u8 c] w (DAns d v L g w (dcPlain L c k) Ins.val) := by
  by_cases h144 : c = 144
  · subst h144
    have e : dcPlain L 144 k = (.ok (bareI 44) k) := rfl
    rw [e]
    exact plain_144_1 d g k v L w hD
  by_cases h153 : c = 153
  · subst h153
    have e : dcPlain L 153 k = (.ok (bareI 38) k) := rfl
    rw [e]
    exact plain_153_1 d g k v L w hD
  by_cases h165 : c = 165
  · subst h165
    have e : dcPlain L 165 k = (.ok (bareI 41) k) := rfl
    rw [e]
    exact plain_165_1 d g k v L w hD
  by_cases h171 : c = 171
  · subst h171
    have e : dcPlain L 171 k = (.ok (bareI 42) k) := rfl
    rw [e]
    exact plain_171_1 d g k v L w hD
  by_cases h195 : c = 195
  · subst h195
    have e : dcPlain L 195 k = (.ok (bareI 31) k) := rfl
    rw [e]
    exact plain_195_1 d g k v L w hD
  by_cases h252 : c = 252
  · subst h252
    have e : dcPlain L 252 k = (.ok (bareI 39) k) := rfl
    rw [e]
    exact plain_252_1 d g k v L w hD
  by_cases h253 : c = 253
  · subst h253
    have e : dcPlain L 253 k = (.ok (bareI 40) k) := rfl
    rw [e]
    exact plain_253_1 d g k v L w hD
  by_cases h232 : c = 232
  · subst h232
    have e : dcPlain L 232 k = ((dcImm32 L k).bind fun o k => .ok ⟨30, 0, o, Opd.none, false, 0⟩ k) := rfl
    rw [e]
    cases h : dcImm32 L k with
    | err e => exact plain_232_1 d g k v L w hD e h
    | ok o k1 => exact plain_232_2 d g k v L w hD o k1 h
  by_cases h233 : c = 233
  · subst h233
    have e : dcPlain L 233 k = ((dcImm32 L k).bind fun o k => .ok ⟨32, 0, o, Opd.none, false, 0⟩ k) := rfl
    rw [e]
    cases h : dcImm32 L k with
    | err e => exact plain_233_1 d g k v L w hD e h
    | ok o k1 => exact plain_233_2 d g k v L w hD o k1 h
  by_cases h235 : c = 235
  · subst h235
    have e : dcPlain L 235 k = ((dcImm8 L k).bind fun o k => .ok ⟨32, 0, o, Opd.none, false, 0⟩ k) := rfl
    rw [e]
    cases h : dcImm8 L k with
    | err e => exact plain_235_1 d g k v L w hD e h
    | ok o k1 => exact plain_235_2 d g k v L w hD o k1 h
  have e : dcPlain L c k = dcGroups L c k := by simp [dcPlain, h144, h153, h165, h171, h195, h252, h253, h232, h233, h235]
  rw [e]
  cases h : dcGroups L c k with
  | err e => exact plain_rest1 d g k v L w hD c hc0 hc1 h144 h153 h165 h171 h195 h252 h253 h232 h233 h235 e h
  | ok i k1 => exact plain_rest2 d g k v L w hD c hc0 hc1 h144 h153 h165 h171 h195 h252 h253 h232 h233 h235 i k1 h

end Go.Proofs.Ytpockhoacfkjaaa
