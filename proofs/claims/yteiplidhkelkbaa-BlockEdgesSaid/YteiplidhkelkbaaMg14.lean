/-
  Package decode: insn, by its contract.
-/
import Derived.Test.YteiplidhkelkbaaMg13
namespace Go.Proofs.Yteiplidhkelkbaa
open Go Go.RowKit
set_option linter.unusedVariables false
set_option linter.unusedSimpArgs false

theorem u8_and15' {c : Int} (h0 : 0 ≤ c) (h1 : c < 256) : bits .and .u8 c 15 = c % 16 := by
  obtain ⟨c, rfl⟩ := Int.eq_ofNat_of_zero_le h0
  have h := u8_and_nat c 15 (by omega) (by decide)
  rw [show (15 : Nat) = 2 ^ 4 - 1 from rfl, Nat.and_two_pow_sub_one_eq_mod] at h
  exact h

set_option maxRecDepth 100000 in
set_option maxHeartbeats 2000000 in
theorem insn_1 (d g k : Nat) (v : Value) (L : List Int) (w : World) (hD : IsDec w d v L g k) (e : Int) (h : dcByte L k = .err e) :
    Calls Try.prog 27 #[.pointer (some ⟨d, 0, none⟩)] w (DAns d v L g w (.err e) Ins.val) := by
  have HD := Lib.hid hD
  have S1 := Lib.hid (RS.start hD)
  have HP2 := Lib.hid (fun (w1 : World) (hd1 : IsDec w1 d v L g k) => by have := byte_any d g k v L w1 hd1; rw [h] at this; exact this)
  clear hD h
  go_enter Try.func27, Try.ntmps27
  go_wp2_with (have _t := S1; clear _t; go_at_call 32; refine (HP2.out _ (S1.out).dd).mono ?_; rintro e w2 ⟨rfl, hu⟩)
  exact ⟨rfl, rfl, (S1.out).uu.also hu (by simp)⟩

set_option maxRecDepth 100000 in
set_option maxHeartbeats 2000000 in
theorem insn_2 (d g k : Nat) (v : Value) (L : List Int) (w : World) (hD : IsDec w d v L g k) (c : Int) (k1 : Nat) (h : dcByte L k = .ok c k1) (hc : c = 15) (e : Int) (h4 : dcSecond L k1 = .err e) :
    Calls Try.prog 27 #[.pointer (some ⟨d, 0, none⟩)] w (DAns d v L g w (.err e) Ins.val) := by
  have HD := Lib.hid hD
  have S1 := Lib.hid (RS.start hD)
  obtain ⟨c0, c1, hk0⟩ := dcByte_ok hD.r h
  clear hk0
  obtain ⟨r, hr⟩ : ∃ r : Int, c % 8 = r := ⟨_, rfl⟩
  obtain ⟨cd, hcd⟩ : ∃ cd : Int, c % 16 = cd := ⟨_, rfl⟩
  have a7 : bits .and .u8 c 7 = r := by rw [u8_and7 c0 (by omega), hr]
  have a15 : bits .and .u8 c 15 = cd := by rw [u8_and15' c0 (by omega), hcd]
  have qr : wrap64 r = r := by unfold wrap64; omega
  have qd : wrap64 cd = cd := by unfold wrap64; omega
  have f0 : (c == 15) = true := by simp; omega
  have HP2 := Lib.hid (fun (w1 : World) (hd1 : IsDec w1 d v L g k) => by have := byte_any d g k v L w1 hd1; rw [h] at this; exact this)
  have HP3 := Lib.hid (fun (w1 : World) (hd1 : IsDec w1 d v L g k1) => by have := second_any d g k1 v L w1 hd1; rw [h4] at this; exact this)
  clear hD h c0 c1 hc hr hcd h4
  go_enter Try.func27, Try.ntmps27
  go_wp2_with (first | (have _t := S1; clear _t; go_at_call 32; refine (HP2.out _ (S1.out).dd).mono ?_; rintro e w2 ⟨rfl, hD2, hu⟩; have S2 := Lib.hid ((S1.out).step hD2 hu); clear hD2 hu S1) | (have _t := S2; clear _t; go_at_call 33; refine (HP3.out _ (S2.out).dd).mono ?_; rintro e w3 ⟨rfl, hu⟩))
  exact ⟨rfl, rfl, (S2.out).uu.also hu (by simp)⟩

set_option maxRecDepth 100000 in
set_option maxHeartbeats 2000000 in
theorem insn_3 (d g k : Nat) (v : Value) (L : List Int) (w : World) (hD : IsDec w d v L g k) (c : Int) (k1 : Nat) (h : dcByte L k = .ok c k1) (hc : c = 15) (i : Ins) (k2 : Nat) (h4 : dcSecond L k1 = .ok i k2) :
    Calls Try.prog 27 #[.pointer (some ⟨d, 0, none⟩)] w (DAns d v L g w (.ok i k2) Ins.val) := by
  have HD := Lib.hid hD
  have S1 := Lib.hid (RS.start hD)
  obtain ⟨c0, c1, hk0⟩ := dcByte_ok hD.r h
  clear hk0
  obtain ⟨r, hr⟩ : ∃ r : Int, c % 8 = r := ⟨_, rfl⟩
  obtain ⟨cd, hcd⟩ : ∃ cd : Int, c % 16 = cd := ⟨_, rfl⟩
  have a7 : bits .and .u8 c 7 = r := by rw [u8_and7 c0 (by omega), hr]
  have a15 : bits .and .u8 c 15 = cd := by rw [u8_and15' c0 (by omega), hcd]
  have qr : wrap64 r = r := by unfold wrap64; omega
  have qd : wrap64 cd = cd := by unfold wrap64; omega
  have f0 : (c == 15) = true := by simp; omega
  have HP2 := Lib.hid (fun (w1 : World) (hd1 : IsDec w1 d v L g k) => by have := byte_any d g k v L w1 hd1; rw [h] at this; exact this)
  have HP3 := Lib.hid (fun (w1 : World) (hd1 : IsDec w1 d v L g k1) => by have := second_any d g k1 v L w1 hd1; rw [h4] at this; exact this)
  clear hD h c0 c1 hc hr hcd h4
  go_enter Try.func27, Try.ntmps27
  go_wp2_with (first | (have _t := S1; clear _t; go_at_call 32; refine (HP2.out _ (S1.out).dd).mono ?_; rintro e w2 ⟨rfl, hD2, hu⟩; have S2 := Lib.hid ((S1.out).step hD2 hu); clear hD2 hu S1) | (have _t := S2; clear _t; go_at_call 33; refine (HP3.out _ (S2.out).dd).mono ?_; rintro e w3 ⟨rfl, hD3, hu⟩; have S3 := Lib.hid ((S2.out).step hD3 hu); clear hD3 hu S2) | (have _t := S3; clear _t; refine at_store 38 rfl ?_; refine wpList_store_ins i w.heap.size rfl _ _ rfl rfl rfl (S3.out).rr rfl ?_; intro w4 hw; have S4 := Lib.hid ((S3.out).store HD.out rfl hw); clear hw S3))
  exact bodyPost_ret (results_one' rfl (res_ins 2 w.heap.size _ rfl S4.out.rr)) rfl ⟨rfl, S4.out.dd, S4.out.uu⟩

set_option maxRecDepth 100000 in
set_option maxHeartbeats 2000000 in
theorem insn_4 (d g k : Nat) (v : Value) (L : List Int) (w : World) (hD : IsDec w d v L g k) (c : Int) (k1 : Nat) (h : dcByte L k = .ok c k1) (hc : c < 64 ∧ c ≠ 15) (e : Int) (h4 : dcRow L c k1 = .err e) :
    Calls Try.prog 27 #[.pointer (some ⟨d, 0, none⟩)] w (DAns d v L g w (.err e) Ins.val) := by
  have HD := Lib.hid hD
  have S1 := Lib.hid (RS.start hD)
  obtain ⟨c0, c1, hk0⟩ := dcByte_ok hD.r h
  clear hk0
  obtain ⟨r, hr⟩ : ∃ r : Int, c % 8 = r := ⟨_, rfl⟩
  obtain ⟨cd, hcd⟩ : ∃ cd : Int, c % 16 = cd := ⟨_, rfl⟩
  have a7 : bits .and .u8 c 7 = r := by rw [u8_and7 c0 (by omega), hr]
  have a15 : bits .and .u8 c 15 = cd := by rw [u8_and15' c0 (by omega), hcd]
  have qr : wrap64 r = r := by unfold wrap64; omega
  have qd : wrap64 cd = cd := by unfold wrap64; omega
  have f0 : (c == 15) = false := by simp; omega
  have f1 : decide (c < 64) = true := by simp; omega
  have Kc := Lib.hid (show 0 ≤ c ∧ c < 64 by omega)
  have HP2 := Lib.hid (fun (w1 : World) (hd1 : IsDec w1 d v L g k) => by have := byte_any d g k v L w1 hd1; rw [h] at this; exact this)
  have HP3 := Lib.hid (fun (w1 : World) (hd1 : IsDec w1 d v L g k1) => by have := row_any d g k1 v L c w1 hd1 Kc.out; rw [h4] at this; exact this)
  clear hD h c0 c1 hc hr hcd h4
  go_enter Try.func27, Try.ntmps27
  go_wp2_with (first | (have _t := S1; clear _t; go_at_call 32; refine (HP2.out _ (S1.out).dd).mono ?_; rintro e w2 ⟨rfl, hD2, hu⟩; have S2 := Lib.hid ((S1.out).step hD2 hu); clear hD2 hu S1) | (have _t := S2; clear _t; go_at_call 34; refine (HP3.out _ (S2.out).dd).mono ?_; rintro e w3 ⟨rfl, hu⟩))
  exact ⟨rfl, rfl, (S2.out).uu.also hu (by simp)⟩

set_option maxRecDepth 100000 in
set_option maxHeartbeats 2000000 in
theorem insn_5 (d g k : Nat) (v : Value) (L : List Int) (w : World) (hD : IsDec w d v L g k) (c : Int) (k1 : Nat) (h : dcByte L k = .ok c k1) (hc : c < 64 ∧ c ≠ 15) (i : Ins) (k2 : Nat) (h4 : dcRow L c k1 = .ok i k2) :
    Calls Try.prog 27 #[.pointer (some ⟨d, 0, none⟩)] w (DAns d v L g w (.ok i k2) Ins.val) := by
  have HD := Lib.hid hD
  have S1 := Lib.hid (RS.start hD)
  obtain ⟨c0, c1, hk0⟩ := dcByte_ok hD.r h
  clear hk0
  obtain ⟨r, hr⟩ : ∃ r : Int, c % 8 = r := ⟨_, rfl⟩
  obtain ⟨cd, hcd⟩ : ∃ cd : Int, c % 16 = cd := ⟨_, rfl⟩
  have a7 : bits .and .u8 c 7 = r := by rw [u8_and7 c0 (by omega), hr]
  have a15 : bits .and .u8 c 15 = cd := by rw [u8_and15' c0 (by omega), hcd]
  have qr : wrap64 r = r := by unfold wrap64; omega
  have qd : wrap64 cd = cd := by unfold wrap64; omega
  have f0 : (c == 15) = false := by simp; omega
  have f1 : decide (c < 64) = true := by simp; omega
  have Kc := Lib.hid (show 0 ≤ c ∧ c < 64 by omega)
  have HP2 := Lib.hid (fun (w1 : World) (hd1 : IsDec w1 d v L g k) => by have := byte_any d g k v L w1 hd1; rw [h] at this; exact this)
  have HP3 := Lib.hid (fun (w1 : World) (hd1 : IsDec w1 d v L g k1) => by have := row_any d g k1 v L c w1 hd1 Kc.out; rw [h4] at this; exact this)
  clear hD h c0 c1 hc hr hcd h4
  go_enter Try.func27, Try.ntmps27
  go_wp2_with (first | (have _t := S1; clear _t; go_at_call 32; refine (HP2.out _ (S1.out).dd).mono ?_; rintro e w2 ⟨rfl, hD2, hu⟩; have S2 := Lib.hid ((S1.out).step hD2 hu); clear hD2 hu S1) | (have _t := S2; clear _t; go_at_call 34; refine (HP3.out _ (S2.out).dd).mono ?_; rintro e w3 ⟨rfl, hD3, hu⟩; have S3 := Lib.hid ((S2.out).step hD3 hu); clear hD3 hu S2) | (have _t := S3; clear _t; refine at_store 38 rfl ?_; refine wpList_store_ins i w.heap.size rfl _ _ rfl rfl rfl (S3.out).rr rfl ?_; intro w4 hw; have S4 := Lib.hid ((S3.out).store HD.out rfl hw); clear hw S3))
  exact bodyPost_ret (results_one' rfl (res_ins 2 w.heap.size _ rfl S4.out.rr)) rfl ⟨rfl, S4.out.dd, S4.out.uu⟩

set_option maxRecDepth 100000 in
set_option maxHeartbeats 2000000 in
theorem insn_r12 (d g k : Nat) (v : Value) (L : List Int) (w : World) (hD : IsDec w d v L g k) (c : Int) (k1 : Nat) (h : dcByte L k = .ok c k1) (hc : 64 ≤ c ∧ c < 72)  :
    Calls Try.prog 27 #[.pointer (some ⟨d, 0, none⟩)] w (DAns d v L g w (.ok ⟨12, 0, regO (c % 8), Opd.none, false, 0⟩ k1) Ins.val) := by
  have HD := Lib.hid hD
  have S1 := Lib.hid (RS.start hD)
  obtain ⟨c0, c1, hk0⟩ := dcByte_ok hD.r h
  clear hk0
  obtain ⟨r, hr⟩ : ∃ r : Int, c % 8 = r := ⟨_, rfl⟩
  obtain ⟨cd, hcd⟩ : ∃ cd : Int, c % 16 = cd := ⟨_, rfl⟩
  have a7 : bits .and .u8 c 7 = r := by rw [u8_and7 c0 (by omega), hr]
  have a15 : bits .and .u8 c 15 = cd := by rw [u8_and15' c0 (by omega), hcd]
  have qr : wrap64 r = r := by unfold wrap64; omega
  have qd : wrap64 cd = cd := by unfold wrap64; omega
  have f0 : (c == 15) = false := by simp; omega
  have f1 : decide (c < 64) = false := by simp; omega
  have f2 : decide (c < 72) = true := by simp; omega
  rw [hr]
  have HP2 := Lib.hid (fun (w1 : World) (hd1 : IsDec w1 d v L g k) => by have := byte_any d g k v L w1 hd1; rw [h] at this; exact this)
  clear hD h c0 c1 hc hr hcd
  go_enter Try.func27, Try.ntmps27
  go_wp2_with (first | (have _t := S1; clear _t; go_at_call 32; refine (HP2.out _ (S1.out).dd).mono ?_; rintro e w2 ⟨rfl, hD2, hu⟩; have S2 := Lib.hid ((S1.out).step hD2 hu); clear hD2 hu S1) | (have _t := S2; clear _t; go_at_call 35; refine (dreg_any r _).mono ?_; rintro e w3 ⟨rfl, hu⟩; unfold Opd.val regO; have S3 := Lib.hid ((S2.out).same hu); clear hu S2) | (have _t := S3; clear _t; refine at_store 38 rfl ?_; refine wpList_store_ins ⟨12, 0, regO r, Opd.none, false, 0⟩ w.heap.size rfl _ _ rfl rfl rfl (S3.out).rr rfl ?_; intro w4 hw; have S4 := Lib.hid ((S3.out).store HD.out rfl hw); clear hw S3))
  exact bodyPost_ret (results_one' rfl (res_ins 2 w.heap.size _ rfl S4.out.rr)) rfl ⟨rfl, S4.out.dd, S4.out.uu⟩

set_option maxRecDepth 100000 in
set_option maxHeartbeats 2000000 in
theorem insn_r13 (d g k : Nat) (v : Value) (L : List Int) (w : World) (hD : IsDec w d v L g k) (c : Int) (k1 : Nat) (h : dcByte L k = .ok c k1) (hc : 72 ≤ c ∧ c < 80)  :
    Calls Try.prog 27 #[.pointer (some ⟨d, 0, none⟩)] w (DAns d v L g w (.ok ⟨13, 0, regO (c % 8), Opd.none, false, 0⟩ k1) Ins.val) := by
  have HD := Lib.hid hD
  have S1 := Lib.hid (RS.start hD)
  obtain ⟨c0, c1, hk0⟩ := dcByte_ok hD.r h
  clear hk0
  obtain ⟨r, hr⟩ : ∃ r : Int, c % 8 = r := ⟨_, rfl⟩
  obtain ⟨cd, hcd⟩ : ∃ cd : Int, c % 16 = cd := ⟨_, rfl⟩
  have a7 : bits .and .u8 c 7 = r := by rw [u8_and7 c0 (by omega), hr]
  have a15 : bits .and .u8 c 15 = cd := by rw [u8_and15' c0 (by omega), hcd]
  have qr : wrap64 r = r := by unfold wrap64; omega
  have qd : wrap64 cd = cd := by unfold wrap64; omega
  have f0 : (c == 15) = false := by simp; omega
  have f1 : decide (c < 64) = false := by simp; omega
  have f2 : decide (c < 72) = false := by simp; omega
  have f3 : decide (c < 80) = true := by simp; omega
  rw [hr]
  have HP2 := Lib.hid (fun (w1 : World) (hd1 : IsDec w1 d v L g k) => by have := byte_any d g k v L w1 hd1; rw [h] at this; exact this)
  clear hD h c0 c1 hc hr hcd
  go_enter Try.func27, Try.ntmps27
  go_wp2_with (first | (have _t := S1; clear _t; go_at_call 32; refine (HP2.out _ (S1.out).dd).mono ?_; rintro e w2 ⟨rfl, hD2, hu⟩; have S2 := Lib.hid ((S1.out).step hD2 hu); clear hD2 hu S1) | (have _t := S2; clear _t; go_at_call 35; refine (dreg_any r _).mono ?_; rintro e w3 ⟨rfl, hu⟩; unfold Opd.val regO; have S3 := Lib.hid ((S2.out).same hu); clear hu S2) | (have _t := S3; clear _t; refine at_store 38 rfl ?_; refine wpList_store_ins ⟨13, 0, regO r, Opd.none, false, 0⟩ w.heap.size rfl _ _ rfl rfl rfl (S3.out).rr rfl ?_; intro w4 hw; have S4 := Lib.hid ((S3.out).store HD.out rfl hw); clear hw S3))
  exact bodyPost_ret (results_one' rfl (res_ins 2 w.heap.size _ rfl S4.out.rr)) rfl ⟨rfl, S4.out.dd, S4.out.uu⟩

set_option maxRecDepth 100000 in
set_option maxHeartbeats 2000000 in
theorem insn_r28 (d g k : Nat) (v : Value) (L : List Int) (w : World) (hD : IsDec w d v L g k) (c : Int) (k1 : Nat) (h : dcByte L k = .ok c k1) (hc : 80 ≤ c ∧ c < 88)  :
    Calls Try.prog 27 #[.pointer (some ⟨d, 0, none⟩)] w (DAns d v L g w (.ok ⟨28, 0, regO (c % 8), Opd.none, false, 0⟩ k1) Ins.val) := by
  have HD := Lib.hid hD
  have S1 := Lib.hid (RS.start hD)
  obtain ⟨c0, c1, hk0⟩ := dcByte_ok hD.r h
  clear hk0
  obtain ⟨r, hr⟩ : ∃ r : Int, c % 8 = r := ⟨_, rfl⟩
  obtain ⟨cd, hcd⟩ : ∃ cd : Int, c % 16 = cd := ⟨_, rfl⟩
  have a7 : bits .and .u8 c 7 = r := by rw [u8_and7 c0 (by omega), hr]
  have a15 : bits .and .u8 c 15 = cd := by rw [u8_and15' c0 (by omega), hcd]
  have qr : wrap64 r = r := by unfold wrap64; omega
  have qd : wrap64 cd = cd := by unfold wrap64; omega
  have f0 : (c == 15) = false := by simp; omega
  have f1 : decide (c < 64) = false := by simp; omega
  have f2 : decide (c < 72) = false := by simp; omega
  have f3 : decide (c < 80) = false := by simp; omega
  have f4 : decide (c < 88) = true := by simp; omega
  rw [hr]
  have HP2 := Lib.hid (fun (w1 : World) (hd1 : IsDec w1 d v L g k) => by have := byte_any d g k v L w1 hd1; rw [h] at this; exact this)
  clear hD h c0 c1 hc hr hcd
  go_enter Try.func27, Try.ntmps27
  go_wp2_with (first | (have _t := S1; clear _t; go_at_call 32; refine (HP2.out _ (S1.out).dd).mono ?_; rintro e w2 ⟨rfl, hD2, hu⟩; have S2 := Lib.hid ((S1.out).step hD2 hu); clear hD2 hu S1) | (have _t := S2; clear _t; go_at_call 35; refine (dreg_any r _).mono ?_; rintro e w3 ⟨rfl, hu⟩; unfold Opd.val regO; have S3 := Lib.hid ((S2.out).same hu); clear hu S2) | (have _t := S3; clear _t; refine at_store 38 rfl ?_; refine wpList_store_ins ⟨28, 0, regO r, Opd.none, false, 0⟩ w.heap.size rfl _ _ rfl rfl rfl (S3.out).rr rfl ?_; intro w4 hw; have S4 := Lib.hid ((S3.out).store HD.out rfl hw); clear hw S3))
  exact bodyPost_ret (results_one' rfl (res_ins 2 w.heap.size _ rfl S4.out.rr)) rfl ⟨rfl, S4.out.dd, S4.out.uu⟩

set_option maxRecDepth 100000 in
set_option maxHeartbeats 2000000 in
theorem insn_r29 (d g k : Nat) (v : Value) (L : List Int) (w : World) (hD : IsDec w d v L g k) (c : Int) (k1 : Nat) (h : dcByte L k = .ok c k1) (hc : 88 ≤ c ∧ c < 96)  :
    Calls Try.prog 27 #[.pointer (some ⟨d, 0, none⟩)] w (DAns d v L g w (.ok ⟨29, 0, regO (c % 8), Opd.none, false, 0⟩ k1) Ins.val) := by
  have HD := Lib.hid hD
  have S1 := Lib.hid (RS.start hD)
  obtain ⟨c0, c1, hk0⟩ := dcByte_ok hD.r h
  clear hk0
  obtain ⟨r, hr⟩ : ∃ r : Int, c % 8 = r := ⟨_, rfl⟩
  obtain ⟨cd, hcd⟩ : ∃ cd : Int, c % 16 = cd := ⟨_, rfl⟩
  have a7 : bits .and .u8 c 7 = r := by rw [u8_and7 c0 (by omega), hr]
  have a15 : bits .and .u8 c 15 = cd := by rw [u8_and15' c0 (by omega), hcd]
  have qr : wrap64 r = r := by unfold wrap64; omega
  have qd : wrap64 cd = cd := by unfold wrap64; omega
  have f0 : (c == 15) = false := by simp; omega
  have f1 : decide (c < 64) = false := by simp; omega
  have f2 : decide (c < 72) = false := by simp; omega
  have f3 : decide (c < 80) = false := by simp; omega
  have f4 : decide (c < 88) = false := by simp; omega
  have f5 : decide (c < 96) = true := by simp; omega
  rw [hr]
  have HP2 := Lib.hid (fun (w1 : World) (hd1 : IsDec w1 d v L g k) => by have := byte_any d g k v L w1 hd1; rw [h] at this; exact this)
  clear hD h c0 c1 hc hr hcd
  go_enter Try.func27, Try.ntmps27
  go_wp2_with (first | (have _t := S1; clear _t; go_at_call 32; refine (HP2.out _ (S1.out).dd).mono ?_; rintro e w2 ⟨rfl, hD2, hu⟩; have S2 := Lib.hid ((S1.out).step hD2 hu); clear hD2 hu S1) | (have _t := S2; clear _t; go_at_call 35; refine (dreg_any r _).mono ?_; rintro e w3 ⟨rfl, hu⟩; unfold Opd.val regO; have S3 := Lib.hid ((S2.out).same hu); clear hu S2) | (have _t := S3; clear _t; refine at_store 38 rfl ?_; refine wpList_store_ins ⟨29, 0, regO r, Opd.none, false, 0⟩ w.heap.size rfl _ _ rfl rfl rfl (S3.out).rr rfl ?_; intro w4 hw; have S4 := Lib.hid ((S3.out).store HD.out rfl hw); clear hw S3))
  exact bodyPost_ret (results_one' rfl (res_ins 2 w.heap.size _ rfl S4.out.rr)) rfl ⟨rfl, S4.out.dd, S4.out.uu⟩

set_option maxRecDepth 100000 in
set_option maxHeartbeats 2000000 in
theorem insn_6 (d g k : Nat) (v : Value) (L : List Int) (w : World) (hD : IsDec w d v L g k) (c : Int) (k1 : Nat) (h : dcByte L k = .ok c k1) (hc : 112 ≤ c ∧ c < 128) (e : Int) (h4 : dcImm8 L k1 = .err e) :
    Calls Try.prog 27 #[.pointer (some ⟨d, 0, none⟩)] w (DAns d v L g w (.err e) Ins.val) := by
  have HD := Lib.hid hD
  have S1 := Lib.hid (RS.start hD)
  obtain ⟨c0, c1, hk0⟩ := dcByte_ok hD.r h
  clear hk0
  obtain ⟨r, hr⟩ : ∃ r : Int, c % 8 = r := ⟨_, rfl⟩
  obtain ⟨cd, hcd⟩ : ∃ cd : Int, c % 16 = cd := ⟨_, rfl⟩
  have a7 : bits .and .u8 c 7 = r := by rw [u8_and7 c0 (by omega), hr]
  have a15 : bits .and .u8 c 15 = cd := by rw [u8_and15' c0 (by omega), hcd]
  have qr : wrap64 r = r := by unfold wrap64; omega
  have qd : wrap64 cd = cd := by unfold wrap64; omega
  have f0 : (c == 15) = false := by simp; omega
  have f1 : decide (c < 64) = false := by simp; omega
  have f2 : decide (c < 72) = false := by simp; omega
  have f3 : decide (c < 80) = false := by simp; omega
  have f4 : decide (c < 88) = false := by simp; omega
  have f5 : decide (c < 96) = false := by simp; omega
  have f6 : decide (112 ≤ c) = true := by simp; omega
  have f7 : decide (c < 128) = true := by simp; omega
  have HP2 := Lib.hid (fun (w1 : World) (hd1 : IsDec w1 d v L g k) => by have := byte_any d g k v L w1 hd1; rw [h] at this; exact this)
  have HP3 := Lib.hid (fun (w1 : World) (hd1 : IsDec w1 d v L g k1) => by have := imm8_any d g k1 v L w1 hd1; rw [h4] at this; exact this)
  clear hD h c0 c1 hc hr hcd h4
  go_enter Try.func27, Try.ntmps27
  go_wp2_with (first | (have _t := S1; clear _t; go_at_call 32; refine (HP2.out _ (S1.out).dd).mono ?_; rintro e w2 ⟨rfl, hD2, hu⟩; have S2 := Lib.hid ((S1.out).step hD2 hu); clear hD2 hu S1) | (have _t := S2; clear _t; go_at_call 36; refine (HP3.out _ (S2.out).dd).mono ?_; rintro e w3 ⟨rfl, hu⟩))
  exact ⟨rfl, rfl, (S2.out).uu.also hu (by simp)⟩

set_option maxRecDepth 100000 in
set_option maxHeartbeats 2000000 in
theorem insn_7 (d g k : Nat) (v : Value) (L : List Int) (w : World) (hD : IsDec w d v L g k) (c : Int) (k1 : Nat) (h : dcByte L k = .ok c k1) (hc : 112 ≤ c ∧ c < 128) (o : Opd) (k2 : Nat) (h4 : dcImm8 L k1 = .ok o k2) :
    Calls Try.prog 27 #[.pointer (some ⟨d, 0, none⟩)] w (DAns d v L g w (.ok ⟨33, c % 16, o, Opd.none, false, 0⟩ k2) Ins.val) := by
  have HD := Lib.hid hD
  have S1 := Lib.hid (RS.start hD)
  obtain ⟨c0, c1, hk0⟩ := dcByte_ok hD.r h
  clear hk0
  obtain ⟨r, hr⟩ : ∃ r : Int, c % 8 = r := ⟨_, rfl⟩
  obtain ⟨cd, hcd⟩ : ∃ cd : Int, c % 16 = cd := ⟨_, rfl⟩
  have a7 : bits .and .u8 c 7 = r := by rw [u8_and7 c0 (by omega), hr]
  have a15 : bits .and .u8 c 15 = cd := by rw [u8_and15' c0 (by omega), hcd]
  have qr : wrap64 r = r := by unfold wrap64; omega
  have qd : wrap64 cd = cd := by unfold wrap64; omega
  have f0 : (c == 15) = false := by simp; omega
  have f1 : decide (c < 64) = false := by simp; omega
  have f2 : decide (c < 72) = false := by simp; omega
  have f3 : decide (c < 80) = false := by simp; omega
  have f4 : decide (c < 88) = false := by simp; omega
  have f5 : decide (c < 96) = false := by simp; omega
  have f6 : decide (112 ≤ c) = true := by simp; omega
  have f7 : decide (c < 128) = true := by simp; omega
  rw [hcd]
  have HP2 := Lib.hid (fun (w1 : World) (hd1 : IsDec w1 d v L g k) => by have := byte_any d g k v L w1 hd1; rw [h] at this; exact this)
  have HP3 := Lib.hid (fun (w1 : World) (hd1 : IsDec w1 d v L g k1) => by have := imm8_any d g k1 v L w1 hd1; rw [h4] at this; exact this)
  clear hD h c0 c1 hc hr hcd h4
  go_enter Try.func27, Try.ntmps27
  go_wp2_with (first | (have _t := S1; clear _t; go_at_call 32; refine (HP2.out _ (S1.out).dd).mono ?_; rintro e w2 ⟨rfl, hD2, hu⟩; have S2 := Lib.hid ((S1.out).step hD2 hu); clear hD2 hu S1) | (have _t := S2; clear _t; go_at_call 36; refine (HP3.out _ (S2.out).dd).mono ?_; rintro e w3 ⟨rfl, hD3, hu⟩; unfold Opd.val; have S3 := Lib.hid ((S2.out).step hD3 hu); clear hD3 hu S2) | (have _t := S3; clear _t; refine at_store 38 rfl ?_; refine wpList_store_ins ⟨33, cd, o, Opd.none, false, 0⟩ w.heap.size rfl _ _ rfl rfl rfl (S3.out).rr rfl ?_; intro w4 hw; have S4 := Lib.hid ((S3.out).store HD.out rfl hw); clear hw S3))
  exact bodyPost_ret (results_one' rfl (res_ins 2 w.heap.size _ rfl S4.out.rr)) rfl ⟨rfl, S4.out.dd, S4.out.uu⟩

set_option maxRecDepth 100000 in
set_option maxHeartbeats 2000000 in
theorem insn_8 (d g k : Nat) (v : Value) (L : List Int) (w : World) (hD : IsDec w d v L g k) (c : Int) (k1 : Nat) (h : dcByte L k = .ok c k1) (hc : 176 ≤ c ∧ c < 184) (e : Int) (h4 : dcSmall L k1 = .err e) :
    Calls Try.prog 27 #[.pointer (some ⟨d, 0, none⟩)] w (DAns d v L g w (.err e) Ins.val) := by
  have HD := Lib.hid hD
  have S1 := Lib.hid (RS.start hD)
  obtain ⟨c0, c1, hk0⟩ := dcByte_ok hD.r h
  clear hk0
  obtain ⟨r, hr⟩ : ∃ r : Int, c % 8 = r := ⟨_, rfl⟩
  obtain ⟨cd, hcd⟩ : ∃ cd : Int, c % 16 = cd := ⟨_, rfl⟩
  have a7 : bits .and .u8 c 7 = r := by rw [u8_and7 c0 (by omega), hr]
  have a15 : bits .and .u8 c 15 = cd := by rw [u8_and15' c0 (by omega), hcd]
  have qr : wrap64 r = r := by unfold wrap64; omega
  have qd : wrap64 cd = cd := by unfold wrap64; omega
  have f0 : (c == 15) = false := by simp; omega
  have f1 : decide (c < 64) = false := by simp; omega
  have f2 : decide (c < 72) = false := by simp; omega
  have f3 : decide (c < 80) = false := by simp; omega
  have f4 : decide (c < 88) = false := by simp; omega
  have f5 : decide (c < 96) = false := by simp; omega
  have f6 : decide (112 ≤ c) = true := by simp; omega
  have f7 : decide (c < 128) = false := by simp; omega
  have f8 : decide (176 ≤ c) = true := by simp; omega
  have f9 : decide (c < 184) = true := by simp; omega
  have HP2 := Lib.hid (fun (w1 : World) (hd1 : IsDec w1 d v L g k) => by have := byte_any d g k v L w1 hd1; rw [h] at this; exact this)
  have HP4 := Lib.hid (fun (w1 : World) (hd1 : IsDec w1 d v L g k1) => by have := small_any d g k1 v L w1 hd1; rw [h4] at this; exact this)
  clear hD h c0 c1 hc hr hcd h4
  go_enter Try.func27, Try.ntmps27
  go_wp2_with (first | (have _t := S1; clear _t; go_at_call 32; refine (HP2.out _ (S1.out).dd).mono ?_; rintro e w2 ⟨rfl, hD2, hu⟩; have S2 := Lib.hid ((S1.out).step hD2 hu); clear hD2 hu S1) | (have _t := S2; clear _t; go_at_call 35; refine (dreg_any r _).mono ?_; rintro e w3 ⟨rfl, hu⟩; unfold Opd.val regO; have S3 := Lib.hid ((S2.out).same hu); clear hu S2) | (have _t := S3; clear _t; go_at_call 37; refine (HP4.out _ (S3.out).dd).mono ?_; rintro e w4 ⟨rfl, hu⟩))
  exact ⟨rfl, rfl, (S3.out).uu.also hu (by simp)⟩

set_option maxRecDepth 100000 in
set_option maxHeartbeats 2000000 in
theorem insn_9 (d g k : Nat) (v : Value) (L : List Int) (w : World) (hD : IsDec w d v L g k) (c : Int) (k1 : Nat) (h : dcByte L k = .ok c k1) (hc : 176 ≤ c ∧ c < 184) (o : Opd) (k2 : Nat) (h4 : dcSmall L k1 = .ok o k2) :
    Calls Try.prog 27 #[.pointer (some ⟨d, 0, none⟩)] w (DAns d v L g w (.ok ⟨2, 0, regO (c % 8), o, false, 0⟩ k2) Ins.val) := by
  have HD := Lib.hid hD
  have S1 := Lib.hid (RS.start hD)
  obtain ⟨c0, c1, hk0⟩ := dcByte_ok hD.r h
  clear hk0
  obtain ⟨r, hr⟩ : ∃ r : Int, c % 8 = r := ⟨_, rfl⟩
  obtain ⟨cd, hcd⟩ : ∃ cd : Int, c % 16 = cd := ⟨_, rfl⟩
  have a7 : bits .and .u8 c 7 = r := by rw [u8_and7 c0 (by omega), hr]
  have a15 : bits .and .u8 c 15 = cd := by rw [u8_and15' c0 (by omega), hcd]
  have qr : wrap64 r = r := by unfold wrap64; omega
  have qd : wrap64 cd = cd := by unfold wrap64; omega
  have f0 : (c == 15) = false := by simp; omega
  have f1 : decide (c < 64) = false := by simp; omega
  have f2 : decide (c < 72) = false := by simp; omega
  have f3 : decide (c < 80) = false := by simp; omega
  have f4 : decide (c < 88) = false := by simp; omega
  have f5 : decide (c < 96) = false := by simp; omega
  have f6 : decide (112 ≤ c) = true := by simp; omega
  have f7 : decide (c < 128) = false := by simp; omega
  have f8 : decide (176 ≤ c) = true := by simp; omega
  have f9 : decide (c < 184) = true := by simp; omega
  rw [hr]
  have HP2 := Lib.hid (fun (w1 : World) (hd1 : IsDec w1 d v L g k) => by have := byte_any d g k v L w1 hd1; rw [h] at this; exact this)
  have HP4 := Lib.hid (fun (w1 : World) (hd1 : IsDec w1 d v L g k1) => by have := small_any d g k1 v L w1 hd1; rw [h4] at this; exact this)
  clear hD h c0 c1 hc hr hcd h4
  go_enter Try.func27, Try.ntmps27
  go_wp2_with (first | (have _t := S1; clear _t; go_at_call 32; refine (HP2.out _ (S1.out).dd).mono ?_; rintro e w2 ⟨rfl, hD2, hu⟩; have S2 := Lib.hid ((S1.out).step hD2 hu); clear hD2 hu S1) | (have _t := S2; clear _t; go_at_call 35; refine (dreg_any r _).mono ?_; rintro e w3 ⟨rfl, hu⟩; unfold Opd.val regO; have S3 := Lib.hid ((S2.out).same hu); clear hu S2) | (have _t := S3; clear _t; go_at_call 37; refine (HP4.out _ (S3.out).dd).mono ?_; rintro e w4 ⟨rfl, hD4, hu⟩; unfold Opd.val; have S4 := Lib.hid ((S3.out).step hD4 hu); clear hD4 hu S3) | (have _t := S4; clear _t; refine at_store 38 rfl ?_; refine wpList_store_ins ⟨2, 0, regO r, o, false, 0⟩ w.heap.size rfl _ _ rfl rfl rfl (S4.out).rr rfl ?_; intro w5 hw; have S5 := Lib.hid ((S4.out).store HD.out rfl hw); clear hw S4))
  exact bodyPost_ret (results_one' rfl (res_ins 2 w.heap.size _ rfl S5.out.rr)) rfl ⟨rfl, S5.out.dd, S5.out.uu⟩

set_option maxRecDepth 100000 in
set_option maxHeartbeats 2000000 in
theorem insn_10 (d g k : Nat) (v : Value) (L : List Int) (w : World) (hD : IsDec w d v L g k) (c : Int) (k1 : Nat) (h : dcByte L k = .ok c k1) (hc : 184 ≤ c ∧ c < 192) (e : Int) (h4 : dcImm32 L k1 = .err e) :
    Calls Try.prog 27 #[.pointer (some ⟨d, 0, none⟩)] w (DAns d v L g w (.err e) Ins.val) := by
  have HD := Lib.hid hD
  have S1 := Lib.hid (RS.start hD)
  obtain ⟨c0, c1, hk0⟩ := dcByte_ok hD.r h
  clear hk0
  obtain ⟨r, hr⟩ : ∃ r : Int, c % 8 = r := ⟨_, rfl⟩
  obtain ⟨cd, hcd⟩ : ∃ cd : Int, c % 16 = cd := ⟨_, rfl⟩
  have a7 : bits .and .u8 c 7 = r := by rw [u8_and7 c0 (by omega), hr]
  have a15 : bits .and .u8 c 15 = cd := by rw [u8_and15' c0 (by omega), hcd]
  have qr : wrap64 r = r := by unfold wrap64; omega
  have qd : wrap64 cd = cd := by unfold wrap64; omega
  have f0 : (c == 15) = false := by simp; omega
  have f1 : decide (c < 64) = false := by simp; omega
  have f2 : decide (c < 72) = false := by simp; omega
  have f3 : decide (c < 80) = false := by simp; omega
  have f4 : decide (c < 88) = false := by simp; omega
  have f5 : decide (c < 96) = false := by simp; omega
  have f6 : decide (112 ≤ c) = true := by simp; omega
  have f7 : decide (c < 128) = false := by simp; omega
  have f8 : decide (176 ≤ c) = true := by simp; omega
  have f9 : decide (c < 184) = false := by simp; omega
  have f10 : decide (184 ≤ c) = true := by simp; omega
  have f11 : decide (c < 192) = true := by simp; omega
  have HP2 := Lib.hid (fun (w1 : World) (hd1 : IsDec w1 d v L g k) => by have := byte_any d g k v L w1 hd1; rw [h] at this; exact this)
  have HP4 := Lib.hid (fun (w1 : World) (hd1 : IsDec w1 d v L g k1) => by have := imm32_any d g k1 v L w1 hd1; rw [h4] at this; exact this)
  clear hD h c0 c1 hc hr hcd h4
  go_enter Try.func27, Try.ntmps27
  go_wp2_with (first | (have _t := S1; clear _t; go_at_call 32; refine (HP2.out _ (S1.out).dd).mono ?_; rintro e w2 ⟨rfl, hD2, hu⟩; have S2 := Lib.hid ((S1.out).step hD2 hu); clear hD2 hu S1) | (have _t := S2; clear _t; go_at_call 35; refine (dreg_any r _).mono ?_; rintro e w3 ⟨rfl, hu⟩; unfold Opd.val regO; have S3 := Lib.hid ((S2.out).same hu); clear hu S2) | (have _t := S3; clear _t; go_at_call 38; refine (HP4.out _ (S3.out).dd).mono ?_; rintro e w4 ⟨rfl, hu⟩))
  exact ⟨rfl, rfl, (S3.out).uu.also hu (by simp)⟩

set_option maxRecDepth 100000 in
set_option maxHeartbeats 2000000 in
theorem insn_11 (d g k : Nat) (v : Value) (L : List Int) (w : World) (hD : IsDec w d v L g k) (c : Int) (k1 : Nat) (h : dcByte L k = .ok c k1) (hc : 184 ≤ c ∧ c < 192) (o : Opd) (k2 : Nat) (h4 : dcImm32 L k1 = .ok o k2) :
    Calls Try.prog 27 #[.pointer (some ⟨d, 0, none⟩)] w (DAns d v L g w (.ok ⟨1, 0, regO (c % 8), o, false, 0⟩ k2) Ins.val) := by
  have HD := Lib.hid hD
  have S1 := Lib.hid (RS.start hD)
  obtain ⟨c0, c1, hk0⟩ := dcByte_ok hD.r h
  clear hk0
  obtain ⟨r, hr⟩ : ∃ r : Int, c % 8 = r := ⟨_, rfl⟩
  obtain ⟨cd, hcd⟩ : ∃ cd : Int, c % 16 = cd := ⟨_, rfl⟩
  have a7 : bits .and .u8 c 7 = r := by rw [u8_and7 c0 (by omega), hr]
  have a15 : bits .and .u8 c 15 = cd := by rw [u8_and15' c0 (by omega), hcd]
  have qr : wrap64 r = r := by unfold wrap64; omega
  have qd : wrap64 cd = cd := by unfold wrap64; omega
  have f0 : (c == 15) = false := by simp; omega
  have f1 : decide (c < 64) = false := by simp; omega
  have f2 : decide (c < 72) = false := by simp; omega
  have f3 : decide (c < 80) = false := by simp; omega
  have f4 : decide (c < 88) = false := by simp; omega
  have f5 : decide (c < 96) = false := by simp; omega
  have f6 : decide (112 ≤ c) = true := by simp; omega
  have f7 : decide (c < 128) = false := by simp; omega
  have f8 : decide (176 ≤ c) = true := by simp; omega
  have f9 : decide (c < 184) = false := by simp; omega
  have f10 : decide (184 ≤ c) = true := by simp; omega
  have f11 : decide (c < 192) = true := by simp; omega
  rw [hr]
  have HP2 := Lib.hid (fun (w1 : World) (hd1 : IsDec w1 d v L g k) => by have := byte_any d g k v L w1 hd1; rw [h] at this; exact this)
  have HP4 := Lib.hid (fun (w1 : World) (hd1 : IsDec w1 d v L g k1) => by have := imm32_any d g k1 v L w1 hd1; rw [h4] at this; exact this)
  clear hD h c0 c1 hc hr hcd h4
  go_enter Try.func27, Try.ntmps27
  go_wp2_with (first | (have _t := S1; clear _t; go_at_call 32; refine (HP2.out _ (S1.out).dd).mono ?_; rintro e w2 ⟨rfl, hD2, hu⟩; have S2 := Lib.hid ((S1.out).step hD2 hu); clear hD2 hu S1) | (have _t := S2; clear _t; go_at_call 35; refine (dreg_any r _).mono ?_; rintro e w3 ⟨rfl, hu⟩; unfold Opd.val regO; have S3 := Lib.hid ((S2.out).same hu); clear hu S2) | (have _t := S3; clear _t; go_at_call 38; refine (HP4.out _ (S3.out).dd).mono ?_; rintro e w4 ⟨rfl, hD4, hu⟩; unfold Opd.val; have S4 := Lib.hid ((S3.out).step hD4 hu); clear hD4 hu S3) | (have _t := S4; clear _t; refine at_store 38 rfl ?_; refine wpList_store_ins ⟨1, 0, regO r, o, false, 0⟩ w.heap.size rfl _ _ rfl rfl rfl (S4.out).rr rfl ?_; intro w5 hw; have S5 := Lib.hid ((S4.out).store HD.out rfl hw); clear hw S4))
  exact bodyPost_ret (results_one' rfl (res_ins 2 w.heap.size _ rfl S5.out.rr)) rfl ⟨rfl, S5.out.dd, S5.out.uu⟩

set_option maxRecDepth 100000 in
set_option maxHeartbeats 2000000 in
theorem insn_ma1 (d g k : Nat) (v : Value) (L : List Int) (w : World) (hD : IsDec w d v L g k) (c : Int) (k1 : Nat) (h : dcByte L k = .ok c k1) (hc : 96 ≤ c ∧ c < 112) (e : Int) (h4 : dcMoves L c k1 = .err e) :
    Calls Try.prog 27 #[.pointer (some ⟨d, 0, none⟩)] w (DAns d v L g w (.err e) Ins.val) := by
  have HD := Lib.hid hD
  have S1 := Lib.hid (RS.start hD)
  obtain ⟨c0, c1, hk0⟩ := dcByte_ok hD.r h
  clear hk0
  obtain ⟨r, hr⟩ : ∃ r : Int, c % 8 = r := ⟨_, rfl⟩
  obtain ⟨cd, hcd⟩ : ∃ cd : Int, c % 16 = cd := ⟨_, rfl⟩
  have a7 : bits .and .u8 c 7 = r := by rw [u8_and7 c0 (by omega), hr]
  have a15 : bits .and .u8 c 15 = cd := by rw [u8_and15' c0 (by omega), hcd]
  have qr : wrap64 r = r := by unfold wrap64; omega
  have qd : wrap64 cd = cd := by unfold wrap64; omega
  have f0 : (c == 15) = false := by simp; omega
  have f1 : decide (c < 64) = false := by simp; omega
  have f2 : decide (c < 72) = false := by simp; omega
  have f3 : decide (c < 80) = false := by simp; omega
  have f4 : decide (c < 88) = false := by simp; omega
  have f5 : decide (c < 96) = false := by simp; omega
  have f6 : decide (112 ≤ c) = false := by simp; omega
  have f7 : decide (176 ≤ c) = false := by simp; omega
  have f8 : decide (184 ≤ c) = false := by simp; omega
  have Kc := Lib.hid (And.intro c0 c1)
  have HP2 := Lib.hid (fun (w1 : World) (hd1 : IsDec w1 d v L g k) => by have := byte_any d g k v L w1 hd1; rw [h] at this; exact this)
  have HP3 := Lib.hid (fun (w1 : World) (hd1 : IsDec w1 d v L g k1) => by have := moves_any d g k1 v L c w1 hd1 Kc.out.1 Kc.out.2; rw [h4] at this; exact this)
  clear hD h c0 c1 hc hr hcd h4
  go_enter Try.func27, Try.ntmps27
  go_wp2_with (first | (have _t := S1; clear _t; go_at_call 32; refine (HP2.out _ (S1.out).dd).mono ?_; rintro e w2 ⟨rfl, hD2, hu⟩; have S2 := Lib.hid ((S1.out).step hD2 hu); clear hD2 hu S1) | (have _t := S2; clear _t; go_at_call 39; refine (HP3.out _ (S2.out).dd).mono ?_; rintro e w3 ⟨rfl, hu⟩))
  exact ⟨rfl, rfl, (S2.out).uu.also hu (by simp)⟩

set_option maxRecDepth 100000 in
set_option maxHeartbeats 2000000 in
theorem insn_ma2 (d g k : Nat) (v : Value) (L : List Int) (w : World) (hD : IsDec w d v L g k) (c : Int) (k1 : Nat) (h : dcByte L k = .ok c k1) (hc : 96 ≤ c ∧ c < 112) (i : Ins) (k2 : Nat) (h4 : dcMoves L c k1 = .ok i k2) :
    Calls Try.prog 27 #[.pointer (some ⟨d, 0, none⟩)] w (DAns d v L g w (.ok i k2) Ins.val) := by
  have HD := Lib.hid hD
  have S1 := Lib.hid (RS.start hD)
  obtain ⟨c0, c1, hk0⟩ := dcByte_ok hD.r h
  clear hk0
  obtain ⟨r, hr⟩ : ∃ r : Int, c % 8 = r := ⟨_, rfl⟩
  obtain ⟨cd, hcd⟩ : ∃ cd : Int, c % 16 = cd := ⟨_, rfl⟩
  have a7 : bits .and .u8 c 7 = r := by rw [u8_and7 c0 (by omega), hr]
  have a15 : bits .and .u8 c 15 = cd := by rw [u8_and15' c0 (by omega), hcd]
  have qr : wrap64 r = r := by unfold wrap64; omega
  have qd : wrap64 cd = cd := by unfold wrap64; omega
  have f0 : (c == 15) = false := by simp; omega
  have f1 : decide (c < 64) = false := by simp; omega
  have f2 : decide (c < 72) = false := by simp; omega
  have f3 : decide (c < 80) = false := by simp; omega
  have f4 : decide (c < 88) = false := by simp; omega
  have f5 : decide (c < 96) = false := by simp; omega
  have f6 : decide (112 ≤ c) = false := by simp; omega
  have f7 : decide (176 ≤ c) = false := by simp; omega
  have f8 : decide (184 ≤ c) = false := by simp; omega
  have Kc := Lib.hid (And.intro c0 c1)
  have HP2 := Lib.hid (fun (w1 : World) (hd1 : IsDec w1 d v L g k) => by have := byte_any d g k v L w1 hd1; rw [h] at this; exact this)
  have HP3 := Lib.hid (fun (w1 : World) (hd1 : IsDec w1 d v L g k1) => by have := moves_any d g k1 v L c w1 hd1 Kc.out.1 Kc.out.2; rw [h4] at this; exact this)
  clear hD h c0 c1 hc hr hcd h4
  go_enter Try.func27, Try.ntmps27
  go_wp2_with (first | (have _t := S1; clear _t; go_at_call 32; refine (HP2.out _ (S1.out).dd).mono ?_; rintro e w2 ⟨rfl, hD2, hu⟩; have S2 := Lib.hid ((S1.out).step hD2 hu); clear hD2 hu S1) | (have _t := S2; clear _t; go_at_call 39; refine (HP3.out _ (S2.out).dd).mono ?_; rintro e w3 ⟨rfl, hD3, hu⟩; have S3 := Lib.hid ((S2.out).step hD3 hu); clear hD3 hu S2) | (have _t := S3; clear _t; refine at_store 38 rfl ?_; refine wpList_store_ins i w.heap.size rfl _ _ rfl rfl rfl (S3.out).rr rfl ?_; intro w4 hw; have S4 := Lib.hid ((S3.out).store HD.out rfl hw); clear hw S3))
  exact bodyPost_ret (results_one' rfl (res_ins 2 w.heap.size _ rfl S4.out.rr)) rfl ⟨rfl, S4.out.dd, S4.out.uu⟩

set_option maxRecDepth 100000 in
set_option maxHeartbeats 2000000 in
theorem insn_mb1 (d g k : Nat) (v : Value) (L : List Int) (w : World) (hD : IsDec w d v L g k) (c : Int) (k1 : Nat) (h : dcByte L k = .ok c k1) (hc : 128 ≤ c ∧ c < 176) (e : Int) (h4 : dcMoves L c k1 = .err e) :
    Calls Try.prog 27 #[.pointer (some ⟨d, 0, none⟩)] w (DAns d v L g w (.err e) Ins.val) := by
  have HD := Lib.hid hD
  have S1 := Lib.hid (RS.start hD)
  obtain ⟨c0, c1, hk0⟩ := dcByte_ok hD.r h
  clear hk0
  obtain ⟨r, hr⟩ : ∃ r : Int, c % 8 = r := ⟨_, rfl⟩
  obtain ⟨cd, hcd⟩ : ∃ cd : Int, c % 16 = cd := ⟨_, rfl⟩
  have a7 : bits .and .u8 c 7 = r := by rw [u8_and7 c0 (by omega), hr]
  have a15 : bits .and .u8 c 15 = cd := by rw [u8_and15' c0 (by omega), hcd]
  have qr : wrap64 r = r := by unfold wrap64; omega
  have qd : wrap64 cd = cd := by unfold wrap64; omega
  have f0 : (c == 15) = false := by simp; omega
  have f1 : decide (c < 64) = false := by simp; omega
  have f2 : decide (c < 72) = false := by simp; omega
  have f3 : decide (c < 80) = false := by simp; omega
  have f4 : decide (c < 88) = false := by simp; omega
  have f5 : decide (c < 96) = false := by simp; omega
  have f6 : decide (112 ≤ c) = true := by simp; omega
  have f7 : decide (c < 128) = false := by simp; omega
  have f8 : decide (176 ≤ c) = false := by simp; omega
  have f9 : decide (184 ≤ c) = false := by simp; omega
  have Kc := Lib.hid (And.intro c0 c1)
  have HP2 := Lib.hid (fun (w1 : World) (hd1 : IsDec w1 d v L g k) => by have := byte_any d g k v L w1 hd1; rw [h] at this; exact this)
  have HP3 := Lib.hid (fun (w1 : World) (hd1 : IsDec w1 d v L g k1) => by have := moves_any d g k1 v L c w1 hd1 Kc.out.1 Kc.out.2; rw [h4] at this; exact this)
  clear hD h c0 c1 hc hr hcd h4
  go_enter Try.func27, Try.ntmps27
  go_wp2_with (first | (have _t := S1; clear _t; go_at_call 32; refine (HP2.out _ (S1.out).dd).mono ?_; rintro e w2 ⟨rfl, hD2, hu⟩; have S2 := Lib.hid ((S1.out).step hD2 hu); clear hD2 hu S1) | (have _t := S2; clear _t; go_at_call 39; refine (HP3.out _ (S2.out).dd).mono ?_; rintro e w3 ⟨rfl, hu⟩))
  exact ⟨rfl, rfl, (S2.out).uu.also hu (by simp)⟩

set_option maxRecDepth 100000 in
set_option maxHeartbeats 2000000 in
theorem insn_mb2 (d g k : Nat) (v : Value) (L : List Int) (w : World) (hD : IsDec w d v L g k) (c : Int) (k1 : Nat) (h : dcByte L k = .ok c k1) (hc : 128 ≤ c ∧ c < 176) (i : Ins) (k2 : Nat) (h4 : dcMoves L c k1 = .ok i k2) :
    Calls Try.prog 27 #[.pointer (some ⟨d, 0, none⟩)] w (DAns d v L g w (.ok i k2) Ins.val) := by
  have HD := Lib.hid hD
  have S1 := Lib.hid (RS.start hD)
  obtain ⟨c0, c1, hk0⟩ := dcByte_ok hD.r h
  clear hk0
  obtain ⟨r, hr⟩ : ∃ r : Int, c % 8 = r := ⟨_, rfl⟩
  obtain ⟨cd, hcd⟩ : ∃ cd : Int, c % 16 = cd := ⟨_, rfl⟩
  have a7 : bits .and .u8 c 7 = r := by rw [u8_and7 c0 (by omega), hr]
  have a15 : bits .and .u8 c 15 = cd := by rw [u8_and15' c0 (by omega), hcd]
  have qr : wrap64 r = r := by unfold wrap64; omega
  have qd : wrap64 cd = cd := by unfold wrap64; omega
  have f0 : (c == 15) = false := by simp; omega
  have f1 : decide (c < 64) = false := by simp; omega
  have f2 : decide (c < 72) = false := by simp; omega
  have f3 : decide (c < 80) = false := by simp; omega
  have f4 : decide (c < 88) = false := by simp; omega
  have f5 : decide (c < 96) = false := by simp; omega
  have f6 : decide (112 ≤ c) = true := by simp; omega
  have f7 : decide (c < 128) = false := by simp; omega
  have f8 : decide (176 ≤ c) = false := by simp; omega
  have f9 : decide (184 ≤ c) = false := by simp; omega
  have Kc := Lib.hid (And.intro c0 c1)
  have HP2 := Lib.hid (fun (w1 : World) (hd1 : IsDec w1 d v L g k) => by have := byte_any d g k v L w1 hd1; rw [h] at this; exact this)
  have HP3 := Lib.hid (fun (w1 : World) (hd1 : IsDec w1 d v L g k1) => by have := moves_any d g k1 v L c w1 hd1 Kc.out.1 Kc.out.2; rw [h4] at this; exact this)
  clear hD h c0 c1 hc hr hcd h4
  go_enter Try.func27, Try.ntmps27
  go_wp2_with (first | (have _t := S1; clear _t; go_at_call 32; refine (HP2.out _ (S1.out).dd).mono ?_; rintro e w2 ⟨rfl, hD2, hu⟩; have S2 := Lib.hid ((S1.out).step hD2 hu); clear hD2 hu S1) | (have _t := S2; clear _t; go_at_call 39; refine (HP3.out _ (S2.out).dd).mono ?_; rintro e w3 ⟨rfl, hD3, hu⟩; have S3 := Lib.hid ((S2.out).step hD3 hu); clear hD3 hu S2) | (have _t := S3; clear _t; refine at_store 38 rfl ?_; refine wpList_store_ins i w.heap.size rfl _ _ rfl rfl rfl (S3.out).rr rfl ?_; intro w4 hw; have S4 := Lib.hid ((S3.out).store HD.out rfl hw); clear hw S3))
  exact bodyPost_ret (results_one' rfl (res_ins 2 w.heap.size _ rfl S4.out.rr)) rfl ⟨rfl, S4.out.dd, S4.out.uu⟩

set_option maxRecDepth 100000 in
set_option maxHeartbeats 2000000 in
theorem insn_mc1 (d g k : Nat) (v : Value) (L : List Int) (w : World) (hD : IsDec w d v L g k) (c : Int) (k1 : Nat) (h : dcByte L k = .ok c k1) (hc : 192 ≤ c) (e : Int) (h4 : dcMoves L c k1 = .err e) :
    Calls Try.prog 27 #[.pointer (some ⟨d, 0, none⟩)] w (DAns d v L g w (.err e) Ins.val) := by
  have HD := Lib.hid hD
  have S1 := Lib.hid (RS.start hD)
  obtain ⟨c0, c1, hk0⟩ := dcByte_ok hD.r h
  clear hk0
  obtain ⟨r, hr⟩ : ∃ r : Int, c % 8 = r := ⟨_, rfl⟩
  obtain ⟨cd, hcd⟩ : ∃ cd : Int, c % 16 = cd := ⟨_, rfl⟩
  have a7 : bits .and .u8 c 7 = r := by rw [u8_and7 c0 (by omega), hr]
  have a15 : bits .and .u8 c 15 = cd := by rw [u8_and15' c0 (by omega), hcd]
  have qr : wrap64 r = r := by unfold wrap64; omega
  have qd : wrap64 cd = cd := by unfold wrap64; omega
  have f0 : (c == 15) = false := by simp; omega
  have f1 : decide (c < 64) = false := by simp; omega
  have f2 : decide (c < 72) = false := by simp; omega
  have f3 : decide (c < 80) = false := by simp; omega
  have f4 : decide (c < 88) = false := by simp; omega
  have f5 : decide (c < 96) = false := by simp; omega
  have f6 : decide (112 ≤ c) = true := by simp; omega
  have f7 : decide (c < 128) = false := by simp; omega
  have f8 : decide (176 ≤ c) = true := by simp; omega
  have f9 : decide (c < 184) = false := by simp; omega
  have f10 : decide (184 ≤ c) = true := by simp; omega
  have f11 : decide (c < 192) = false := by simp; omega
  have Kc := Lib.hid (And.intro c0 c1)
  have HP2 := Lib.hid (fun (w1 : World) (hd1 : IsDec w1 d v L g k) => by have := byte_any d g k v L w1 hd1; rw [h] at this; exact this)
  have HP3 := Lib.hid (fun (w1 : World) (hd1 : IsDec w1 d v L g k1) => by have := moves_any d g k1 v L c w1 hd1 Kc.out.1 Kc.out.2; rw [h4] at this; exact this)
  clear hD h c0 c1 hc hr hcd h4
  go_enter Try.func27, Try.ntmps27
  go_wp2_with (first | (have _t := S1; clear _t; go_at_call 32; refine (HP2.out _ (S1.out).dd).mono ?_; rintro e w2 ⟨rfl, hD2, hu⟩; have S2 := Lib.hid ((S1.out).step hD2 hu); clear hD2 hu S1) | (have _t := S2; clear _t; go_at_call 39; refine (HP3.out _ (S2.out).dd).mono ?_; rintro e w3 ⟨rfl, hu⟩))
  exact ⟨rfl, rfl, (S2.out).uu.also hu (by simp)⟩

set_option maxRecDepth 100000 in
set_option maxHeartbeats 2000000 in
theorem insn_mc2 (d g k : Nat) (v : Value) (L : List Int) (w : World) (hD : IsDec w d v L g k) (c : Int) (k1 : Nat) (h : dcByte L k = .ok c k1) (hc : 192 ≤ c) (i : Ins) (k2 : Nat) (h4 : dcMoves L c k1 = .ok i k2) :
    Calls Try.prog 27 #[.pointer (some ⟨d, 0, none⟩)] w (DAns d v L g w (.ok i k2) Ins.val) := by
  have HD := Lib.hid hD
  have S1 := Lib.hid (RS.start hD)
  obtain ⟨c0, c1, hk0⟩ := dcByte_ok hD.r h
  clear hk0
  obtain ⟨r, hr⟩ : ∃ r : Int, c % 8 = r := ⟨_, rfl⟩
  obtain ⟨cd, hcd⟩ : ∃ cd : Int, c % 16 = cd := ⟨_, rfl⟩
  have a7 : bits .and .u8 c 7 = r := by rw [u8_and7 c0 (by omega), hr]
  have a15 : bits .and .u8 c 15 = cd := by rw [u8_and15' c0 (by omega), hcd]
  have qr : wrap64 r = r := by unfold wrap64; omega
  have qd : wrap64 cd = cd := by unfold wrap64; omega
  have f0 : (c == 15) = false := by simp; omega
  have f1 : decide (c < 64) = false := by simp; omega
  have f2 : decide (c < 72) = false := by simp; omega
  have f3 : decide (c < 80) = false := by simp; omega
  have f4 : decide (c < 88) = false := by simp; omega
  have f5 : decide (c < 96) = false := by simp; omega
  have f6 : decide (112 ≤ c) = true := by simp; omega
  have f7 : decide (c < 128) = false := by simp; omega
  have f8 : decide (176 ≤ c) = true := by simp; omega
  have f9 : decide (c < 184) = false := by simp; omega
  have f10 : decide (184 ≤ c) = true := by simp; omega
  have f11 : decide (c < 192) = false := by simp; omega
  have Kc := Lib.hid (And.intro c0 c1)
  have HP2 := Lib.hid (fun (w1 : World) (hd1 : IsDec w1 d v L g k) => by have := byte_any d g k v L w1 hd1; rw [h] at this; exact this)
  have HP3 := Lib.hid (fun (w1 : World) (hd1 : IsDec w1 d v L g k1) => by have := moves_any d g k1 v L c w1 hd1 Kc.out.1 Kc.out.2; rw [h4] at this; exact this)
  clear hD h c0 c1 hc hr hcd h4
  go_enter Try.func27, Try.ntmps27
  go_wp2_with (first | (have _t := S1; clear _t; go_at_call 32; refine (HP2.out _ (S1.out).dd).mono ?_; rintro e w2 ⟨rfl, hD2, hu⟩; have S2 := Lib.hid ((S1.out).step hD2 hu); clear hD2 hu S1) | (have _t := S2; clear _t; go_at_call 39; refine (HP3.out _ (S2.out).dd).mono ?_; rintro e w3 ⟨rfl, hD3, hu⟩; have S3 := Lib.hid ((S2.out).step hD3 hu); clear hD3 hu S2) | (have _t := S3; clear _t; refine at_store 38 rfl ?_; refine wpList_store_ins i w.heap.size rfl _ _ rfl rfl rfl (S3.out).rr rfl ?_; intro w4 hw; have S4 := Lib.hid ((S3.out).store HD.out rfl hw); clear hw S3))
  exact bodyPost_ret (results_one' rfl (res_ins 2 w.heap.size _ rfl S4.out.rr)) rfl ⟨rfl, S4.out.dd, S4.out.uu⟩

theorem insn_any (d g k : Nat) (v : Value) (L : List Int) (w : World) (hD : IsDec w d v L g k) :
    Calls Try.prog 27 #[.pointer (some ⟨d, 0, none⟩)] w (DAns d v L g w (dcInsn L k) Ins.val) := by
  unfold dcInsn
  cases h : dcByte L k with
  | err e => exact insn_1 d g k v L w hD e h
  | ok c k1 =>
    rw [DR.bind_ok]
    unfold dcRest
    by_cases h15 : c = 15
    · rw [if_pos h15]
      cases h4 : dcSecond L k1 with
      | err e => exact insn_2 d g k v L w hD c k1 h h15 e h4
      | ok i k2 => exact insn_3 d g k v L w hD c k1 h h15 i k2 h4
    rw [if_neg h15]
    by_cases h64 : c < 64
    · rw [if_pos h64]
      cases h4 : dcRow L c k1 with
      | err e => exact insn_4 d g k v L w hD c k1 h ⟨h64, h15⟩ e h4
      | ok i k2 => exact insn_5 d g k v L w hD c k1 h ⟨h64, h15⟩ i k2 h4
    rw [if_neg h64]
    by_cases h72 : c < 72
    · rw [if_pos h72]; exact insn_r12 d g k v L w hD c k1 h ⟨by omega, h72⟩
    rw [if_neg h72]
    by_cases h80 : c < 80
    · rw [if_pos h80]; exact insn_r13 d g k v L w hD c k1 h ⟨by omega, h80⟩
    rw [if_neg h80]
    by_cases h88 : c < 88
    · rw [if_pos h88]; exact insn_r28 d g k v L w hD c k1 h ⟨by omega, h88⟩
    rw [if_neg h88]
    by_cases h96 : c < 96
    · rw [if_pos h96]; exact insn_r29 d g k v L w hD c k1 h ⟨by omega, h96⟩
    rw [if_neg h96]
    by_cases ha : 112 ≤ c ∧ c < 128
    · rw [if_pos ha]
      cases h4 : dcImm8 L k1 with
      | err e => exact insn_6 d g k v L w hD c k1 h ha e h4
      | ok i k2 => exact insn_7 d g k v L w hD c k1 h ha i k2 h4
    rw [if_neg ha]
    by_cases hb : 176 ≤ c ∧ c < 184
    · rw [if_pos hb]
      cases h4 : dcSmall L k1 with
      | err e => exact insn_8 d g k v L w hD c k1 h hb e h4
      | ok i k2 => exact insn_9 d g k v L w hD c k1 h hb i k2 h4
    rw [if_neg hb]
    by_cases hc : 184 ≤ c ∧ c < 192
    · rw [if_pos hc]
      cases h4 : dcImm32 L k1 with
      | err e => exact insn_10 d g k v L w hD c k1 h hc e h4
      | ok i k2 => exact insn_11 d g k v L w hD c k1 h hc i k2 h4
    rw [if_neg hc]
    by_cases hd : c < 112
    · have hh : 96 ≤ c ∧ c < 112 := by omega
      cases h4 : dcMoves L c k1 with
      | err e => exact insn_ma1 d g k v L w hD c k1 h hh e h4
      | ok i k2 => exact insn_ma2 d g k v L w hD c k1 h hh i k2 h4
    by_cases he : c < 176
    · have hh : 128 ≤ c ∧ c < 176 := by omega
      cases h4 : dcMoves L c k1 with
      | err e => exact insn_mb1 d g k v L w hD c k1 h hh e h4
      | ok i k2 => exact insn_mb2 d g k v L w hD c k1 h hh i k2 h4
    have hh : 192 ≤ c := by omega
    cases h4 : dcMoves L c k1 with
    | err e => exact insn_mc1 d g k v L w hD c k1 h hh e h4
    | ok i k2 => exact insn_mc2 d g k v L w hD c k1 h hh i k2 h4

end Go.Proofs.Yteiplidhkelkbaa
