/-
  Parts of the proof (their names shortened by a program). No condition.
-/
import Derived.Test.YthakgjpejhjaoaaGreatMg01
import Derived.Test.YthakgjpejhjaoaaGreatMg15
import Derived.Recover
namespace Go.Proofs.YthakgjpejhjaoaaGreat
open Go Go.RowKit
set_option linter.unusedVariables false
set_option linter.unusedSimpArgs false
set_option maxRecDepth 100000
set_option maxHeartbeats 16000000
theorem Ybl {c : Int} (h0 : 0 ≤ c) (h1 : c < 256) : bits .and .u8 c 15 = c % 16 := by
 obtain ⟨c, rfl⟩ := Int.eq_ofNat_of_zero_le h0
 have h := u8_and_nat c 15 (by omega) (by decide)
 rw [show (15 : Nat) = 2 ^ 4 - 1 from rfl, Nat.and_two_pow_sub_one_eq_mod] at h
 exact h
theorem insn_1 (d g k : Nat) (v : Value) (L : List Int) (w : World) (hD : Yc w d v L g k) (e : Int) (h : Yw L k = .err e) :
  Calls Tryz.prog 56 #[.pointer (some ⟨d, 0, none⟩)] w (Yl d v L g w (.err e) Ins.val) := by
 have HD := Yh_ hD
 have S1 := Yh_ (RS.start hD)
 have HP2 := Yh_ (fun (w1 : World) (hd1 : Yc w1 d v L g k) => by have := Yx d g k v L w1 hd1; rw [h] at this; exact this)
 clear hD h
 go_enter Tryz.func56, Tryz.ntmps56
 go_wp2_with (have _t := S1; clear _t; go_at_call 86; refine (HP2.out _ (S1.out).dd).mono ?_; rintro e w2 ⟨rfl, hu⟩)
 exact ⟨rfl, rfl, (S1.out).uu.also hu (by simp)⟩
theorem insn_2 (d g k : Nat) (v : Value) (L : List Int) (w : World) (hD : Yc w d v L g k) (c : Int) (k1 : Nat) (h : Yw L k = .ok c k1) (hc : c = 15) (e : Int) (h4 : Yew L k1 = .err e) :
  Calls Tryz.prog 56 #[.pointer (some ⟨d, 0, none⟩)] w (Yl d v L g w (.err e) Ins.val) := by
 have HD := Yh_ hD
 have S1 := Yh_ (RS.start hD)
 obtain ⟨c0, c1, hk0⟩ := Yz hD.r h
 clear hk0
 obtain ⟨r, hr⟩ : ∃ r : Int, c % 8 = r := ⟨_, rfl⟩
 obtain ⟨cd, hcd⟩ : ∃ cd : Int, c % 16 = cd := ⟨_, rfl⟩
 have a7 : bits .and .u8 c 7 = r := by rw [Ybh c0 (by omega), hr]
 have a15 : bits .and .u8 c 15 = cd := by rw [Ybl c0 (by omega), hcd]
 have qr : wrap64 r = r := by unfold wrap64; omega
 have qd : wrap64 cd = cd := by unfold wrap64; omega
 have f0 : (c == 15) = true := by simp; omega
 have HP2 := Yh_ (fun (w1 : World) (hd1 : Yc w1 d v L g k) => by have := Yx d g k v L w1 hd1; rw [h] at this; exact this)
 have HP3 := Yh_ (fun (w1 : World) (hd1 : Yc w1 d v L g k1) => by have := Yiz d g k1 v L w1 hd1; rw [h4] at this; exact this)
 clear hD h c0 c1 hc hr hcd h4
 go_enter Tryz.func56, Tryz.ntmps56
 go_wp2_with (first | (have _t := S1; clear _t; go_at_call 86; refine (HP2.out _ (S1.out).dd).mono ?_; rintro e w2 ⟨rfl, hD2, hu⟩; have S2 := Yh_ ((S1.out).step hD2 hu); clear hD2 hu S1) | (have _t := S2; clear _t; go_at_call 87; refine (HP3.out _ (S2.out).dd).mono ?_; rintro e w3 ⟨rfl, hu⟩))
 exact ⟨rfl, rfl, (S2.out).uu.also hu (by simp)⟩
theorem insn_3 (d g k : Nat) (v : Value) (L : List Int) (w : World) (hD : Yc w d v L g k) (c : Int) (k1 : Nat) (h : Yw L k = .ok c k1) (hc : c = 15) (i : Ins) (k2 : Nat) (h4 : Yew L k1 = .ok i k2) :
  Calls Tryz.prog 56 #[.pointer (some ⟨d, 0, none⟩)] w (Yl d v L g w (.ok i k2) Ins.val) := by
 have HD := Yh_ hD
 have S1 := Yh_ (RS.start hD)
 obtain ⟨c0, c1, hk0⟩ := Yz hD.r h
 clear hk0
 obtain ⟨r, hr⟩ : ∃ r : Int, c % 8 = r := ⟨_, rfl⟩
 obtain ⟨cd, hcd⟩ : ∃ cd : Int, c % 16 = cd := ⟨_, rfl⟩
 have a7 : bits .and .u8 c 7 = r := by rw [Ybh c0 (by omega), hr]
 have a15 : bits .and .u8 c 15 = cd := by rw [Ybl c0 (by omega), hcd]
 have qr : wrap64 r = r := by unfold wrap64; omega
 have qd : wrap64 cd = cd := by unfold wrap64; omega
 have f0 : (c == 15) = true := by simp; omega
 have HP2 := Yh_ (fun (w1 : World) (hd1 : Yc w1 d v L g k) => by have := Yx d g k v L w1 hd1; rw [h] at this; exact this)
 have HP3 := Yh_ (fun (w1 : World) (hd1 : Yc w1 d v L g k1) => by have := Yiz d g k1 v L w1 hd1; rw [h4] at this; exact this)
 clear hD h c0 c1 hc hr hcd h4
 go_enter Tryz.func56, Tryz.ntmps56
 go_wp2_with (first | (have _t := S1; clear _t; go_at_call 86; refine (HP2.out _ (S1.out).dd).mono ?_; rintro e w2 ⟨rfl, hD2, hu⟩; have S2 := Yh_ ((S1.out).step hD2 hu); clear hD2 hu S1) | (have _t := S2; clear _t; go_at_call 87; refine (HP3.out _ (S2.out).dd).mono ?_; rintro e w3 ⟨rfl, hD3, hu⟩; have S3 := Yh_ ((S2.out).step hD3 hu); clear hD3 hu S2) | (have _t := S3; clear _t; refine Ye 41 rfl ?_; refine Yd i w.heap.size rfl _ _ rfl rfl rfl (S3.out).rr rfl ?_; intro w4 hw; have S4 := Yh_ ((S3.out).store HD.out rfl hw); clear hw S3))
 exact bodyPost_ret (Yf rfl (Ys 2 w.heap.size _ rfl S4.out.rr)) rfl ⟨rfl, S4.out.dd, S4.out.uu⟩
theorem insn_4 (d g k : Nat) (v : Value) (L : List Int) (w : World) (hD : Yc w d v L g k) (c : Int) (k1 : Nat) (h : Yw L k = .ok c k1) (hc : c < 64 ∧ c ≠ 15) (e : Int) (h4 : Yhp L c k1 = .err e) :
  Calls Tryz.prog 56 #[.pointer (some ⟨d, 0, none⟩)] w (Yl d v L g w (.err e) Ins.val) := by
 have HD := Yh_ hD
 have S1 := Yh_ (RS.start hD)
 obtain ⟨c0, c1, hk0⟩ := Yz hD.r h
 clear hk0
 obtain ⟨r, hr⟩ : ∃ r : Int, c % 8 = r := ⟨_, rfl⟩
 obtain ⟨cd, hcd⟩ : ∃ cd : Int, c % 16 = cd := ⟨_, rfl⟩
 have a7 : bits .and .u8 c 7 = r := by rw [Ybh c0 (by omega), hr]
 have a15 : bits .and .u8 c 15 = cd := by rw [Ybl c0 (by omega), hcd]
 have qr : wrap64 r = r := by unfold wrap64; omega
 have qd : wrap64 cd = cd := by unfold wrap64; omega
 have f0 : (c == 15) = false := by simp; omega
 have f1 : decide (c < 64) = true := by simp; omega
 have Kc := Yh_ (show 0 ≤ c ∧ c < 64 by omega)
 have HP2 := Yh_ (fun (w1 : World) (hd1 : Yc w1 d v L g k) => by have := Yx d g k v L w1 hd1; rw [h] at this; exact this)
 have HP3 := Yh_ (fun (w1 : World) (hd1 : Yc w1 d v L g k1) => by have := Yn6 d g k1 v L c w1 hd1 Kc.out; rw [h4] at this; exact this)
 clear hD h c0 c1 hc hr hcd h4
 go_enter Tryz.func56, Tryz.ntmps56
 go_wp2_with (first | (have _t := S1; clear _t; go_at_call 86; refine (HP2.out _ (S1.out).dd).mono ?_; rintro e w2 ⟨rfl, hD2, hu⟩; have S2 := Yh_ ((S1.out).step hD2 hu); clear hD2 hu S1) | (have _t := S2; clear _t; go_at_call 88; refine (HP3.out _ (S2.out).dd).mono ?_; rintro e w3 ⟨rfl, hu⟩))
 exact ⟨rfl, rfl, (S2.out).uu.also hu (by simp)⟩
theorem insn_5 (d g k : Nat) (v : Value) (L : List Int) (w : World) (hD : Yc w d v L g k) (c : Int) (k1 : Nat) (h : Yw L k = .ok c k1) (hc : c < 64 ∧ c ≠ 15) (i : Ins) (k2 : Nat) (h4 : Yhp L c k1 = .ok i k2) :
  Calls Tryz.prog 56 #[.pointer (some ⟨d, 0, none⟩)] w (Yl d v L g w (.ok i k2) Ins.val) := by
 have HD := Yh_ hD
 have S1 := Yh_ (RS.start hD)
 obtain ⟨c0, c1, hk0⟩ := Yz hD.r h
 clear hk0
 obtain ⟨r, hr⟩ : ∃ r : Int, c % 8 = r := ⟨_, rfl⟩
 obtain ⟨cd, hcd⟩ : ∃ cd : Int, c % 16 = cd := ⟨_, rfl⟩
 have a7 : bits .and .u8 c 7 = r := by rw [Ybh c0 (by omega), hr]
 have a15 : bits .and .u8 c 15 = cd := by rw [Ybl c0 (by omega), hcd]
 have qr : wrap64 r = r := by unfold wrap64; omega
 have qd : wrap64 cd = cd := by unfold wrap64; omega
 have f0 : (c == 15) = false := by simp; omega
 have f1 : decide (c < 64) = true := by simp; omega
 have Kc := Yh_ (show 0 ≤ c ∧ c < 64 by omega)
 have HP2 := Yh_ (fun (w1 : World) (hd1 : Yc w1 d v L g k) => by have := Yx d g k v L w1 hd1; rw [h] at this; exact this)
 have HP3 := Yh_ (fun (w1 : World) (hd1 : Yc w1 d v L g k1) => by have := Yn6 d g k1 v L c w1 hd1 Kc.out; rw [h4] at this; exact this)
 clear hD h c0 c1 hc hr hcd h4
 go_enter Tryz.func56, Tryz.ntmps56
 go_wp2_with (first | (have _t := S1; clear _t; go_at_call 86; refine (HP2.out _ (S1.out).dd).mono ?_; rintro e w2 ⟨rfl, hD2, hu⟩; have S2 := Yh_ ((S1.out).step hD2 hu); clear hD2 hu S1) | (have _t := S2; clear _t; go_at_call 88; refine (HP3.out _ (S2.out).dd).mono ?_; rintro e w3 ⟨rfl, hD3, hu⟩; have S3 := Yh_ ((S2.out).step hD3 hu); clear hD3 hu S2) | (have _t := S3; clear _t; refine Ye 41 rfl ?_; refine Yd i w.heap.size rfl _ _ rfl rfl rfl (S3.out).rr rfl ?_; intro w4 hw; have S4 := Yh_ ((S3.out).store HD.out rfl hw); clear hw S3))
 exact bodyPost_ret (Yf rfl (Ys 2 w.heap.size _ rfl S4.out.rr)) rfl ⟨rfl, S4.out.dd, S4.out.uu⟩
theorem insn_r12 (d g k : Nat) (v : Value) (L : List Int) (w : World) (hD : Yc w d v L g k) (c : Int) (k1 : Nat) (h : Yw L k = .ok c k1) (hc : 64 ≤ c ∧ c < 72)  :
  Calls Tryz.prog 56 #[.pointer (some ⟨d, 0, none⟩)] w (Yl d v L g w (.ok ⟨12, 0, Yam (c % 8), Opd.none, false, 0⟩ k1) Ins.val) := by
 have HD := Yh_ hD
 have S1 := Yh_ (RS.start hD)
 obtain ⟨c0, c1, hk0⟩ := Yz hD.r h
 clear hk0
 obtain ⟨r, hr⟩ : ∃ r : Int, c % 8 = r := ⟨_, rfl⟩
 obtain ⟨cd, hcd⟩ : ∃ cd : Int, c % 16 = cd := ⟨_, rfl⟩
 have a7 : bits .and .u8 c 7 = r := by rw [Ybh c0 (by omega), hr]
 have a15 : bits .and .u8 c 15 = cd := by rw [Ybl c0 (by omega), hcd]
 have qr : wrap64 r = r := by unfold wrap64; omega
 have qd : wrap64 cd = cd := by unfold wrap64; omega
 have f0 : (c == 15) = false := by simp; omega
 have f1 : decide (c < 64) = false := by simp; omega
 have f2 : decide (c < 72) = true := by simp; omega
 rw [hr]
 have HP2 := Yh_ (fun (w1 : World) (hd1 : Yc w1 d v L g k) => by have := Yx d g k v L w1 hd1; rw [h] at this; exact this)
 clear hD h c0 c1 hc hr hcd
 go_enter Tryz.func56, Tryz.ntmps56
 go_wp2_with (first | (have _t := S1; clear _t; go_at_call 86; refine (HP2.out _ (S1.out).dd).mono ?_; rintro e w2 ⟨rfl, hD2, hu⟩; have S2 := Yh_ ((S1.out).step hD2 hu); clear hD2 hu S1) | (have _t := S2; clear _t; go_at_call 89; refine (Ybv r _).mono ?_; rintro e w3 ⟨rfl, hu⟩; unfold Opd.val Yam; have S3 := Yh_ ((S2.out).same hu); clear hu S2) | (have _t := S3; clear _t; refine Ye 41 rfl ?_; refine Yd ⟨12, 0, Yam r, Opd.none, false, 0⟩ w.heap.size rfl _ _ rfl rfl rfl (S3.out).rr rfl ?_; intro w4 hw; have S4 := Yh_ ((S3.out).store HD.out rfl hw); clear hw S3))
 exact bodyPost_ret (Yf rfl (Ys 2 w.heap.size _ rfl S4.out.rr)) rfl ⟨rfl, S4.out.dd, S4.out.uu⟩
theorem insn_r13 (d g k : Nat) (v : Value) (L : List Int) (w : World) (hD : Yc w d v L g k) (c : Int) (k1 : Nat) (h : Yw L k = .ok c k1) (hc : 72 ≤ c ∧ c < 80)  :
  Calls Tryz.prog 56 #[.pointer (some ⟨d, 0, none⟩)] w (Yl d v L g w (.ok ⟨13, 0, Yam (c % 8), Opd.none, false, 0⟩ k1) Ins.val) := by
 have HD := Yh_ hD
 have S1 := Yh_ (RS.start hD)
 obtain ⟨c0, c1, hk0⟩ := Yz hD.r h
 clear hk0
 obtain ⟨r, hr⟩ : ∃ r : Int, c % 8 = r := ⟨_, rfl⟩
 obtain ⟨cd, hcd⟩ : ∃ cd : Int, c % 16 = cd := ⟨_, rfl⟩
 have a7 : bits .and .u8 c 7 = r := by rw [Ybh c0 (by omega), hr]
 have a15 : bits .and .u8 c 15 = cd := by rw [Ybl c0 (by omega), hcd]
 have qr : wrap64 r = r := by unfold wrap64; omega
 have qd : wrap64 cd = cd := by unfold wrap64; omega
 have f0 : (c == 15) = false := by simp; omega
 have f1 : decide (c < 64) = false := by simp; omega
 have f2 : decide (c < 72) = false := by simp; omega
 have f3 : decide (c < 80) = true := by simp; omega
 rw [hr]
 have HP2 := Yh_ (fun (w1 : World) (hd1 : Yc w1 d v L g k) => by have := Yx d g k v L w1 hd1; rw [h] at this; exact this)
 clear hD h c0 c1 hc hr hcd
 go_enter Tryz.func56, Tryz.ntmps56
 go_wp2_with (first | (have _t := S1; clear _t; go_at_call 86; refine (HP2.out _ (S1.out).dd).mono ?_; rintro e w2 ⟨rfl, hD2, hu⟩; have S2 := Yh_ ((S1.out).step hD2 hu); clear hD2 hu S1) | (have _t := S2; clear _t; go_at_call 89; refine (Ybv r _).mono ?_; rintro e w3 ⟨rfl, hu⟩; unfold Opd.val Yam; have S3 := Yh_ ((S2.out).same hu); clear hu S2) | (have _t := S3; clear _t; refine Ye 41 rfl ?_; refine Yd ⟨13, 0, Yam r, Opd.none, false, 0⟩ w.heap.size rfl _ _ rfl rfl rfl (S3.out).rr rfl ?_; intro w4 hw; have S4 := Yh_ ((S3.out).store HD.out rfl hw); clear hw S3))
 exact bodyPost_ret (Yf rfl (Ys 2 w.heap.size _ rfl S4.out.rr)) rfl ⟨rfl, S4.out.dd, S4.out.uu⟩
theorem insn_r28 (d g k : Nat) (v : Value) (L : List Int) (w : World) (hD : Yc w d v L g k) (c : Int) (k1 : Nat) (h : Yw L k = .ok c k1) (hc : 80 ≤ c ∧ c < 88)  :
  Calls Tryz.prog 56 #[.pointer (some ⟨d, 0, none⟩)] w (Yl d v L g w (.ok ⟨28, 0, Yam (c % 8), Opd.none, false, 0⟩ k1) Ins.val) := by
 have HD := Yh_ hD
 have S1 := Yh_ (RS.start hD)
 obtain ⟨c0, c1, hk0⟩ := Yz hD.r h
 clear hk0
 obtain ⟨r, hr⟩ : ∃ r : Int, c % 8 = r := ⟨_, rfl⟩
 obtain ⟨cd, hcd⟩ : ∃ cd : Int, c % 16 = cd := ⟨_, rfl⟩
 have a7 : bits .and .u8 c 7 = r := by rw [Ybh c0 (by omega), hr]
 have a15 : bits .and .u8 c 15 = cd := by rw [Ybl c0 (by omega), hcd]
 have qr : wrap64 r = r := by unfold wrap64; omega
 have qd : wrap64 cd = cd := by unfold wrap64; omega
 have f0 : (c == 15) = false := by simp; omega
 have f1 : decide (c < 64) = false := by simp; omega
 have f2 : decide (c < 72) = false := by simp; omega
 have f3 : decide (c < 80) = false := by simp; omega
 have f4 : decide (c < 88) = true := by simp; omega
 rw [hr]
 have HP2 := Yh_ (fun (w1 : World) (hd1 : Yc w1 d v L g k) => by have := Yx d g k v L w1 hd1; rw [h] at this; exact this)
 clear hD h c0 c1 hc hr hcd
 go_enter Tryz.func56, Tryz.ntmps56
 go_wp2_with (first | (have _t := S1; clear _t; go_at_call 86; refine (HP2.out _ (S1.out).dd).mono ?_; rintro e w2 ⟨rfl, hD2, hu⟩; have S2 := Yh_ ((S1.out).step hD2 hu); clear hD2 hu S1) | (have _t := S2; clear _t; go_at_call 89; refine (Ybv r _).mono ?_; rintro e w3 ⟨rfl, hu⟩; unfold Opd.val Yam; have S3 := Yh_ ((S2.out).same hu); clear hu S2) | (have _t := S3; clear _t; refine Ye 41 rfl ?_; refine Yd ⟨28, 0, Yam r, Opd.none, false, 0⟩ w.heap.size rfl _ _ rfl rfl rfl (S3.out).rr rfl ?_; intro w4 hw; have S4 := Yh_ ((S3.out).store HD.out rfl hw); clear hw S3))
 exact bodyPost_ret (Yf rfl (Ys 2 w.heap.size _ rfl S4.out.rr)) rfl ⟨rfl, S4.out.dd, S4.out.uu⟩
theorem insn_r29 (d g k : Nat) (v : Value) (L : List Int) (w : World) (hD : Yc w d v L g k) (c : Int) (k1 : Nat) (h : Yw L k = .ok c k1) (hc : 88 ≤ c ∧ c < 96)  :
  Calls Tryz.prog 56 #[.pointer (some ⟨d, 0, none⟩)] w (Yl d v L g w (.ok ⟨29, 0, Yam (c % 8), Opd.none, false, 0⟩ k1) Ins.val) := by
 have HD := Yh_ hD
 have S1 := Yh_ (RS.start hD)
 obtain ⟨c0, c1, hk0⟩ := Yz hD.r h
 clear hk0
 obtain ⟨r, hr⟩ : ∃ r : Int, c % 8 = r := ⟨_, rfl⟩
 obtain ⟨cd, hcd⟩ : ∃ cd : Int, c % 16 = cd := ⟨_, rfl⟩
 have a7 : bits .and .u8 c 7 = r := by rw [Ybh c0 (by omega), hr]
 have a15 : bits .and .u8 c 15 = cd := by rw [Ybl c0 (by omega), hcd]
 have qr : wrap64 r = r := by unfold wrap64; omega
 have qd : wrap64 cd = cd := by unfold wrap64; omega
 have f0 : (c == 15) = false := by simp; omega
 have f1 : decide (c < 64) = false := by simp; omega
 have f2 : decide (c < 72) = false := by simp; omega
 have f3 : decide (c < 80) = false := by simp; omega
 have f4 : decide (c < 88) = false := by simp; omega
 have f5 : decide (c < 96) = true := by simp; omega
 rw [hr]
 have HP2 := Yh_ (fun (w1 : World) (hd1 : Yc w1 d v L g k) => by have := Yx d g k v L w1 hd1; rw [h] at this; exact this)
 clear hD h c0 c1 hc hr hcd
 go_enter Tryz.func56, Tryz.ntmps56
 go_wp2_with (first | (have _t := S1; clear _t; go_at_call 86; refine (HP2.out _ (S1.out).dd).mono ?_; rintro e w2 ⟨rfl, hD2, hu⟩; have S2 := Yh_ ((S1.out).step hD2 hu); clear hD2 hu S1) | (have _t := S2; clear _t; go_at_call 89; refine (Ybv r _).mono ?_; rintro e w3 ⟨rfl, hu⟩; unfold Opd.val Yam; have S3 := Yh_ ((S2.out).same hu); clear hu S2) | (have _t := S3; clear _t; refine Ye 41 rfl ?_; refine Yd ⟨29, 0, Yam r, Opd.none, false, 0⟩ w.heap.size rfl _ _ rfl rfl rfl (S3.out).rr rfl ?_; intro w4 hw; have S4 := Yh_ ((S3.out).store HD.out rfl hw); clear hw S3))
 exact bodyPost_ret (Yf rfl (Ys 2 w.heap.size _ rfl S4.out.rr)) rfl ⟨rfl, S4.out.dd, S4.out.uu⟩
theorem insn_6 (d g k : Nat) (v : Value) (L : List Int) (w : World) (hD : Yc w d v L g k) (c : Int) (k1 : Nat) (h : Yw L k = .ok c k1) (hc : 112 ≤ c ∧ c < 128) (e : Int) (h4 : Yb5 L k1 = .err e) :
  Calls Tryz.prog 56 #[.pointer (some ⟨d, 0, none⟩)] w (Yl d v L g w (.err e) Ins.val) := by
 have HD := Yh_ hD
 have S1 := Yh_ (RS.start hD)
 obtain ⟨c0, c1, hk0⟩ := Yz hD.r h
 clear hk0
 obtain ⟨r, hr⟩ : ∃ r : Int, c % 8 = r := ⟨_, rfl⟩
 obtain ⟨cd, hcd⟩ : ∃ cd : Int, c % 16 = cd := ⟨_, rfl⟩
 have a7 : bits .and .u8 c 7 = r := by rw [Ybh c0 (by omega), hr]
 have a15 : bits .and .u8 c 15 = cd := by rw [Ybl c0 (by omega), hcd]
 have qr : wrap64 r = r := by unfold wrap64; omega
 have qd : wrap64 cd = cd := by unfold wrap64; omega
 have f0 : (c == 15) = false := by simp; omega
 have f1 : decide (c < 64) = false := by simp; omega
 have f2 : decide (c < 72) = false := by simp; omega
 have f3 : decide (c < 80) = false := by simp; omega
 have f4 : decide (c < 88) = false := by simp; omega
 have f5 : decide (c < 96) = false := by simp; omega
 have f6 : decide (112 ≤ c) = true := by simp; omega
 have f7 : decide (c < 128) = true := by simp; omega
 have HP2 := Yh_ (fun (w1 : World) (hd1 : Yc w1 d v L g k) => by have := Yx d g k v L w1 hd1; rw [h] at this; exact this)
 have HP3 := Yh_ (fun (w1 : World) (hd1 : Yc w1 d v L g k1) => by have := Ydx d g k1 v L w1 hd1; rw [h4] at this; exact this)
 clear hD h c0 c1 hc hr hcd h4
 go_enter Tryz.func56, Tryz.ntmps56
 go_wp2_with (first | (have _t := S1; clear _t; go_at_call 86; refine (HP2.out _ (S1.out).dd).mono ?_; rintro e w2 ⟨rfl, hD2, hu⟩; have S2 := Yh_ ((S1.out).step hD2 hu); clear hD2 hu S1) | (have _t := S2; clear _t; go_at_call 90; refine (HP3.out _ (S2.out).dd).mono ?_; rintro e w3 ⟨rfl, hu⟩))
 exact ⟨rfl, rfl, (S2.out).uu.also hu (by simp)⟩
theorem insn_7 (d g k : Nat) (v : Value) (L : List Int) (w : World) (hD : Yc w d v L g k) (c : Int) (k1 : Nat) (h : Yw L k = .ok c k1) (hc : 112 ≤ c ∧ c < 128) (o : Opd) (k2 : Nat) (h4 : Yb5 L k1 = .ok o k2) :
  Calls Tryz.prog 56 #[.pointer (some ⟨d, 0, none⟩)] w (Yl d v L g w (.ok ⟨33, c % 16, o, Opd.none, false, 0⟩ k2) Ins.val) := by
 have HD := Yh_ hD
 have S1 := Yh_ (RS.start hD)
 obtain ⟨c0, c1, hk0⟩ := Yz hD.r h
 clear hk0
 obtain ⟨r, hr⟩ : ∃ r : Int, c % 8 = r := ⟨_, rfl⟩
 obtain ⟨cd, hcd⟩ : ∃ cd : Int, c % 16 = cd := ⟨_, rfl⟩
 have a7 : bits .and .u8 c 7 = r := by rw [Ybh c0 (by omega), hr]
 have a15 : bits .and .u8 c 15 = cd := by rw [Ybl c0 (by omega), hcd]
 have qr : wrap64 r = r := by unfold wrap64; omega
 have qd : wrap64 cd = cd := by unfold wrap64; omega
 have f0 : (c == 15) = false := by simp; omega
 have f1 : decide (c < 64) = false := by simp; omega
 have f2 : decide (c < 72) = false := by simp; omega
 have f3 : decide (c < 80) = false := by simp; omega
 have f4 : decide (c < 88) = false := by simp; omega
 have f5 : decide (c < 96) = false := by simp; omega
 have f6 : decide (112 ≤ c) = true := by simp; omega
 have f7 : decide (c < 128) = true := by simp; omega
 rw [hcd]
 have HP2 := Yh_ (fun (w1 : World) (hd1 : Yc w1 d v L g k) => by have := Yx d g k v L w1 hd1; rw [h] at this; exact this)
 have HP3 := Yh_ (fun (w1 : World) (hd1 : Yc w1 d v L g k1) => by have := Ydx d g k1 v L w1 hd1; rw [h4] at this; exact this)
 clear hD h c0 c1 hc hr hcd h4
 go_enter Tryz.func56, Tryz.ntmps56
 go_wp2_with (first | (have _t := S1; clear _t; go_at_call 86; refine (HP2.out _ (S1.out).dd).mono ?_; rintro e w2 ⟨rfl, hD2, hu⟩; have S2 := Yh_ ((S1.out).step hD2 hu); clear hD2 hu S1) | (have _t := S2; clear _t; go_at_call 90; refine (HP3.out _ (S2.out).dd).mono ?_; rintro e w3 ⟨rfl, hD3, hu⟩; unfold Opd.val; have S3 := Yh_ ((S2.out).step hD3 hu); clear hD3 hu S2) | (have _t := S3; clear _t; refine Ye 41 rfl ?_; refine Yd ⟨33, cd, o, Opd.none, false, 0⟩ w.heap.size rfl _ _ rfl rfl rfl (S3.out).rr rfl ?_; intro w4 hw; have S4 := Yh_ ((S3.out).store HD.out rfl hw); clear hw S3))
 exact bodyPost_ret (Yf rfl (Ys 2 w.heap.size _ rfl S4.out.rr)) rfl ⟨rfl, S4.out.dd, S4.out.uu⟩
theorem insn_8 (d g k : Nat) (v : Value) (L : List Int) (w : World) (hD : Yc w d v L g k) (c : Int) (k1 : Nat) (h : Yw L k = .ok c k1) (hc : 176 ≤ c ∧ c < 184) (e : Int) (h4 : Ybz L k1 = .err e) :
  Calls Tryz.prog 56 #[.pointer (some ⟨d, 0, none⟩)] w (Yl d v L g w (.err e) Ins.val) := by
 have HD := Yh_ hD
 have S1 := Yh_ (RS.start hD)
 obtain ⟨c0, c1, hk0⟩ := Yz hD.r h
 clear hk0
 obtain ⟨r, hr⟩ : ∃ r : Int, c % 8 = r := ⟨_, rfl⟩
 obtain ⟨cd, hcd⟩ : ∃ cd : Int, c % 16 = cd := ⟨_, rfl⟩
 have a7 : bits .and .u8 c 7 = r := by rw [Ybh c0 (by omega), hr]
 have a15 : bits .and .u8 c 15 = cd := by rw [Ybl c0 (by omega), hcd]
 have qr : wrap64 r = r := by unfold wrap64; omega
 have qd : wrap64 cd = cd := by unfold wrap64; omega
 have f0 : (c == 15) = false := by simp; omega
 have f1 : decide (c < 64) = false := by simp; omega
 have f2 : decide (c < 72) = false := by simp; omega
 have f3 : decide (c < 80) = false := by simp; omega
 have f4 : decide (c < 88) = false := by simp; omega
 have f5 : decide (c < 96) = false := by simp; omega
 have f6 : decide (112 ≤ c) = true := by simp; omega
 have f7 : decide (c < 128) = false := by simp; omega
 have f8 : decide (176 ≤ c) = true := by simp; omega
 have f9 : decide (c < 184) = true := by simp; omega
 have HP2 := Yh_ (fun (w1 : World) (hd1 : Yc w1 d v L g k) => by have := Yx d g k v L w1 hd1; rw [h] at this; exact this)
 have HP4 := Yh_ (fun (w1 : World) (hd1 : Yc w1 d v L g k1) => by have := Yc2 d g k1 v L w1 hd1; rw [h4] at this; exact this)
 clear hD h c0 c1 hc hr hcd h4
 go_enter Tryz.func56, Tryz.ntmps56
 go_wp2_with (first | (have _t := S1; clear _t; go_at_call 86; refine (HP2.out _ (S1.out).dd).mono ?_; rintro e w2 ⟨rfl, hD2, hu⟩; have S2 := Yh_ ((S1.out).step hD2 hu); clear hD2 hu S1) | (have _t := S2; clear _t; go_at_call 89; refine (Ybv r _).mono ?_; rintro e w3 ⟨rfl, hu⟩; unfold Opd.val Yam; have S3 := Yh_ ((S2.out).same hu); clear hu S2) | (have _t := S3; clear _t; go_at_call 91; refine (HP4.out _ (S3.out).dd).mono ?_; rintro e w4 ⟨rfl, hu⟩))
 exact ⟨rfl, rfl, (S3.out).uu.also hu (by simp)⟩
theorem insn_9 (d g k : Nat) (v : Value) (L : List Int) (w : World) (hD : Yc w d v L g k) (c : Int) (k1 : Nat) (h : Yw L k = .ok c k1) (hc : 176 ≤ c ∧ c < 184) (o : Opd) (k2 : Nat) (h4 : Ybz L k1 = .ok o k2) :
  Calls Tryz.prog 56 #[.pointer (some ⟨d, 0, none⟩)] w (Yl d v L g w (.ok ⟨2, 0, Yam (c % 8), o, false, 0⟩ k2) Ins.val) := by
 have HD := Yh_ hD
 have S1 := Yh_ (RS.start hD)
 obtain ⟨c0, c1, hk0⟩ := Yz hD.r h
 clear hk0
 obtain ⟨r, hr⟩ : ∃ r : Int, c % 8 = r := ⟨_, rfl⟩
 obtain ⟨cd, hcd⟩ : ∃ cd : Int, c % 16 = cd := ⟨_, rfl⟩
 have a7 : bits .and .u8 c 7 = r := by rw [Ybh c0 (by omega), hr]
 have a15 : bits .and .u8 c 15 = cd := by rw [Ybl c0 (by omega), hcd]
 have qr : wrap64 r = r := by unfold wrap64; omega
 have qd : wrap64 cd = cd := by unfold wrap64; omega
 have f0 : (c == 15) = false := by simp; omega
 have f1 : decide (c < 64) = false := by simp; omega
 have f2 : decide (c < 72) = false := by simp; omega
 have f3 : decide (c < 80) = false := by simp; omega
 have f4 : decide (c < 88) = false := by simp; omega
 have f5 : decide (c < 96) = false := by simp; omega
 have f6 : decide (112 ≤ c) = true := by simp; omega
 have f7 : decide (c < 128) = false := by simp; omega
 have f8 : decide (176 ≤ c) = true := by simp; omega
 have f9 : decide (c < 184) = true := by simp; omega
 rw [hr]
 have HP2 := Yh_ (fun (w1 : World) (hd1 : Yc w1 d v L g k) => by have := Yx d g k v L w1 hd1; rw [h] at this; exact this)
 have HP4 := Yh_ (fun (w1 : World) (hd1 : Yc w1 d v L g k1) => by have := Yc2 d g k1 v L w1 hd1; rw [h4] at this; exact this)
 clear hD h c0 c1 hc hr hcd h4
 go_enter Tryz.func56, Tryz.ntmps56
 go_wp2_with (first | (have _t := S1; clear _t; go_at_call 86; refine (HP2.out _ (S1.out).dd).mono ?_; rintro e w2 ⟨rfl, hD2, hu⟩; have S2 := Yh_ ((S1.out).step hD2 hu); clear hD2 hu S1) | (have _t := S2; clear _t; go_at_call 89; refine (Ybv r _).mono ?_; rintro e w3 ⟨rfl, hu⟩; unfold Opd.val Yam; have S3 := Yh_ ((S2.out).same hu); clear hu S2) | (have _t := S3; clear _t; go_at_call 91; refine (HP4.out _ (S3.out).dd).mono ?_; rintro e w4 ⟨rfl, hD4, hu⟩; unfold Opd.val; have S4 := Yh_ ((S3.out).step hD4 hu); clear hD4 hu S3) | (have _t := S4; clear _t; refine Ye 41 rfl ?_; refine Yd ⟨2, 0, Yam r, o, false, 0⟩ w.heap.size rfl _ _ rfl rfl rfl (S4.out).rr rfl ?_; intro w5 hw; have S5 := Yh_ ((S4.out).store HD.out rfl hw); clear hw S4))
 exact bodyPost_ret (Yf rfl (Ys 2 w.heap.size _ rfl S5.out.rr)) rfl ⟨rfl, S5.out.dd, S5.out.uu⟩
theorem insn_10 (d g k : Nat) (v : Value) (L : List Int) (w : World) (hD : Yc w d v L g k) (c : Int) (k1 : Nat) (h : Yw L k = .ok c k1) (hc : 184 ≤ c ∧ c < 192) (e : Int) (h4 : Yak L k1 = .err e) :
  Calls Tryz.prog 56 #[.pointer (some ⟨d, 0, none⟩)] w (Yl d v L g w (.err e) Ins.val) := by
 have HD := Yh_ hD
 have S1 := Yh_ (RS.start hD)
 obtain ⟨c0, c1, hk0⟩ := Yz hD.r h
 clear hk0
 obtain ⟨r, hr⟩ : ∃ r : Int, c % 8 = r := ⟨_, rfl⟩
 obtain ⟨cd, hcd⟩ : ∃ cd : Int, c % 16 = cd := ⟨_, rfl⟩
 have a7 : bits .and .u8 c 7 = r := by rw [Ybh c0 (by omega), hr]
 have a15 : bits .and .u8 c 15 = cd := by rw [Ybl c0 (by omega), hcd]
 have qr : wrap64 r = r := by unfold wrap64; omega
 have qd : wrap64 cd = cd := by unfold wrap64; omega
 have f0 : (c == 15) = false := by simp; omega
 have f1 : decide (c < 64) = false := by simp; omega
 have f2 : decide (c < 72) = false := by simp; omega
 have f3 : decide (c < 80) = false := by simp; omega
 have f4 : decide (c < 88) = false := by simp; omega
 have f5 : decide (c < 96) = false := by simp; omega
 have f6 : decide (112 ≤ c) = true := by simp; omega
 have f7 : decide (c < 128) = false := by simp; omega
 have f8 : decide (176 ≤ c) = true := by simp; omega
 have f9 : decide (c < 184) = false := by simp; omega
 have f10 : decide (184 ≤ c) = true := by simp; omega
 have f11 : decide (c < 192) = true := by simp; omega
 have HP2 := Yh_ (fun (w1 : World) (hd1 : Yc w1 d v L g k) => by have := Yx d g k v L w1 hd1; rw [h] at this; exact this)
 have HP4 := Yh_ (fun (w1 : World) (hd1 : Yc w1 d v L g k1) => by have := Ybo d g k1 v L w1 hd1; rw [h4] at this; exact this)
 clear hD h c0 c1 hc hr hcd h4
 go_enter Tryz.func56, Tryz.ntmps56
 go_wp2_with (first | (have _t := S1; clear _t; go_at_call 86; refine (HP2.out _ (S1.out).dd).mono ?_; rintro e w2 ⟨rfl, hD2, hu⟩; have S2 := Yh_ ((S1.out).step hD2 hu); clear hD2 hu S1) | (have _t := S2; clear _t; go_at_call 89; refine (Ybv r _).mono ?_; rintro e w3 ⟨rfl, hu⟩; unfold Opd.val Yam; have S3 := Yh_ ((S2.out).same hu); clear hu S2) | (have _t := S3; clear _t; go_at_call 92; refine (HP4.out _ (S3.out).dd).mono ?_; rintro e w4 ⟨rfl, hu⟩))
 exact ⟨rfl, rfl, (S3.out).uu.also hu (by simp)⟩
theorem insn_11 (d g k : Nat) (v : Value) (L : List Int) (w : World) (hD : Yc w d v L g k) (c : Int) (k1 : Nat) (h : Yw L k = .ok c k1) (hc : 184 ≤ c ∧ c < 192) (o : Opd) (k2 : Nat) (h4 : Yak L k1 = .ok o k2) :
  Calls Tryz.prog 56 #[.pointer (some ⟨d, 0, none⟩)] w (Yl d v L g w (.ok ⟨1, 0, Yam (c % 8), o, false, 0⟩ k2) Ins.val) := by
 have HD := Yh_ hD
 have S1 := Yh_ (RS.start hD)
 obtain ⟨c0, c1, hk0⟩ := Yz hD.r h
 clear hk0
 obtain ⟨r, hr⟩ : ∃ r : Int, c % 8 = r := ⟨_, rfl⟩
 obtain ⟨cd, hcd⟩ : ∃ cd : Int, c % 16 = cd := ⟨_, rfl⟩
 have a7 : bits .and .u8 c 7 = r := by rw [Ybh c0 (by omega), hr]
 have a15 : bits .and .u8 c 15 = cd := by rw [Ybl c0 (by omega), hcd]
 have qr : wrap64 r = r := by unfold wrap64; omega
 have qd : wrap64 cd = cd := by unfold wrap64; omega
 have f0 : (c == 15) = false := by simp; omega
 have f1 : decide (c < 64) = false := by simp; omega
 have f2 : decide (c < 72) = false := by simp; omega
 have f3 : decide (c < 80) = false := by simp; omega
 have f4 : decide (c < 88) = false := by simp; omega
 have f5 : decide (c < 96) = false := by simp; omega
 have f6 : decide (112 ≤ c) = true := by simp; omega
 have f7 : decide (c < 128) = false := by simp; omega
 have f8 : decide (176 ≤ c) = true := by simp; omega
 have f9 : decide (c < 184) = false := by simp; omega
 have f10 : decide (184 ≤ c) = true := by simp; omega
 have f11 : decide (c < 192) = true := by simp; omega
 rw [hr]
 have HP2 := Yh_ (fun (w1 : World) (hd1 : Yc w1 d v L g k) => by have := Yx d g k v L w1 hd1; rw [h] at this; exact this)
 have HP4 := Yh_ (fun (w1 : World) (hd1 : Yc w1 d v L g k1) => by have := Ybo d g k1 v L w1 hd1; rw [h4] at this; exact this)
 clear hD h c0 c1 hc hr hcd h4
 go_enter Tryz.func56, Tryz.ntmps56
 go_wp2_with (first | (have _t := S1; clear _t; go_at_call 86; refine (HP2.out _ (S1.out).dd).mono ?_; rintro e w2 ⟨rfl, hD2, hu⟩; have S2 := Yh_ ((S1.out).step hD2 hu); clear hD2 hu S1) | (have _t := S2; clear _t; go_at_call 89; refine (Ybv r _).mono ?_; rintro e w3 ⟨rfl, hu⟩; unfold Opd.val Yam; have S3 := Yh_ ((S2.out).same hu); clear hu S2) | (have _t := S3; clear _t; go_at_call 92; refine (HP4.out _ (S3.out).dd).mono ?_; rintro e w4 ⟨rfl, hD4, hu⟩; unfold Opd.val; have S4 := Yh_ ((S3.out).step hD4 hu); clear hD4 hu S3) | (have _t := S4; clear _t; refine Ye 41 rfl ?_; refine Yd ⟨1, 0, Yam r, o, false, 0⟩ w.heap.size rfl _ _ rfl rfl rfl (S4.out).rr rfl ?_; intro w5 hw; have S5 := Yh_ ((S4.out).store HD.out rfl hw); clear hw S4))
 exact bodyPost_ret (Yf rfl (Ys 2 w.heap.size _ rfl S5.out.rr)) rfl ⟨rfl, S5.out.dd, S5.out.uu⟩
theorem insn_ma1 (d g k : Nat) (v : Value) (L : List Int) (w : World) (hD : Yc w d v L g k) (c : Int) (k1 : Nat) (h : Yw L k = .ok c k1) (hc : 96 ≤ c ∧ c < 112) (e : Int) (h4 : Ya3 L c k1 = .err e) :
  Calls Tryz.prog 56 #[.pointer (some ⟨d, 0, none⟩)] w (Yl d v L g w (.err e) Ins.val) := by
 have HD := Yh_ hD
 have S1 := Yh_ (RS.start hD)
 obtain ⟨c0, c1, hk0⟩ := Yz hD.r h
 clear hk0
 obtain ⟨r, hr⟩ : ∃ r : Int, c % 8 = r := ⟨_, rfl⟩
 obtain ⟨cd, hcd⟩ : ∃ cd : Int, c % 16 = cd := ⟨_, rfl⟩
 have a7 : bits .and .u8 c 7 = r := by rw [Ybh c0 (by omega), hr]
 have a15 : bits .and .u8 c 15 = cd := by rw [Ybl c0 (by omega), hcd]
 have qr : wrap64 r = r := by unfold wrap64; omega
 have qd : wrap64 cd = cd := by unfold wrap64; omega
 have f0 : (c == 15) = false := by simp; omega
 have f1 : decide (c < 64) = false := by simp; omega
 have f2 : decide (c < 72) = false := by simp; omega
 have f3 : decide (c < 80) = false := by simp; omega
 have f4 : decide (c < 88) = false := by simp; omega
 have f5 : decide (c < 96) = false := by simp; omega
 have f6 : decide (112 ≤ c) = false := by simp; omega
 have f7 : decide (176 ≤ c) = false := by simp; omega
 have f8 : decide (184 ≤ c) = false := by simp; omega
 have Kc := Yh_ (And.intro c0 c1)
 have HP2 := Yh_ (fun (w1 : World) (hd1 : Yc w1 d v L g k) => by have := Yx d g k v L w1 hd1; rw [h] at this; exact this)
 have HP3 := Yh_ (fun (w1 : World) (hd1 : Yc w1 d v L g k1) => by have := Yeb d g k1 v L c w1 hd1 Kc.out.1 Kc.out.2; rw [h4] at this; exact this)
 clear hD h c0 c1 hc hr hcd h4
 go_enter Tryz.func56, Tryz.ntmps56
 go_wp2_with (first | (have _t := S1; clear _t; go_at_call 86; refine (HP2.out _ (S1.out).dd).mono ?_; rintro e w2 ⟨rfl, hD2, hu⟩; have S2 := Yh_ ((S1.out).step hD2 hu); clear hD2 hu S1) | (have _t := S2; clear _t; go_at_call 93; refine (HP3.out _ (S2.out).dd).mono ?_; rintro e w3 ⟨rfl, hu⟩))
 exact ⟨rfl, rfl, (S2.out).uu.also hu (by simp)⟩
theorem insn_ma2 (d g k : Nat) (v : Value) (L : List Int) (w : World) (hD : Yc w d v L g k) (c : Int) (k1 : Nat) (h : Yw L k = .ok c k1) (hc : 96 ≤ c ∧ c < 112) (i : Ins) (k2 : Nat) (h4 : Ya3 L c k1 = .ok i k2) :
  Calls Tryz.prog 56 #[.pointer (some ⟨d, 0, none⟩)] w (Yl d v L g w (.ok i k2) Ins.val) := by
 have HD := Yh_ hD
 have S1 := Yh_ (RS.start hD)
 obtain ⟨c0, c1, hk0⟩ := Yz hD.r h
 clear hk0
 obtain ⟨r, hr⟩ : ∃ r : Int, c % 8 = r := ⟨_, rfl⟩
 obtain ⟨cd, hcd⟩ : ∃ cd : Int, c % 16 = cd := ⟨_, rfl⟩
 have a7 : bits .and .u8 c 7 = r := by rw [Ybh c0 (by omega), hr]
 have a15 : bits .and .u8 c 15 = cd := by rw [Ybl c0 (by omega), hcd]
 have qr : wrap64 r = r := by unfold wrap64; omega
 have qd : wrap64 cd = cd := by unfold wrap64; omega
 have f0 : (c == 15) = false := by simp; omega
 have f1 : decide (c < 64) = false := by simp; omega
 have f2 : decide (c < 72) = false := by simp; omega
 have f3 : decide (c < 80) = false := by simp; omega
 have f4 : decide (c < 88) = false := by simp; omega
 have f5 : decide (c < 96) = false := by simp; omega
 have f6 : decide (112 ≤ c) = false := by simp; omega
 have f7 : decide (176 ≤ c) = false := by simp; omega
 have f8 : decide (184 ≤ c) = false := by simp; omega
 have Kc := Yh_ (And.intro c0 c1)
 have HP2 := Yh_ (fun (w1 : World) (hd1 : Yc w1 d v L g k) => by have := Yx d g k v L w1 hd1; rw [h] at this; exact this)
 have HP3 := Yh_ (fun (w1 : World) (hd1 : Yc w1 d v L g k1) => by have := Yeb d g k1 v L c w1 hd1 Kc.out.1 Kc.out.2; rw [h4] at this; exact this)
 clear hD h c0 c1 hc hr hcd h4
 go_enter Tryz.func56, Tryz.ntmps56
 go_wp2_with (first | (have _t := S1; clear _t; go_at_call 86; refine (HP2.out _ (S1.out).dd).mono ?_; rintro e w2 ⟨rfl, hD2, hu⟩; have S2 := Yh_ ((S1.out).step hD2 hu); clear hD2 hu S1) | (have _t := S2; clear _t; go_at_call 93; refine (HP3.out _ (S2.out).dd).mono ?_; rintro e w3 ⟨rfl, hD3, hu⟩; have S3 := Yh_ ((S2.out).step hD3 hu); clear hD3 hu S2) | (have _t := S3; clear _t; refine Ye 41 rfl ?_; refine Yd i w.heap.size rfl _ _ rfl rfl rfl (S3.out).rr rfl ?_; intro w4 hw; have S4 := Yh_ ((S3.out).store HD.out rfl hw); clear hw S3))
 exact bodyPost_ret (Yf rfl (Ys 2 w.heap.size _ rfl S4.out.rr)) rfl ⟨rfl, S4.out.dd, S4.out.uu⟩
theorem insn_mb1 (d g k : Nat) (v : Value) (L : List Int) (w : World) (hD : Yc w d v L g k) (c : Int) (k1 : Nat) (h : Yw L k = .ok c k1) (hc : 128 ≤ c ∧ c < 176) (e : Int) (h4 : Ya3 L c k1 = .err e) :
  Calls Tryz.prog 56 #[.pointer (some ⟨d, 0, none⟩)] w (Yl d v L g w (.err e) Ins.val) := by
 have HD := Yh_ hD
 have S1 := Yh_ (RS.start hD)
 obtain ⟨c0, c1, hk0⟩ := Yz hD.r h
 clear hk0
 obtain ⟨r, hr⟩ : ∃ r : Int, c % 8 = r := ⟨_, rfl⟩
 obtain ⟨cd, hcd⟩ : ∃ cd : Int, c % 16 = cd := ⟨_, rfl⟩
 have a7 : bits .and .u8 c 7 = r := by rw [Ybh c0 (by omega), hr]
 have a15 : bits .and .u8 c 15 = cd := by rw [Ybl c0 (by omega), hcd]
 have qr : wrap64 r = r := by unfold wrap64; omega
 have qd : wrap64 cd = cd := by unfold wrap64; omega
 have f0 : (c == 15) = false := by simp; omega
 have f1 : decide (c < 64) = false := by simp; omega
 have f2 : decide (c < 72) = false := by simp; omega
 have f3 : decide (c < 80) = false := by simp; omega
 have f4 : decide (c < 88) = false := by simp; omega
 have f5 : decide (c < 96) = false := by simp; omega
 have f6 : decide (112 ≤ c) = true := by simp; omega
 have f7 : decide (c < 128) = false := by simp; omega
 have f8 : decide (176 ≤ c) = false := by simp; omega
 have f9 : decide (184 ≤ c) = false := by simp; omega
 have Kc := Yh_ (And.intro c0 c1)
 have HP2 := Yh_ (fun (w1 : World) (hd1 : Yc w1 d v L g k) => by have := Yx d g k v L w1 hd1; rw [h] at this; exact this)
 have HP3 := Yh_ (fun (w1 : World) (hd1 : Yc w1 d v L g k1) => by have := Yeb d g k1 v L c w1 hd1 Kc.out.1 Kc.out.2; rw [h4] at this; exact this)
 clear hD h c0 c1 hc hr hcd h4
 go_enter Tryz.func56, Tryz.ntmps56
 go_wp2_with (first | (have _t := S1; clear _t; go_at_call 86; refine (HP2.out _ (S1.out).dd).mono ?_; rintro e w2 ⟨rfl, hD2, hu⟩; have S2 := Yh_ ((S1.out).step hD2 hu); clear hD2 hu S1) | (have _t := S2; clear _t; go_at_call 93; refine (HP3.out _ (S2.out).dd).mono ?_; rintro e w3 ⟨rfl, hu⟩))
 exact ⟨rfl, rfl, (S2.out).uu.also hu (by simp)⟩
theorem insn_mb2 (d g k : Nat) (v : Value) (L : List Int) (w : World) (hD : Yc w d v L g k) (c : Int) (k1 : Nat) (h : Yw L k = .ok c k1) (hc : 128 ≤ c ∧ c < 176) (i : Ins) (k2 : Nat) (h4 : Ya3 L c k1 = .ok i k2) :
  Calls Tryz.prog 56 #[.pointer (some ⟨d, 0, none⟩)] w (Yl d v L g w (.ok i k2) Ins.val) := by
 have HD := Yh_ hD
 have S1 := Yh_ (RS.start hD)
 obtain ⟨c0, c1, hk0⟩ := Yz hD.r h
 clear hk0
 obtain ⟨r, hr⟩ : ∃ r : Int, c % 8 = r := ⟨_, rfl⟩
 obtain ⟨cd, hcd⟩ : ∃ cd : Int, c % 16 = cd := ⟨_, rfl⟩
 have a7 : bits .and .u8 c 7 = r := by rw [Ybh c0 (by omega), hr]
 have a15 : bits .and .u8 c 15 = cd := by rw [Ybl c0 (by omega), hcd]
 have qr : wrap64 r = r := by unfold wrap64; omega
 have qd : wrap64 cd = cd := by unfold wrap64; omega
 have f0 : (c == 15) = false := by simp; omega
 have f1 : decide (c < 64) = false := by simp; omega
 have f2 : decide (c < 72) = false := by simp; omega
 have f3 : decide (c < 80) = false := by simp; omega
 have f4 : decide (c < 88) = false := by simp; omega
 have f5 : decide (c < 96) = false := by simp; omega
 have f6 : decide (112 ≤ c) = true := by simp; omega
 have f7 : decide (c < 128) = false := by simp; omega
 have f8 : decide (176 ≤ c) = false := by simp; omega
 have f9 : decide (184 ≤ c) = false := by simp; omega
 have Kc := Yh_ (And.intro c0 c1)
 have HP2 := Yh_ (fun (w1 : World) (hd1 : Yc w1 d v L g k) => by have := Yx d g k v L w1 hd1; rw [h] at this; exact this)
 have HP3 := Yh_ (fun (w1 : World) (hd1 : Yc w1 d v L g k1) => by have := Yeb d g k1 v L c w1 hd1 Kc.out.1 Kc.out.2; rw [h4] at this; exact this)
 clear hD h c0 c1 hc hr hcd h4
 go_enter Tryz.func56, Tryz.ntmps56
 go_wp2_with (first | (have _t := S1; clear _t; go_at_call 86; refine (HP2.out _ (S1.out).dd).mono ?_; rintro e w2 ⟨rfl, hD2, hu⟩; have S2 := Yh_ ((S1.out).step hD2 hu); clear hD2 hu S1) | (have _t := S2; clear _t; go_at_call 93; refine (HP3.out _ (S2.out).dd).mono ?_; rintro e w3 ⟨rfl, hD3, hu⟩; have S3 := Yh_ ((S2.out).step hD3 hu); clear hD3 hu S2) | (have _t := S3; clear _t; refine Ye 41 rfl ?_; refine Yd i w.heap.size rfl _ _ rfl rfl rfl (S3.out).rr rfl ?_; intro w4 hw; have S4 := Yh_ ((S3.out).store HD.out rfl hw); clear hw S3))
 exact bodyPost_ret (Yf rfl (Ys 2 w.heap.size _ rfl S4.out.rr)) rfl ⟨rfl, S4.out.dd, S4.out.uu⟩
theorem insn_mc1 (d g k : Nat) (v : Value) (L : List Int) (w : World) (hD : Yc w d v L g k) (c : Int) (k1 : Nat) (h : Yw L k = .ok c k1) (hc : 192 ≤ c) (e : Int) (h4 : Ya3 L c k1 = .err e) :
  Calls Tryz.prog 56 #[.pointer (some ⟨d, 0, none⟩)] w (Yl d v L g w (.err e) Ins.val) := by
 have HD := Yh_ hD
 have S1 := Yh_ (RS.start hD)
 obtain ⟨c0, c1, hk0⟩ := Yz hD.r h
 clear hk0
 obtain ⟨r, hr⟩ : ∃ r : Int, c % 8 = r := ⟨_, rfl⟩
 obtain ⟨cd, hcd⟩ : ∃ cd : Int, c % 16 = cd := ⟨_, rfl⟩
 have a7 : bits .and .u8 c 7 = r := by rw [Ybh c0 (by omega), hr]
 have a15 : bits .and .u8 c 15 = cd := by rw [Ybl c0 (by omega), hcd]
 have qr : wrap64 r = r := by unfold wrap64; omega
 have qd : wrap64 cd = cd := by unfold wrap64; omega
 have f0 : (c == 15) = false := by simp; omega
 have f1 : decide (c < 64) = false := by simp; omega
 have f2 : decide (c < 72) = false := by simp; omega
 have f3 : decide (c < 80) = false := by simp; omega
 have f4 : decide (c < 88) = false := by simp; omega
 have f5 : decide (c < 96) = false := by simp; omega
 have f6 : decide (112 ≤ c) = true := by simp; omega
 have f7 : decide (c < 128) = false := by simp; omega
 have f8 : decide (176 ≤ c) = true := by simp; omega
 have f9 : decide (c < 184) = false := by simp; omega
 have f10 : decide (184 ≤ c) = true := by simp; omega
 have f11 : decide (c < 192) = false := by simp; omega
 have Kc := Yh_ (And.intro c0 c1)
 have HP2 := Yh_ (fun (w1 : World) (hd1 : Yc w1 d v L g k) => by have := Yx d g k v L w1 hd1; rw [h] at this; exact this)
 have HP3 := Yh_ (fun (w1 : World) (hd1 : Yc w1 d v L g k1) => by have := Yeb d g k1 v L c w1 hd1 Kc.out.1 Kc.out.2; rw [h4] at this; exact this)
 clear hD h c0 c1 hc hr hcd h4
 go_enter Tryz.func56, Tryz.ntmps56
 go_wp2_with (first | (have _t := S1; clear _t; go_at_call 86; refine (HP2.out _ (S1.out).dd).mono ?_; rintro e w2 ⟨rfl, hD2, hu⟩; have S2 := Yh_ ((S1.out).step hD2 hu); clear hD2 hu S1) | (have _t := S2; clear _t; go_at_call 93; refine (HP3.out _ (S2.out).dd).mono ?_; rintro e w3 ⟨rfl, hu⟩))
 exact ⟨rfl, rfl, (S2.out).uu.also hu (by simp)⟩
theorem insn_mc2 (d g k : Nat) (v : Value) (L : List Int) (w : World) (hD : Yc w d v L g k) (c : Int) (k1 : Nat) (h : Yw L k = .ok c k1) (hc : 192 ≤ c) (i : Ins) (k2 : Nat) (h4 : Ya3 L c k1 = .ok i k2) :
  Calls Tryz.prog 56 #[.pointer (some ⟨d, 0, none⟩)] w (Yl d v L g w (.ok i k2) Ins.val) := by
 have HD := Yh_ hD
 have S1 := Yh_ (RS.start hD)
 obtain ⟨c0, c1, hk0⟩ := Yz hD.r h
 clear hk0
 obtain ⟨r, hr⟩ : ∃ r : Int, c % 8 = r := ⟨_, rfl⟩
 obtain ⟨cd, hcd⟩ : ∃ cd : Int, c % 16 = cd := ⟨_, rfl⟩
 have a7 : bits .and .u8 c 7 = r := by rw [Ybh c0 (by omega), hr]
 have a15 : bits .and .u8 c 15 = cd := by rw [Ybl c0 (by omega), hcd]
 have qr : wrap64 r = r := by unfold wrap64; omega
 have qd : wrap64 cd = cd := by unfold wrap64; omega
 have f0 : (c == 15) = false := by simp; omega
 have f1 : decide (c < 64) = false := by simp; omega
 have f2 : decide (c < 72) = false := by simp; omega
 have f3 : decide (c < 80) = false := by simp; omega
 have f4 : decide (c < 88) = false := by simp; omega
 have f5 : decide (c < 96) = false := by simp; omega
 have f6 : decide (112 ≤ c) = true := by simp; omega
 have f7 : decide (c < 128) = false := by simp; omega
 have f8 : decide (176 ≤ c) = true := by simp; omega
 have f9 : decide (c < 184) = false := by simp; omega
 have f10 : decide (184 ≤ c) = true := by simp; omega
 have f11 : decide (c < 192) = false := by simp; omega
 have Kc := Yh_ (And.intro c0 c1)
 have HP2 := Yh_ (fun (w1 : World) (hd1 : Yc w1 d v L g k) => by have := Yx d g k v L w1 hd1; rw [h] at this; exact this)
 have HP3 := Yh_ (fun (w1 : World) (hd1 : Yc w1 d v L g k1) => by have := Yeb d g k1 v L c w1 hd1 Kc.out.1 Kc.out.2; rw [h4] at this; exact this)
 clear hD h c0 c1 hc hr hcd h4
 go_enter Tryz.func56, Tryz.ntmps56
 go_wp2_with (first | (have _t := S1; clear _t; go_at_call 86; refine (HP2.out _ (S1.out).dd).mono ?_; rintro e w2 ⟨rfl, hD2, hu⟩; have S2 := Yh_ ((S1.out).step hD2 hu); clear hD2 hu S1) | (have _t := S2; clear _t; go_at_call 93; refine (HP3.out _ (S2.out).dd).mono ?_; rintro e w3 ⟨rfl, hD3, hu⟩; have S3 := Yh_ ((S2.out).step hD3 hu); clear hD3 hu S2) | (have _t := S3; clear _t; refine Ye 41 rfl ?_; refine Yd i w.heap.size rfl _ _ rfl rfl rfl (S3.out).rr rfl ?_; intro w4 hw; have S4 := Yh_ ((S3.out).store HD.out rfl hw); clear hw S3))
 exact bodyPost_ret (Yf rfl (Ys 2 w.heap.size _ rfl S4.out.rr)) rfl ⟨rfl, S4.out.dd, S4.out.uu⟩
theorem Yle (d g k : Nat) (v : Value) (L : List Int) (w : World) (hD : Yc w d v L g k) :
  Calls Tryz.prog 56 #[.pointer (some ⟨d, 0, none⟩)] w (Yl d v L g w (Ye4 L k) Ins.val) := by
 unfold Ye4
 cases h : Yw L k with
 |err e => exact insn_1 d g k v L w hD e h
 |ok c k1 =>
  rw [DR.bind_ok]
  unfold dcRest
  by_cases h15 : c = 15
  ·rw [if_pos h15]
   cases h4 : Yew L k1 with
   |err e => exact insn_2 d g k v L w hD c k1 h h15 e h4
   |ok i k2 => exact insn_3 d g k v L w hD c k1 h h15 i k2 h4
  rw [if_neg h15]
  by_cases h64 : c < 64
  ·rw [if_pos h64]
   cases h4 : Yhp L c k1 with
   |err e => exact insn_4 d g k v L w hD c k1 h ⟨h64, h15⟩ e h4
   |ok i k2 => exact insn_5 d g k v L w hD c k1 h ⟨h64, h15⟩ i k2 h4
  rw [if_neg h64]
  by_cases h72 : c < 72
  ·rw [if_pos h72]; exact insn_r12 d g k v L w hD c k1 h ⟨by omega, h72⟩
  rw [if_neg h72]
  by_cases h80 : c < 80
  ·rw [if_pos h80]; exact insn_r13 d g k v L w hD c k1 h ⟨by omega, h80⟩
  rw [if_neg h80]
  by_cases h88 : c < 88
  ·rw [if_pos h88]; exact insn_r28 d g k v L w hD c k1 h ⟨by omega, h88⟩
  rw [if_neg h88]
  by_cases h96 : c < 96
  ·rw [if_pos h96]; exact insn_r29 d g k v L w hD c k1 h ⟨by omega, h96⟩
  rw [if_neg h96]
  by_cases ha : 112 ≤ c ∧ c < 128
  ·rw [if_pos ha]
   cases h4 : Yb5 L k1 with
   |err e => exact insn_6 d g k v L w hD c k1 h ha e h4
   |ok i k2 => exact insn_7 d g k v L w hD c k1 h ha i k2 h4
  rw [if_neg ha]
  by_cases hb : 176 ≤ c ∧ c < 184
  ·rw [if_pos hb]
   cases h4 : Ybz L k1 with
   |err e => exact insn_8 d g k v L w hD c k1 h hb e h4
   |ok i k2 => exact insn_9 d g k v L w hD c k1 h hb i k2 h4
  rw [if_neg hb]
  by_cases hc : 184 ≤ c ∧ c < 192
  ·rw [if_pos hc]
   cases h4 : Yak L k1 with
   |err e => exact insn_10 d g k v L w hD c k1 h hc e h4
   |ok i k2 => exact insn_11 d g k v L w hD c k1 h hc i k2 h4
  rw [if_neg hc]
  by_cases hd : c < 112
  ·have hh : 96 ≤ c ∧ c < 112 := by omega
   cases h4 : Ya3 L c k1 with
   |err e => exact insn_ma1 d g k v L w hD c k1 h hh e h4
   |ok i k2 => exact insn_ma2 d g k v L w hD c k1 h hh i k2 h4
  by_cases he : c < 176
  ·have hh : 128 ≤ c ∧ c < 176 := by omega
   cases h4 : Ya3 L c k1 with
   |err e => exact insn_mb1 d g k v L w hD c k1 h hh e h4
   |ok i k2 => exact insn_mb2 d g k v L w hD c k1 h hh i k2 h4
  have hh : 192 ≤ c := by omega
  cases h4 : Ya3 L c k1 with
  |err e => exact insn_mc1 d g k v L w hD c k1 h hh e h4
  |ok i k2 => exact insn_mc2 d g k v L w hD c k1 h hh i k2 h4
theorem Ykl (v : Value) (w : World) : (Instr.typeAssert (.iface 32 v) 20 32 true).run Tryz.prog w = .ok (.tuple #[v, .bool true]) w := by
 unfold Instr.typeAssert
 simp [Sem.run_bind]
theorem Yhr (ib nb eb : Nat) (i : Ins) (n0 e0 : Value) (c : Int) (older : List PanicEntry) (w : World)
  (hi : w.heap[ib]? = some (.cells i.cells 41 (0, 0))) (hn : w.heap[nb]? = some (.cells #[n0] 3 (0, 0))) (he : w.heap[eb]? = some (.cells #[e0] 32 (0, 0))) (h1 : ib ≠ nb) (h2 : ib ≠ eb) (h3 : nb ≠ eb) :
  CallsD Tryz.prog 55 #[.pointer (some ⟨ib, 0, none⟩), .pointer (some ⟨nb, 0, none⟩), .pointer (some ⟨eb, 0, none⟩)] (.panicking ({ v := .iface 32 (.int .i64 c), recovered := false } :: older)) w fun e u' w' =>
   e = .returned (.tuple #[]) ∧ u' = .panicking ({ v := .iface 32 (.int .i64 c), recovered := true } :: older) ∧
    w'.heap[ib]? = some (.cells Ins.zero.cells 41 (0, 0)) ∧ w'.heap[nb]? = some (.cells #[.int .i64 0] 3 (0, 0)) ∧ w'.heap[eb]? = some (.cells #[.int .i64 c] 32 (0, 0)) ∧ Upd [ib, nb, eb] w w' := by
 refine callsD_of_wpS Tryz.func55 rfl fun c₀ cs hu => ?_
 simp only [Tryz.ntmps55, List.size_toArray, List.length_cons, List.length_nil, Nat.reduceAdd, Nat.reduceSub, Array.replicate_succ, Array.replicate_zero, List.push_toArray, List.append_toArray, List.nil_append, List.cons_append]
 apply wpS_seq
 apply wpS_region
 simp [wpOpsS, go_sem, recoverD, hu, Tryz.ntmps55, Exit.thenS]
 refine wpS_of_wp ?_
 clear hu
 have HI := Yh_ hi
 have HN := Yh_ hn
 have HE := Yh_ he
 have hta := Ykl
 clear hi hn he
 go_wp2_with (refine Ye 41 rfl ?_; refine Yd Ins.zero ib rfl _ _ rfl rfl rfl HI.out rfl ?_; intro w2 hw; obtain ⟨z1, z2⟩ := Ya7 (S := [ib]) (w0 := w) hw HI.out rfl (Upd.refl _ _) (.inl (by simp)); have Z := Yh_ (And.intro z1 z2); have gn := z2.get HN.out (by simpa using h1.symm); have ge := z2.get HE.out (by simpa using h2.symm); have cn := Ya gn; have fn := Yn gn; have ce := Ya ge; have fe := Yn ge; have GN := Yh_ (And.intro gn ge); clear gn ge z1 z2 hw)
 refine ⟨rfl, _, rfl, _, results_none rfl _ _ _, rfl, rfl, ?_, ?_, ?_, ?_⟩
 ·exact Yg _ h2 (Yg _ h1 Z.out.1)
 ·exact Yg _ h3 (Yh GN.out.1 0 (.int .i64 0))
 ·exact Yh (Yg (a := ⟨nb, 0, none⟩) (.int .i64 0) h3.symm GN.out.2) 0 (.int .i64 c)
 ·exact ((Z.out.2.mono (by simp)).setCell (by simp) _).setCell (by simp) _
theorem Ylw (ib nb eb : Nat) (w : World) :
  CallsD Tryz.prog 55 #[.pointer (some ⟨ib, 0, none⟩), .pointer (some ⟨nb, 0, none⟩), .pointer (some ⟨eb, 0, none⟩)] .returning w fun e u' w' => e = .returned (.tuple #[]) ∧ u' = .returning ∧ w = w' := by
 refine callsD_of_wpS Tryz.func55 rfl fun c₀ cs hu => ?_
 simp only [Tryz.ntmps55, List.size_toArray, List.length_cons, List.length_nil, Nat.reduceAdd, Nat.reduceSub, Array.replicate_succ, Array.replicate_zero, List.push_toArray, List.append_toArray, List.nil_append, List.cons_append]
 apply wpS_seq
 apply wpS_region
 simp [wpOpsS, go_sem, recoverD, hu, Tryz.ntmps55, Exit.thenS]
 refine wpS_of_wp ?_
 have HU := Yh_ hu
 clear hu
 go_wp2_with fail
 refine ⟨rfl, .returning, ?_, _, results_none rfl _ _ _, rfl, rfl, rfl⟩
 rw [← HU.out]
def Yoe (ib nb eb : Nat) : List Deferred :=
 [{ target := .fn (.func 55) #[.pointer (some ⟨ib, 0, none⟩), .pointer (some ⟨nb, 0, none⟩), .pointer (some ⟨eb, 0, none⟩)], args := #[] }]
theorem Yno {fn : Func} {tmps : Array Value} {R : Ending → World → Prop} {w1 : World} {ib nb eb : Nat} {i : Ins} {n0 e0 : Value} (c : Int) (V : Value)
  (hres : ∀ w2, w2.heap[ib]? = some (.cells Ins.zero.cells 41 (0, 0)) → w2.heap[nb]? = some (.cells #[.int .i64 0] 3 (0, 0)) → w2.heap[eb]? = some (.cells #[.int .i64 c] 32 (0, 0)) → Upd [ib, nb, eb] w1 w2 → (results fn tmps).run Tryz.prog w2 = .ok V w2)
  (hi : w1.heap[ib]? = some (.cells i.cells 41 (0, 0))) (hn : w1.heap[nb]? = some (.cells #[n0] 3 (0, 0))) (he : w1.heap[eb]? = some (.cells #[e0] 32 (0, 0))) (h1 : ib ≠ nb) (h2 : ib ≠ eb) (h3 : nb ≠ eb)
  (hR : ∀ w2, Upd [ib, nb, eb] w1 w2 → R (.returned V) w2) :
  Leaves Tryz.prog fn tmps R (Yoe ib nb eb) (.panicking [{ v := .iface 32 (.int .i64 c), recovered := false }]) w1 := by
 refine leaves_cons (f := 55) (args := #[.pointer (some ⟨ib, 0, none⟩), .pointer (some ⟨nb, 0, none⟩), .pointer (some ⟨eb, 0, none⟩)]) (by simp) (by simp [go_sem]) ?_
 refine (Yhr ib nb eb i _ _ c [] w1 hi hn he h1 h2 h3).mono ?_
 rintro e u' w2 ⟨rfl, rfl, hi, hn, he, hU⟩
 simp only [settle, List.dropWhile_nil]
 exact ⟨_, hres w2 hi hn he hU, hR _ hU⟩
theorem Ypj {fn : Func} {tmps : Array Value} {R : Ending → World → Prop} {w1 : World} {ib nb eb : Nat} (V : Value) (hres : (results fn tmps).run Tryz.prog w1 = .ok V w1) (hR : R (.returned V) w1) :
  Leaves Tryz.prog fn tmps R (Yoe ib nb eb) .returning w1 := by
 refine leaves_cons (f := 55) (args := #[.pointer (some ⟨ib, 0, none⟩), .pointer (some ⟨nb, 0, none⟩), .pointer (some ⟨eb, 0, none⟩)]) (by simp) (by simp [go_sem]) ?_
 refine (Ylw _ _ _ w1).mono ?_
 rintro e u' w2 ⟨rfl, rfl, rfl⟩
 simp only [settle]
 exact ⟨_, hres, hR⟩
theorem Yku {tmps : Array Value} {w : World} (a : Tmp) (b : Nat) (n : Int) (t : TypeId) (ha : tmps.getD a undef = .pointer (some ⟨b, 0, none⟩)) (hb : w.heap[b]? = some (.cells #[.int .i64 n] 3 (0, 0))) : (Ybt tmps (.cell a 3)).run Tryz.prog w = .ok (.int .i64 n) w := by
 have hc : w.cell? ⟨b, 0, none⟩ = some (.int .i64 n) := by rw [Ya hb]; rfl
 simp only [Ybt, Sem.run_bind, ha]
 simp [asAddr, go_sem, hc]
theorem Yjn {tmps : Array Value} {w : World} (a : Tmp) (b : Nat) (n : Int) (ha : tmps.getD a undef = .pointer (some ⟨b, 0, none⟩)) (hb : w.heap[b]? = some (.cells #[.int .i64 n] 32 (0, 0))) : (Ybt tmps (.cell a 32)).run Tryz.prog w = .ok (.int .i64 n) w := by
 have hc : w.cell? ⟨b, 0, none⟩ = some (.int .i64 n) := by rw [Ya hb]; rfl
 simp only [Ybt, Sem.run_bind, ha]
 simp [asAddr, go_sem, hc]
structure BArg (w : World) (v : Value) (L : List Int) (g : Nat) : Prop where
 b : Yes w v L g
 n : L.length ≤ maxLen
 r : BOk L
 c : ∀ b n c, v = .slice b n c → n ≤ c
 g : g ≤ w.heap.size
theorem Ynp {op : Oper} {a : Act} {w : World} {K : Act → World → Prop} {Q : Exit → Act → World → Prop} (i : Ins) (b : Nat) (x : Operand) (ho : op.op = .load 41 x) (hx : a.eval x = .pointer (some ⟨b, 0, none⟩))
  (hb : w.heap[b]? = some (.cells i.cells 41 (0, 0))) (hK : K (a.put op.dst (.agg i.cells)) w) : op.wp Tryz.prog a w K Q :=
 wp_load_mid 41 x ho b 0 hx i.cells.toList _ (Ye3 hb) Tryz.underlying41 rfl (by rw [Array.length_toList, Ins.size]; exact Ya1) (by rw [Array.toArray_toList]; exact hK)
theorem Ybp {op : Oper} {a : Act} {w : World} {K : Act → World → Prop} {Q : Exit → Act → World → Prop} (i : Ins) (b : Nat) (x y : Operand) (ho : op.op = .store 41 x y) (hx : a.eval x = .pointer (some ⟨b, 0, none⟩)) (hy : a.eval y = .agg i.cells)
  {c : Array Value} (hb : w.heap[b]? = some (.cells c 41 (0, 0))) (hc : c.size = 16) (hK : ∀ w', w.setCells b 0 i.cells.toList = w' → K (a.put op.dst undef) w') : op.wp Tryz.prog a w K Q := by
 refine wp_store_mid 41 x y ho b 0 i.cells hx hy (Yd8 hb 0 i.cells.size (by rw [hc, Ins.size]; exact Nat.le_refl _)) (by rw [Ins.size]; exact Ya1) i.one ?_
 exact hK _ rfl
structure DeR (w : World) (v : Value) (k : Nat) (i : Ins) (w1 : World) : Prop where
 i : w1.heap[w.heap.size]? = some (.cells i.cells 41 (0, 0))
 n : w1.heap[w.heap.size + 1]? = some (.cells #[.int .i64 0] 3 (0, 0))
 e : w1.heap[w.heap.size + 1 + 1]? = some (.cells #[.int .i64 0] 32 (0, 0))
 d : w1.heap[w.heap.size + 1 + 1 + 1]? = some (.cells #[v, .int .i64 k] 116 (0, 0))
 u : Upd [] w w1
theorem DeR.step {w w1 w2 : World} {v : Value} {k : Nat} {i : Ins} (h : DeR w v k i w1) (u : Upd [] w1 w2) : DeR w v k i w2 :=
 ⟨u.get h.i (by simp), u.get h.n (by simp), u.get h.e (by simp), u.get h.d (by simp), h.u.also u (by simp)⟩
theorem DeR.store {w w1 w2 : World} {v : Value} {k : Nat} {i : Ins} (h : DeR w v k i w1) (hw : w1.setCells w.heap.size 0 i.cells.toList = w2) : DeR w v k i w2 := by
 obtain ⟨z1, u⟩ := Ya7 (S := [w.heap.size]) (w0 := w1) hw h.i rfl (Upd.refl _ _) (.inl (by simp))
 exact ⟨z1, u.get h.n (by simp), u.get h.e (by simp <;> omega), u.get h.d (by simp <;> omega), h.u.also u (by simp)⟩
structure DeS (w : World) (v : Value) (L : List Int) (g k : Nat) (i : Ins) (w1 : World) : Prop where
 i : w1.heap[w.heap.size]? = some (.cells i.cells 41 (0, 0))
 n : w1.heap[w.heap.size + 1]? = some (.cells #[.int .i64 0] 3 (0, 0))
 e : w1.heap[w.heap.size + 1 + 1]? = some (.cells #[.int .i64 0] 32 (0, 0))
 d : Yc w1 (w.heap.size + 1 + 1 + 1) v L g k
 u : Upd [] w w1
theorem DeS.start {w : World} {v : Value} {L : List Int} {g : Nat} (hv : BArg w v L g) :
  DeS w v L g 0 Ins.zero ((((w.alloc (.cells Ins.zero.cells 41)).alloc (.cells #[.int .i64 0] 3)).alloc (.cells #[.int .i64 0] 32)).alloc (.cells #[v, .int .i64 0] 116)) := by
 have u : Upd [] w ((((w.alloc (.cells Ins.zero.cells 41)).alloc (.cells #[.int .i64 0] 3)).alloc (.cells #[.int .i64 0] 32)).alloc (.cells #[v, .int .i64 0] 116)) := ((((Upd.refl [] w).alloc _).alloc _).alloc _).alloc _
 have h1 := Ym (.cells #[v, .int .i64 0] 116) (Ym (.cells #[.int .i64 0] 32) (heap_alloc2_new w (.cells Ins.zero.cells 41) (.cells #[.int .i64 0] 3)))
 have h2 := Ym (.cells #[v, .int .i64 0] 116) (heap_alloc2_new (w.alloc (.cells Ins.zero.cells 41)) (.cells #[.int .i64 0] 3) (.cells #[.int .i64 0] 32))
 have h3 := heap_alloc2_new ((w.alloc (.cells Ins.zero.cells 41)).alloc (.cells #[.int .i64 0] 3)) (.cells #[.int .i64 0] 32) (.cells #[v, .int .i64 0] 116)
 refine ⟨Ym _ (Ym _ (Ym _ (heap_alloc_new _ _))), h1, by simpa using h2, ⟨by simpa using h3, hv.b.keep u (by simp), Nat.zero_le _, hv.n, by have := hv.g; omega, hv.r, hv.c⟩, u⟩
theorem Yop (v : Value) (L : List Int) (g : Nat) (w : World) (hv : BArg w v L g) (c : Int) (h : Ye4 L 0 = .err c) :
  Calls Tryz.prog 37 #[v] w fun e w' => e = .returned (.tuple #[Ins.zero.val, .int .i64 0, .int .i64 c]) ∧ Upd [] w w' := by
 have S := Yh_ (DeS.start hv)
 have hb := Yle _ g 0 v L _ S.out.d
 rw [h] at hb
 have HB := Yh_ hb
 obtain ⟨sb, sc, rfl⟩ := hv.b.form
 clear hv h hb
 go_enter_defers Tryz.func37, Tryz.ntmps37
 go_wp2_with (go_at_call 56; refine HB.out.mono ?_; rintro e w5 ⟨rfl, hu⟩; have H5 := Yh_ hu; clear hu)
 refine Yno (ib := w.heap.size) (nb := w.heap.size + 1) (eb := w.heap.size + 1 + 1) c (.tuple #[Ins.zero.val, .int .i64 0, .int .i64 c]) (fun w2 hi hn he hU => Yao rfl (Ys 2 w.heap.size _ rfl hi) (Yku 3 (w.heap.size + 1) 0 3 rfl hn) (Yjn 4 (w.heap.size + 1 + 1) c rfl he)) (H5.out.get S.out.i (by simp <;> omega)) (H5.out.get S.out.n (by simp <;> omega)) (H5.out.get S.out.e (by simp)) (by omega) (by omega) (by omega) (fun w2 hU => ⟨rfl, (S.out.u.also H5.out (by simp <;> omega)).also hU (by simp <;> omega)⟩)
theorem Ypf (v : Value) (L : List Int) (g : Nat) (w : World) (hv : BArg w v L g) (i : Ins) (k : Nat) (h : Ye4 L 0 = .ok i k) :
  Calls Tryz.prog 37 #[v] w fun e w' => e = .returned (.tuple #[({ i with len := k } : Ins).val, .int .i64 k, .int .i64 0]) ∧ Upd [] w w' := by
 have hmo : Tryz.prog.follows .mixedOrders = true := by kernel_rfl
 have S := Yh_ (DeS.start hv)
 have hb := Yle _ g 0 v L _ S.out.d
 rw [h] at hb
 have HB := Yh_ hb
 obtain ⟨sb, sc, rfl⟩ := hv.b.form
 clear hv h hb
 go_enter_defers Tryz.func37, Tryz.ntmps37
 go_upto_region 4 with (first | (go_at_call 56; refine HB.out.mono ?_; rintro e w5 ⟨rfl, hD5, hu⟩; have H5 := Yh_ (And.intro hD5 hu); clear hD5 hu) | (have _t := H5; clear _t; refine Ye 41 rfl ?_; refine Yd i w.heap.size rfl _ _ rfl rfl rfl (H5.out.2.get S.out.i (by simp <;> omega)) rfl ?_; intro w6 hw; obtain ⟨z1, z2⟩ := Ya7 (S := [w.heap.size]) (w0 := w5) hw (H5.out.2.get S.out.i (by simp <;> omega)) rfl (Upd.refl _ _) (.inl (by simp)); have H6 := Yh_ (And.intro z1 z2); clear z1 z2 hw))
 have HD6 := Yh_ (H6.out.2.get H5.out.1.h (by simp <;> omega))
 have HN6 := Yh_ (H6.out.2.get (H5.out.2.get S.out.n (by simp <;> omega)) (by simp <;> omega))
 have HE6 := Yh_ (H6.out.2.get (H5.out.2.get S.out.e (by simp)) (by simp <;> omega))
 have HU6 := Yh_ ((S.out.u.also H5.out.2 (by simp <;> omega)).also H6.out.2 (by simp))
 have cd := Ya HD6.out
 have ci := Ya H6.out.1
 have fi := Yn H6.out.1
 unfold Ins.cells at ci
 go_upto_region 5 with fail
 have u7 : Upd [w.heap.size] w6 (w6.setCell ⟨w.heap.size, 15, none⟩ (.int .i64 k)) := (Upd.refl _ _).setCell (by simp) _
 have HI7 := Yh_ (show (w6.setCell ⟨w.heap.size, 15, none⟩ (.int .i64 k)).heap[w.heap.size]? = some (.cells ({ i with len := k } : Ins).cells 41 (0, 0)) from Yh H6.out.1 15 (.int .i64 k))
 have HD7 := Yh_ (u7.get HD6.out (by simp <;> omega))
 have HN7 := Yh_ (u7.get HN6.out (by simp <;> omega))
 have HE7 := Yh_ (u7.get HE6.out (by simp <;> omega))
 have HU7 := Yh_ (HU6.out.also u7 (by simp))
 clear u7 cd ci fi HD6 HN6 HE6 HU6 H6 H5
 have HR := Yh_ (DeR.mk (k := k) (i := ({ i with len := k } : Ins)) HI7.out HN7.out HE7.out HD7.out HU7.out)
 clear HI7 HN7 HE7 HD7 HU7
 refine Yan 6 (DeR w (.slice sb L.length sc) k ({ i with len := k } : Ins)) (fun _ _ => False) (by kernel_rfl) (by kernel_rfl) (HR.out.step (Upd.refl [] _).drew) (fun _ _ _ h => h.elim) ?_
 simp only [List.take_succ_cons, List.take_zero, List.drop_succ_cons, List.drop_zero]
 apply Yu rfl rfl
 ·intro K hK w7 hB1
  refine Ynp ({ i with len := k } : Ins) w.heap.size _ rfl rfl hB1.i ?_
  go_simp
  exact hK _ hB1
 ·exact ⟨_, rfl⟩
 iterate 4
  apply Yu rfl rfl
  ·intro K hK w7 hB1
   have cd := Ya hB1.d
   have HB := Yh_ hB1
   clear hB1
   go_wp2_with fail
   first
   |exact hK _ HB.out
   |exact HB.out
  ·exact ⟨_, rfl⟩
 apply Yu rfl rfl
 ·intro K hK w7 hB1
  refine Ybp ({ i with len := k } : Ins) w.heap.size _ _ rfl rfl rfl hB1.i rfl ?_
  intro w8 hw
  exact hK _ (hB1.store hw)
 ·exact ⟨_, rfl⟩
 refine Yaf (fun _ w8 hB1 => ?_)
 have cn := Ya hB1.n
 have fn := Yn hB1.n
 have ce := Ya hB1.e
 have fe := Yn hB1.e
 have HB := Yh_ hB1
 clear hB1
 go_wp2_with fail
 refine Ypj (ib := w.heap.size) (nb := w.heap.size + 1) (eb := w.heap.size + 1 + 1) (.tuple #[({ i with len := k } : Ins).val, .int .i64 k, .int .i64 0]) (Yao rfl (Ys 2 w.heap.size _ rfl ?_) (Yku 3 (w.heap.size + 1) k 3 rfl ?_) (Yjn 4 (w.heap.size + 1 + 1) 0 rfl ?_)) ⟨rfl, ?_⟩
 ·exact Yg _ (by simp <;> omega) (Yg _ (by simp <;> omega) HB.out.i)
 ·exact Yg _ (by simp <;> omega) (Yh HB.out.n 0 (.int .i64 k))
 ·exact Yh (Yg (a := ⟨w.heap.size + 1, 0, none⟩) (.int .i64 k) (by simp) HB.out.e) 0 (.int .i64 0)
 ·exact (HB.out.u.setCell (.inr (by simp)) _).setCell (.inr (by simp <;> omega)) _
theorem Yeo (v : Value) (L : List Int) (g : Nat) (w : World) (hv : BArg w v L g) :
  Calls Tryz.prog 37 #[v] w fun e w' => e = .returned (.tuple #[(decI L).val, .int .i64 (decN L), .int .i64 (Yet L)]) ∧ Upd [] w w' := by
 cases h : Ye4 L 0 with
 |err c => simp only [decI, decN, Yet, h]; exact Yop v L g w hv c h
 |ok i k => simp only [decI, decN, Yet, h]; exact Ypf v L g w hv i k h
end Go.Proofs.YthakgjpejhjaoaaGreat
