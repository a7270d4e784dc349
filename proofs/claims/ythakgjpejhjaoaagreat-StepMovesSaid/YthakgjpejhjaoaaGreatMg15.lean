/-
  Parts of the proof (their names shortened by a program). No condition.
-/
import Derived.Test.YthakgjpejhjaoaaGreatMg01
import Derived.Test.YthakgjpejhjaoaaGreatMg14
namespace Go.Proofs.YthakgjpejhjaoaaGreat
open Go Go.RowKit
set_option linter.unusedVariables false
set_option linter.unusedSimpArgs false
set_option maxRecDepth 100000
set_option maxHeartbeats 16000000
theorem second_1 (d g k : Nat) (v : Value) (L : List Int) (w : World) (hD : Yc w d v L g k) (e : Int) (h : Yw L k = .err e) :
  Calls Tryz.prog 87 #[.pointer (some ⟨d, 0, none⟩)] w (Yl d v L g w (.err e) Ins.val) := by
 have HD := Yh_ hD
 have S1 := Yh_ (RS.start hD)
 have HP2 := Yh_ (fun (w1 : World) (hd1 : Yc w1 d v L g k) => by have := Yx d g k v L w1 hd1; rw [h] at this; exact this)
 clear hD h
 go_enter Tryz.func87, Tryz.ntmps87
 go_wp2_with (have _t := S1; clear _t; go_at_call 86; refine (HP2.out _ (S1.out).dd).mono ?_; rintro e w2 ⟨rfl, hu⟩)
 exact ⟨rfl, rfl, (S1.out).uu.also hu (by simp)⟩
theorem second_2 (d g k : Nat) (v : Value) (L : List Int) (w : World) (hD : Yc w d v L g k) (c : Int) (k1 : Nat) (h : Yw L k = .ok c k1) (hc : c = 11)  :
  Calls Tryz.prog 87 #[.pointer (some ⟨d, 0, none⟩)] w (Yl d v L g w (.err 90) Ins.val) := by
 have HD := Yh_ hD
 have S1 := Yh_ (RS.start hD)
 obtain ⟨c0, c1, hk0⟩ := Yz hD.r h
 clear hk0
 obtain ⟨cd, hcd⟩ : ∃ cd : Int, c % 16 = cd := ⟨_, rfl⟩
 have HF := Yh_ (show c / 2 ^ (0 : Int).toNat % 2 ^ (4 : Int).toNat = cd by show c / 1 % 16 = cd; omega)
 have qd : wrap64 cd = cd := by unfold wrap64; omega
 have qc : c % 4294967296 = c := by omega
 have HC := Yh_ (And.intro c0 c1)
 have f0 : (c == 11) = true := by simp; omega
 have HP2 := Yh_ (fun (w1 : World) (hd1 : Yc w1 d v L g k) => by have := Yx d g k v L w1 hd1; rw [h] at this; exact this)
 clear hD h c0 c1 hc hcd
 go_enter Tryz.func87, Tryz.ntmps87
 go_wp2_with (first | (have _t := S1; clear _t; go_at_call 86; refine (HP2.out _ (S1.out).dd).mono ?_; rintro e w2 ⟨rfl, hD2, hu⟩; have S2 := Yh_ ((S1.out).step hD2 hu); clear hD2 hu S1) | (go_at_call 104; refine (Yb0 c _ _ _ HC.out.1 (by have := HC.out; omega) (by decide) (by decide)).mono ?_; rintro e w9 ⟨rfl, rfl⟩; rw [HF.out]))
 exact ⟨rfl, rfl, (S2.out).uu⟩
theorem second_3 (d g k : Nat) (v : Value) (L : List Int) (w : World) (hD : Yc w d v L g k) (c : Int) (k1 : Nat) (h : Yw L k = .ok c k1) (hc : 64 ≤ c ∧ c < 80) (e : Int) (h4 : Yat L 35 true k1 = .err e) :
  Calls Tryz.prog 87 #[.pointer (some ⟨d, 0, none⟩)] w (Yl d v L g w (.err e) Ins.val) := by
 have HD := Yh_ hD
 have S1 := Yh_ (RS.start hD)
 obtain ⟨c0, c1, hk0⟩ := Yz hD.r h
 clear hk0
 obtain ⟨cd, hcd⟩ : ∃ cd : Int, c % 16 = cd := ⟨_, rfl⟩
 have HF := Yh_ (show c / 2 ^ (0 : Int).toNat % 2 ^ (4 : Int).toNat = cd by show c / 1 % 16 = cd; omega)
 have qd : wrap64 cd = cd := by unfold wrap64; omega
 have qc : c % 4294967296 = c := by omega
 have HC := Yh_ (And.intro c0 c1)
 have f0 : (c == 11) = false := by simp; omega
 have f1 : decide (64 ≤ c) = true := by simp; omega
 have f2 : decide (c < 80) = true := by simp; omega
 have HP2 := Yh_ (fun (w1 : World) (hd1 : Yc w1 d v L g k) => by have := Yx d g k v L w1 hd1; rw [h] at this; exact this)
 have HP3 := Yh_ (fun (w1 : World) (hd1 : Yc w1 d v L g k1) => by have := Ybq d g k1 v L 35 true w1 hd1; rw [h4] at this; exact this)
 clear hD h c0 c1 hc hcd h4
 go_enter Tryz.func87, Tryz.ntmps87
 go_wp2_with (first | (have _t := S1; clear _t; go_at_call 86; refine (HP2.out _ (S1.out).dd).mono ?_; rintro e w2 ⟨rfl, hD2, hu⟩; have S2 := Yh_ ((S1.out).step hD2 hu); clear hD2 hu S1) | (go_at_call 104; refine (Yb0 c _ _ _ HC.out.1 (by have := HC.out; omega) (by decide) (by decide)).mono ?_; rintro e w9 ⟨rfl, rfl⟩; rw [HF.out]) | (have _t := S2; clear _t; go_at_call 120; refine (HP3.out _ (S2.out).dd).mono ?_; rintro e w3 ⟨rfl, hu⟩))
 exact ⟨rfl, rfl, (S2.out).uu.also hu (by simp)⟩
theorem second_4 (d g k : Nat) (v : Value) (L : List Int) (w : World) (hD : Yc w d v L g k) (c : Int) (k1 : Nat) (h : Yw L k = .ok c k1) (hc : 64 ≤ c ∧ c < 80) (i : Ins) (k2 : Nat) (h4 : Yat L 35 true k1 = .ok i k2) :
  Calls Tryz.prog 87 #[.pointer (some ⟨d, 0, none⟩)] w (Yl d v L g w (.ok { i with cond := c % 16 } k2) Ins.val) := by
 have HD := Yh_ hD
 have S1 := Yh_ (RS.start hD)
 obtain ⟨c0, c1, hk0⟩ := Yz hD.r h
 clear hk0
 obtain ⟨cd, hcd⟩ : ∃ cd : Int, c % 16 = cd := ⟨_, rfl⟩
 have HF := Yh_ (show c / 2 ^ (0 : Int).toNat % 2 ^ (4 : Int).toNat = cd by show c / 1 % 16 = cd; omega)
 have qd : wrap64 cd = cd := by unfold wrap64; omega
 have qc : c % 4294967296 = c := by omega
 have HC := Yh_ (And.intro c0 c1)
 have f0 : (c == 11) = false := by simp; omega
 have f1 : decide (64 ≤ c) = true := by simp; omega
 have f2 : decide (c < 80) = true := by simp; omega
 rw [hcd]
 have HP2 := Yh_ (fun (w1 : World) (hd1 : Yc w1 d v L g k) => by have := Yx d g k v L w1 hd1; rw [h] at this; exact this)
 have HP3 := Yh_ (fun (w1 : World) (hd1 : Yc w1 d v L g k1) => by have := Ybq d g k1 v L 35 true w1 hd1; rw [h4] at this; exact this)
 clear hD h c0 c1 hc hcd h4
 go_enter Tryz.func87, Tryz.ntmps87
 go_wp2_with (first | (have _t := S1; clear _t; go_at_call 86; refine (HP2.out _ (S1.out).dd).mono ?_; rintro e w2 ⟨rfl, hD2, hu⟩; have S2 := Yh_ ((S1.out).step hD2 hu); clear hD2 hu S1) | (go_at_call 104; refine (Yb0 c _ _ _ HC.out.1 (by have := HC.out; omega) (by decide) (by decide)).mono ?_; rintro e w9 ⟨rfl, rfl⟩; rw [HF.out]) | (have _t := S2; clear _t; go_at_call 120; refine (HP3.out _ (S2.out).dd).mono ?_; rintro e w3 ⟨rfl, hD3, hu⟩; have S3 := Yh_ ((S2.out).step hD3 hu); clear hD3 hu S2) | (have _t := S3; clear _t; refine Ye 41 rfl ?_; refine Yd i w3.heap.size rfl _ _ rfl rfl rfl (heap_alloc_new w3 (.cells Ins.zero.cells 41)) rfl ?_; intro w4 hw; have h := Ya7 (S := [w3.heap.size]) (w0 := w3.alloc (.cells Ins.zero.cells 41)) hw (heap_alloc_new w3 (.cells Ins.zero.cells 41)) rfl (Upd.refl _ _) (.inl (by simp)); have HN := Yh_ (And.intro (S3.out).lt (And.intro (Yj (S3.out).dd.h) (S3.out).nn)); have S4 := Yh_ (((S3.out).same ((Upd.refl [] w3).alloc (.cells Ins.zero.cells 41))).far HD.out h.2 (S3.out).lt); have HI4 := Yh_ h.1; have cq := Ya HI4.out; unfold Ins.cells at cq; have fq := Yn HI4.out; clear hw h S3) | (have _t := HI4; clear _t; refine Yar 41 rfl ?_; refine Yaw ({ i with cond := cd } : Ins) w3.heap.size rfl _ rfl rfl (Yhx (HI4.out) cd) ?_) | (have _t := S4; clear _t; refine Ye 41 rfl ?_; refine Yd ({ i with cond := cd } : Ins) w.heap.size rfl _ _ rfl rfl rfl ((S4.out).far HD.out ((Upd.refl [w3.heap.size] w4).setCell (p := ⟨w3.heap.size, 1, none⟩) (by simp) (.int .i64 cd)) HN.out.1).rr rfl ?_; intro w5 hw; have S5 := Yh_ (((S4.out).far HD.out ((Upd.refl [w3.heap.size] w4).setCell (p := ⟨w3.heap.size, 1, none⟩) (by simp) (.int .i64 cd)) HN.out.1).store HD.out rfl hw); clear hw S4))
 exact bodyPost_ret (Yf rfl (Ys 2 w.heap.size _ rfl S5.out.rr)) rfl ⟨rfl, S5.out.dd, S5.out.uu⟩
theorem second_5 (d g k : Nat) (v : Value) (L : List Int) (w : World) (hD : Yc w d v L g k) (c : Int) (k1 : Nat) (h : Yw L k = .ok c k1) (hc : 128 ≤ c ∧ c < 144) (e : Int) (h4 : Yak L k1 = .err e) :
  Calls Tryz.prog 87 #[.pointer (some ⟨d, 0, none⟩)] w (Yl d v L g w (.err e) Ins.val) := by
 have HD := Yh_ hD
 have S1 := Yh_ (RS.start hD)
 obtain ⟨c0, c1, hk0⟩ := Yz hD.r h
 clear hk0
 obtain ⟨cd, hcd⟩ : ∃ cd : Int, c % 16 = cd := ⟨_, rfl⟩
 have HF := Yh_ (show c / 2 ^ (0 : Int).toNat % 2 ^ (4 : Int).toNat = cd by show c / 1 % 16 = cd; omega)
 have qd : wrap64 cd = cd := by unfold wrap64; omega
 have qc : c % 4294967296 = c := by omega
 have HC := Yh_ (And.intro c0 c1)
 have f0 : (c == 11) = false := by simp; omega
 have f1 : decide (64 ≤ c) = true := by simp; omega
 have f2 : decide (c < 80) = false := by simp; omega
 have f3 : decide (128 ≤ c) = true := by simp; omega
 have f4 : decide (c < 144) = true := by simp; omega
 have HP2 := Yh_ (fun (w1 : World) (hd1 : Yc w1 d v L g k) => by have := Yx d g k v L w1 hd1; rw [h] at this; exact this)
 have HP3 := Yh_ (fun (w1 : World) (hd1 : Yc w1 d v L g k1) => by have := Ybo d g k1 v L w1 hd1; rw [h4] at this; exact this)
 clear hD h c0 c1 hc hcd h4
 go_enter Tryz.func87, Tryz.ntmps87
 go_wp2_with (first | (have _t := S1; clear _t; go_at_call 86; refine (HP2.out _ (S1.out).dd).mono ?_; rintro e w2 ⟨rfl, hD2, hu⟩; have S2 := Yh_ ((S1.out).step hD2 hu); clear hD2 hu S1) | (go_at_call 104; refine (Yb0 c _ _ _ HC.out.1 (by have := HC.out; omega) (by decide) (by decide)).mono ?_; rintro e w9 ⟨rfl, rfl⟩; rw [HF.out]) | (have _t := S2; clear _t; go_at_call 92; refine (HP3.out _ (S2.out).dd).mono ?_; rintro e w3 ⟨rfl, hu⟩))
 exact ⟨rfl, rfl, (S2.out).uu.also hu (by simp)⟩
theorem second_6 (d g k : Nat) (v : Value) (L : List Int) (w : World) (hD : Yc w d v L g k) (c : Int) (k1 : Nat) (h : Yw L k = .ok c k1) (hc : 128 ≤ c ∧ c < 144) (o : Opd) (k2 : Nat) (h4 : Yak L k1 = .ok o k2) :
  Calls Tryz.prog 87 #[.pointer (some ⟨d, 0, none⟩)] w (Yl d v L g w (.ok ⟨33, c % 16, o, Opd.none, false, 0⟩ k2) Ins.val) := by
 have HD := Yh_ hD
 have S1 := Yh_ (RS.start hD)
 obtain ⟨c0, c1, hk0⟩ := Yz hD.r h
 clear hk0
 obtain ⟨cd, hcd⟩ : ∃ cd : Int, c % 16 = cd := ⟨_, rfl⟩
 have HF := Yh_ (show c / 2 ^ (0 : Int).toNat % 2 ^ (4 : Int).toNat = cd by show c / 1 % 16 = cd; omega)
 have qd : wrap64 cd = cd := by unfold wrap64; omega
 have qc : c % 4294967296 = c := by omega
 have HC := Yh_ (And.intro c0 c1)
 have f0 : (c == 11) = false := by simp; omega
 have f1 : decide (64 ≤ c) = true := by simp; omega
 have f2 : decide (c < 80) = false := by simp; omega
 have f3 : decide (128 ≤ c) = true := by simp; omega
 have f4 : decide (c < 144) = true := by simp; omega
 rw [hcd]
 have HP2 := Yh_ (fun (w1 : World) (hd1 : Yc w1 d v L g k) => by have := Yx d g k v L w1 hd1; rw [h] at this; exact this)
 have HP3 := Yh_ (fun (w1 : World) (hd1 : Yc w1 d v L g k1) => by have := Ybo d g k1 v L w1 hd1; rw [h4] at this; exact this)
 clear hD h c0 c1 hc hcd h4
 go_enter Tryz.func87, Tryz.ntmps87
 go_wp2_with (first | (have _t := S1; clear _t; go_at_call 86; refine (HP2.out _ (S1.out).dd).mono ?_; rintro e w2 ⟨rfl, hD2, hu⟩; have S2 := Yh_ ((S1.out).step hD2 hu); clear hD2 hu S1) | (go_at_call 104; refine (Yb0 c _ _ _ HC.out.1 (by have := HC.out; omega) (by decide) (by decide)).mono ?_; rintro e w9 ⟨rfl, rfl⟩; rw [HF.out]) | (have _t := S2; clear _t; go_at_call 92; refine (HP3.out _ (S2.out).dd).mono ?_; rintro e w3 ⟨rfl, hD3, hu⟩; unfold Opd.val; have S3 := Yh_ ((S2.out).step hD3 hu); clear hD3 hu S2) | (have _t := S3; clear _t; refine Ye 41 rfl ?_; refine Yd ⟨33, cd, o, Opd.none, false, 0⟩ w.heap.size rfl _ _ rfl rfl rfl (S3.out).rr rfl ?_; intro w4 hw; have S4 := Yh_ ((S3.out).store HD.out rfl hw); clear hw S3))
 exact bodyPost_ret (Yf rfl (Ys 2 w.heap.size _ rfl S4.out.rr)) rfl ⟨rfl, S4.out.dd, S4.out.uu⟩
theorem second_7 (d g k : Nat) (v : Value) (L : List Int) (w : World) (hD : Yc w d v L g k) (c : Int) (k1 : Nat) (h : Yw L k = .ok c k1) (hc : 144 ≤ c ∧ c < 160) (e : Int) (h4 : Yab L k1 = .err e) :
  Calls Tryz.prog 87 #[.pointer (some ⟨d, 0, none⟩)] w (Yl d v L g w (.err e) Ins.val) := by
 have HD := Yh_ hD
 have S1 := Yh_ (RS.start hD)
 obtain ⟨c0, c1, hk0⟩ := Yz hD.r h
 clear hk0
 obtain ⟨cd, hcd⟩ : ∃ cd : Int, c % 16 = cd := ⟨_, rfl⟩
 have HF := Yh_ (show c / 2 ^ (0 : Int).toNat % 2 ^ (4 : Int).toNat = cd by show c / 1 % 16 = cd; omega)
 have qd : wrap64 cd = cd := by unfold wrap64; omega
 have qc : c % 4294967296 = c := by omega
 have HC := Yh_ (And.intro c0 c1)
 have f0 : (c == 11) = false := by simp; omega
 have f1 : decide (64 ≤ c) = true := by simp; omega
 have f2 : decide (c < 80) = false := by simp; omega
 have f3 : decide (128 ≤ c) = true := by simp; omega
 have f4 : decide (c < 144) = false := by simp; omega
 have f5 : decide (144 ≤ c) = true := by simp; omega
 have f6 : decide (c < 160) = true := by simp; omega
 have HP2 := Yh_ (fun (w1 : World) (hd1 : Yc w1 d v L g k) => by have := Yx d g k v L w1 hd1; rw [h] at this; exact this)
 have HP3 := Yh_ (fun (w1 : World) (hd1 : Yc w1 d v L g k1) => by have := Yv d g k1 v L w1 hd1; rw [h4] at this; exact this)
 clear hD h c0 c1 hc hcd h4
 go_enter Tryz.func87, Tryz.ntmps87
 go_wp2_with (first | (have _t := S1; clear _t; go_at_call 86; refine (HP2.out _ (S1.out).dd).mono ?_; rintro e w2 ⟨rfl, hD2, hu⟩; have S2 := Yh_ ((S1.out).step hD2 hu); clear hD2 hu S1) | (go_at_call 104; refine (Yb0 c _ _ _ HC.out.1 (by have := HC.out; omega) (by decide) (by decide)).mono ?_; rintro e w9 ⟨rfl, rfl⟩; rw [HF.out]) | (have _t := S2; clear _t; go_at_call 121; refine (HP3.out _ (S2.out).dd).mono ?_; rintro e w3 ⟨rfl, hu⟩))
 exact ⟨rfl, rfl, (S2.out).uu.also hu (by simp)⟩
theorem second_8 (d g k : Nat) (v : Value) (L : List Int) (w : World) (hD : Yc w d v L g k) (c : Int) (k1 : Nat) (h : Yw L k = .ok c k1) (hc : 144 ≤ c ∧ c < 160) (m : Mrm) (k2 : Nat) (h4 : Yab L k1 = .ok m k2) (h5 : m.reg ≠ 0) :
  Calls Tryz.prog 87 #[.pointer (some ⟨d, 0, none⟩)] w (Yl d v L g w (.err 12) Ins.val) := by
 have HD := Yh_ hD
 have S1 := Yh_ (RS.start hD)
 obtain ⟨c0, c1, hk0⟩ := Yz hD.r h
 clear hk0
 obtain ⟨cd, hcd⟩ : ∃ cd : Int, c % 16 = cd := ⟨_, rfl⟩
 have HF := Yh_ (show c / 2 ^ (0 : Int).toNat % 2 ^ (4 : Int).toNat = cd by show c / 1 % 16 = cd; omega)
 have qd : wrap64 cd = cd := by unfold wrap64; omega
 have qc : c % 4294967296 = c := by omega
 have HC := Yh_ (And.intro c0 c1)
 have f0 : (c == 11) = false := by simp; omega
 have f1 : decide (64 ≤ c) = true := by simp; omega
 have f2 : decide (c < 80) = false := by simp; omega
 have f3 : decide (128 ≤ c) = true := by simp; omega
 have f4 : decide (c < 144) = false := by simp; omega
 have f5 : decide (144 ≤ c) = true := by simp; omega
 have f6 : decide (c < 160) = true := by simp; omega
 have e2 : (m.reg != 0) = true := by simpa using h5
 have HP2 := Yh_ (fun (w1 : World) (hd1 : Yc w1 d v L g k) => by have := Yx d g k v L w1 hd1; rw [h] at this; exact this)
 have HP3 := Yh_ (fun (w1 : World) (hd1 : Yc w1 d v L g k1) => by have := Yv d g k1 v L w1 hd1; rw [h4] at this; exact this)
 clear hD h c0 c1 hc hcd h4 h5
 go_enter Tryz.func87, Tryz.ntmps87
 go_wp2_with (first | (have _t := S1; clear _t; go_at_call 86; refine (HP2.out _ (S1.out).dd).mono ?_; rintro e w2 ⟨rfl, hD2, hu⟩; have S2 := Yh_ ((S1.out).step hD2 hu); clear hD2 hu S1) | (go_at_call 104; refine (Yb0 c _ _ _ HC.out.1 (by have := HC.out; omega) (by decide) (by decide)).mono ?_; rintro e w9 ⟨rfl, rfl⟩; rw [HF.out]) | (have _t := S2; clear _t; go_at_call 121; refine (HP3.out _ (S2.out).dd).mono ?_; rintro e w3 ⟨rfl, hD3, hu⟩; unfold Mrm.cells; have S3 := Yh_ ((S2.out).step hD3 hu); clear hD3 hu S2))
 exact ⟨rfl, rfl, ((S3.out).same ((Upd.refl [] w3).alloc (.cells m.cells 171))).uu⟩
theorem second_9 (d g k : Nat) (v : Value) (L : List Int) (w : World) (hD : Yc w d v L g k) (c : Int) (k1 : Nat) (h : Yw L k = .ok c k1) (hc : 144 ≤ c ∧ c < 160) (m : Mrm) (k2 : Nat) (h4 : Yab L k1 = .ok m k2) (h5 : m.reg = 0) (e : Int) (h6 : Yba L 34 m k2 = .err e) :
  Calls Tryz.prog 87 #[.pointer (some ⟨d, 0, none⟩)] w (Yl d v L g w (.err e) Ins.val) := by
 have HD := Yh_ hD
 have S1 := Yh_ (RS.start hD)
 obtain ⟨c0, c1, hk0⟩ := Yz hD.r h
 clear hk0
 obtain ⟨cd, hcd⟩ : ∃ cd : Int, c % 16 = cd := ⟨_, rfl⟩
 have HF := Yh_ (show c / 2 ^ (0 : Int).toNat % 2 ^ (4 : Int).toNat = cd by show c / 1 % 16 = cd; omega)
 have qd : wrap64 cd = cd := by unfold wrap64; omega
 have qc : c % 4294967296 = c := by omega
 have HC := Yh_ (And.intro c0 c1)
 have f0 : (c == 11) = false := by simp; omega
 have f1 : decide (64 ≤ c) = true := by simp; omega
 have f2 : decide (c < 80) = false := by simp; omega
 have f3 : decide (128 ≤ c) = true := by simp; omega
 have f4 : decide (c < 144) = false := by simp; omega
 have f5 : decide (144 ≤ c) = true := by simp; omega
 have f6 : decide (c < 160) = true := by simp; omega
 have e2 : (m.reg != 0) = false := by simp [h5]
 have hok := Yaj hD.r h4
 have HP2 := Yh_ (fun (w1 : World) (hd1 : Yc w1 d v L g k) => by have := Yx d g k v L w1 hd1; rw [h] at this; exact this)
 have HP3 := Yh_ (fun (w1 : World) (hd1 : Yc w1 d v L g k1) => by have := Yv d g k1 v L w1 hd1; rw [h4] at this; exact this)
 have HP4 := Yh_ (fun (w1 : World) (hd1 : Yc w1 d v L g k2) => by have := Ybc d g k2 v L 34 m w1 hd1 hok; rw [h6] at this; exact this)
 clear hD h c0 c1 hc hcd h4 h5 h6 hok
 go_enter Tryz.func87, Tryz.ntmps87
 go_wp2_with (first | (have _t := S1; clear _t; go_at_call 86; refine (HP2.out _ (S1.out).dd).mono ?_; rintro e w2 ⟨rfl, hD2, hu⟩; have S2 := Yh_ ((S1.out).step hD2 hu); clear hD2 hu S1) | (go_at_call 104; refine (Yb0 c _ _ _ HC.out.1 (by have := HC.out; omega) (by decide) (by decide)).mono ?_; rintro e w9 ⟨rfl, rfl⟩; rw [HF.out]) | (have _t := S2; clear _t; go_at_call 121; refine (HP3.out _ (S2.out).dd).mono ?_; rintro e w3 ⟨rfl, hD3, hu⟩; unfold Mrm.cells; have S3 := Yh_ ((S2.out).step hD3 hu); clear hD3 hu S2) | (have _t := S3; clear _t; go_at_call 122; refine (HP4.out _ ((S3.out).same ((Upd.refl [] w3).alloc (.cells m.cells 171))).dd).mono ?_; rintro e w4 ⟨rfl, hu⟩))
 exact ⟨rfl, rfl, ((S3.out).same ((Upd.refl [] w3).alloc (.cells m.cells 171))).uu.also hu (by simp)⟩
theorem Ypb (d g k : Nat) (v : Value) (L : List Int) (w : World) (hD : Yc w d v L g k) (c : Int) (k1 : Nat) (h : Yw L k = .ok c k1) (hc : 144 ≤ c ∧ c < 160) (m : Mrm) (k2 : Nat) (h4 : Yab L k1 = .ok m k2) (h5 : m.reg = 0) (o : Opd) (k3 : Nat) (h6 : Yba L 34 m k2 = .ok ⟨34, 0, o, Opd.none, false, 0⟩ k3) :
  Calls Tryz.prog 87 #[.pointer (some ⟨d, 0, none⟩)] w (Yl d v L g w (.ok ⟨34, c % 16, o, Opd.none, false, 0⟩ k3) Ins.val) := by
 have HD := Yh_ hD
 have S1 := Yh_ (RS.start hD)
 obtain ⟨c0, c1, hk0⟩ := Yz hD.r h
 clear hk0
 obtain ⟨cd, hcd⟩ : ∃ cd : Int, c % 16 = cd := ⟨_, rfl⟩
 have HF := Yh_ (show c / 2 ^ (0 : Int).toNat % 2 ^ (4 : Int).toNat = cd by show c / 1 % 16 = cd; omega)
 have qd : wrap64 cd = cd := by unfold wrap64; omega
 have qc : c % 4294967296 = c := by omega
 have HC := Yh_ (And.intro c0 c1)
 have f0 : (c == 11) = false := by simp; omega
 have f1 : decide (64 ≤ c) = true := by simp; omega
 have f2 : decide (c < 80) = false := by simp; omega
 have f3 : decide (128 ≤ c) = true := by simp; omega
 have f4 : decide (c < 144) = false := by simp; omega
 have f5 : decide (144 ≤ c) = true := by simp; omega
 have f6 : decide (c < 160) = true := by simp; omega
 rw [hcd]
 have e2 : (m.reg != 0) = false := by simp [h5]
 have hok := Yaj hD.r h4
 have HP2 := Yh_ (fun (w1 : World) (hd1 : Yc w1 d v L g k) => by have := Yx d g k v L w1 hd1; rw [h] at this; exact this)
 have HP3 := Yh_ (fun (w1 : World) (hd1 : Yc w1 d v L g k1) => by have := Yv d g k1 v L w1 hd1; rw [h4] at this; exact this)
 have HP4 := Yh_ (fun (w1 : World) (hd1 : Yc w1 d v L g k2) => by have := Ybc d g k2 v L 34 m w1 hd1 hok; rw [h6] at this; exact this)
 clear hD h c0 c1 hc hcd h4 h5 h6 hok
 go_enter Tryz.func87, Tryz.ntmps87
 go_wp2_with (first | (have _t := S1; clear _t; go_at_call 86; refine (HP2.out _ (S1.out).dd).mono ?_; rintro e w2 ⟨rfl, hD2, hu⟩; have S2 := Yh_ ((S1.out).step hD2 hu); clear hD2 hu S1) | (go_at_call 104; refine (Yb0 c _ _ _ HC.out.1 (by have := HC.out; omega) (by decide) (by decide)).mono ?_; rintro e w9 ⟨rfl, rfl⟩; rw [HF.out]) | (have _t := S2; clear _t; go_at_call 121; refine (HP3.out _ (S2.out).dd).mono ?_; rintro e w3 ⟨rfl, hD3, hu⟩; unfold Mrm.cells; have S3 := Yh_ ((S2.out).step hD3 hu); clear hD3 hu S2) | (have _t := S3; clear _t; go_at_call 122; refine (HP4.out _ ((S3.out).same ((Upd.refl [] w3).alloc (.cells m.cells 171))).dd).mono ?_; rintro e w4 ⟨rfl, hD4, hu⟩; have S4 := Yh_ (((S3.out).same ((Upd.refl [] w3).alloc (.cells m.cells 171))).step hD4 hu); clear hD4 hu S3) | (have _t := S4; clear _t; refine Ye 41 rfl ?_; refine Yd ⟨34, 0, o, Opd.none, false, 0⟩ w4.heap.size rfl _ _ rfl rfl rfl (heap_alloc_new w4 (.cells Ins.zero.cells 41)) rfl ?_; intro w5 hw; have h := Ya7 (S := [w4.heap.size]) (w0 := w4.alloc (.cells Ins.zero.cells 41)) hw (heap_alloc_new w4 (.cells Ins.zero.cells 41)) rfl (Upd.refl _ _) (.inl (by simp)); have HN := Yh_ (And.intro (S4.out).lt (And.intro (Yj (S4.out).dd.h) (S4.out).nn)); have S5 := Yh_ (((S4.out).same ((Upd.refl [] w4).alloc (.cells Ins.zero.cells 41))).far HD.out h.2 (S4.out).lt); have HI5 := Yh_ h.1; have cq := Ya HI5.out; unfold Ins.cells at cq; have fq := Yn HI5.out; clear hw h S4) | (have _t := HI5; clear _t; refine Yar 41 rfl ?_; refine Yaw ⟨34, cd, o, Opd.none, false, 0⟩ w4.heap.size rfl _ rfl rfl (Yhx (HI5.out) cd) ?_) | (have _t := S5; clear _t; refine Ye 41 rfl ?_; refine Yd ⟨34, cd, o, Opd.none, false, 0⟩ w.heap.size rfl _ _ rfl rfl rfl ((S5.out).far HD.out ((Upd.refl [w4.heap.size] w5).setCell (p := ⟨w4.heap.size, 1, none⟩) (by simp) (.int .i64 cd)) HN.out.1).rr rfl ?_; intro w6 hw; have S6 := Yh_ (((S5.out).far HD.out ((Upd.refl [w4.heap.size] w5).setCell (p := ⟨w4.heap.size, 1, none⟩) (by simp) (.int .i64 cd)) HN.out.1).store HD.out rfl hw); clear hw S5))
 exact bodyPost_ret (Yf rfl (Ys 2 w.heap.size _ rfl S6.out.rr)) rfl ⟨rfl, S6.out.dd, S6.out.uu⟩
theorem Ymh (d g k : Nat) (v : Value) (L : List Int) (w : World) (hD : Yc w d v L g k) (c : Int) (k1 : Nat) (h : Yw L k = .ok c k1) (hc : c = 175) (e : Int) (h4 : Yat L 18 true k1 = .err e) :
  Calls Tryz.prog 87 #[.pointer (some ⟨d, 0, none⟩)] w (Yl d v L g w (.err e) Ins.val) := by
 have HD := Yh_ hD
 have S1 := Yh_ (RS.start hD)
 obtain ⟨c0, c1, hk0⟩ := Yz hD.r h
 clear hk0
 obtain ⟨cd, hcd⟩ : ∃ cd : Int, c % 16 = cd := ⟨_, rfl⟩
 have HF := Yh_ (show c / 2 ^ (0 : Int).toNat % 2 ^ (4 : Int).toNat = cd by show c / 1 % 16 = cd; omega)
 have qd : wrap64 cd = cd := by unfold wrap64; omega
 have qc : c % 4294967296 = c := by omega
 have HC := Yh_ (And.intro c0 c1)
 have f0 : (c == 11) = false := by simp; omega
 have f1 : decide (64 ≤ c) = true := by simp; omega
 have f2 : decide (c < 80) = false := by simp; omega
 have f3 : decide (128 ≤ c) = true := by simp; omega
 have f4 : decide (c < 144) = false := by simp; omega
 have f5 : decide (144 ≤ c) = true := by simp; omega
 have f6 : decide (c < 160) = false := by simp; omega
 have f7 : (c == 175) = true := by simp; omega
 have HP2 := Yh_ (fun (w1 : World) (hd1 : Yc w1 d v L g k) => by have := Yx d g k v L w1 hd1; rw [h] at this; exact this)
 have HP3 := Yh_ (fun (w1 : World) (hd1 : Yc w1 d v L g k1) => by have := Ybq d g k1 v L 18 true w1 hd1; rw [h4] at this; exact this)
 clear hD h c0 c1 hc hcd h4
 go_enter Tryz.func87, Tryz.ntmps87
 go_wp2_with (first | (have _t := S1; clear _t; go_at_call 86; refine (HP2.out _ (S1.out).dd).mono ?_; rintro e w2 ⟨rfl, hD2, hu⟩; have S2 := Yh_ ((S1.out).step hD2 hu); clear hD2 hu S1) | (go_at_call 104; refine (Yb0 c _ _ _ HC.out.1 (by have := HC.out; omega) (by decide) (by decide)).mono ?_; rintro e w9 ⟨rfl, rfl⟩; rw [HF.out]) | (have _t := S2; clear _t; go_at_call 120; refine (HP3.out _ (S2.out).dd).mono ?_; rintro e w3 ⟨rfl, hu⟩))
 exact ⟨rfl, rfl, (S2.out).uu.also hu (by simp)⟩
theorem Ynl (d g k : Nat) (v : Value) (L : List Int) (w : World) (hD : Yc w d v L g k) (c : Int) (k1 : Nat) (h : Yw L k = .ok c k1) (hc : c = 175) (i : Ins) (k2 : Nat) (h4 : Yat L 18 true k1 = .ok i k2) :
  Calls Tryz.prog 87 #[.pointer (some ⟨d, 0, none⟩)] w (Yl d v L g w (.ok i k2) Ins.val) := by
 have HD := Yh_ hD
 have S1 := Yh_ (RS.start hD)
 obtain ⟨c0, c1, hk0⟩ := Yz hD.r h
 clear hk0
 obtain ⟨cd, hcd⟩ : ∃ cd : Int, c % 16 = cd := ⟨_, rfl⟩
 have HF := Yh_ (show c / 2 ^ (0 : Int).toNat % 2 ^ (4 : Int).toNat = cd by show c / 1 % 16 = cd; omega)
 have qd : wrap64 cd = cd := by unfold wrap64; omega
 have qc : c % 4294967296 = c := by omega
 have HC := Yh_ (And.intro c0 c1)
 have f0 : (c == 11) = false := by simp; omega
 have f1 : decide (64 ≤ c) = true := by simp; omega
 have f2 : decide (c < 80) = false := by simp; omega
 have f3 : decide (128 ≤ c) = true := by simp; omega
 have f4 : decide (c < 144) = false := by simp; omega
 have f5 : decide (144 ≤ c) = true := by simp; omega
 have f6 : decide (c < 160) = false := by simp; omega
 have f7 : (c == 175) = true := by simp; omega
 have HP2 := Yh_ (fun (w1 : World) (hd1 : Yc w1 d v L g k) => by have := Yx d g k v L w1 hd1; rw [h] at this; exact this)
 have HP3 := Yh_ (fun (w1 : World) (hd1 : Yc w1 d v L g k1) => by have := Ybq d g k1 v L 18 true w1 hd1; rw [h4] at this; exact this)
 clear hD h c0 c1 hc hcd h4
 go_enter Tryz.func87, Tryz.ntmps87
 go_wp2_with (first | (have _t := S1; clear _t; go_at_call 86; refine (HP2.out _ (S1.out).dd).mono ?_; rintro e w2 ⟨rfl, hD2, hu⟩; have S2 := Yh_ ((S1.out).step hD2 hu); clear hD2 hu S1) | (go_at_call 104; refine (Yb0 c _ _ _ HC.out.1 (by have := HC.out; omega) (by decide) (by decide)).mono ?_; rintro e w9 ⟨rfl, rfl⟩; rw [HF.out]) | (have _t := S2; clear _t; go_at_call 120; refine (HP3.out _ (S2.out).dd).mono ?_; rintro e w3 ⟨rfl, hD3, hu⟩; have S3 := Yh_ ((S2.out).step hD3 hu); clear hD3 hu S2) | (have _t := S3; clear _t; refine Ye 41 rfl ?_; refine Yd i w.heap.size rfl _ _ rfl rfl rfl (S3.out).rr rfl ?_; intro w4 hw; have S4 := Yh_ ((S3.out).store HD.out rfl hw); clear hw S3))
 exact bodyPost_ret (Yf rfl (Ys 2 w.heap.size _ rfl S4.out.rr)) rfl ⟨rfl, S4.out.dd, S4.out.uu⟩
theorem Ym8 (d g k : Nat) (v : Value) (L : List Int) (w : World) (hD : Yc w d v L g k) (c : Int) (k1 : Nat) (h : Yw L k = .ok c k1) (hc : c = 182) (e : Int) (h4 : Yat L 36 true k1 = .err e) :
  Calls Tryz.prog 87 #[.pointer (some ⟨d, 0, none⟩)] w (Yl d v L g w (.err e) Ins.val) := by
 have HD := Yh_ hD
 have S1 := Yh_ (RS.start hD)
 obtain ⟨c0, c1, hk0⟩ := Yz hD.r h
 clear hk0
 obtain ⟨cd, hcd⟩ : ∃ cd : Int, c % 16 = cd := ⟨_, rfl⟩
 have HF := Yh_ (show c / 2 ^ (0 : Int).toNat % 2 ^ (4 : Int).toNat = cd by show c / 1 % 16 = cd; omega)
 have qd : wrap64 cd = cd := by unfold wrap64; omega
 have qc : c % 4294967296 = c := by omega
 have HC := Yh_ (And.intro c0 c1)
 have f0 : (c == 11) = false := by simp; omega
 have f1 : decide (64 ≤ c) = true := by simp; omega
 have f2 : decide (c < 80) = false := by simp; omega
 have f3 : decide (128 ≤ c) = true := by simp; omega
 have f4 : decide (c < 144) = false := by simp; omega
 have f5 : decide (144 ≤ c) = true := by simp; omega
 have f6 : decide (c < 160) = false := by simp; omega
 have f7 : (c == 175) = false := by simp; omega
 have f8 : (c == 182) = true := by simp; omega
 have HP2 := Yh_ (fun (w1 : World) (hd1 : Yc w1 d v L g k) => by have := Yx d g k v L w1 hd1; rw [h] at this; exact this)
 have HP3 := Yh_ (fun (w1 : World) (hd1 : Yc w1 d v L g k1) => by have := Ybq d g k1 v L 36 true w1 hd1; rw [h4] at this; exact this)
 clear hD h c0 c1 hc hcd h4
 go_enter Tryz.func87, Tryz.ntmps87
 go_wp2_with (first | (have _t := S1; clear _t; go_at_call 86; refine (HP2.out _ (S1.out).dd).mono ?_; rintro e w2 ⟨rfl, hD2, hu⟩; have S2 := Yh_ ((S1.out).step hD2 hu); clear hD2 hu S1) | (go_at_call 104; refine (Yb0 c _ _ _ HC.out.1 (by have := HC.out; omega) (by decide) (by decide)).mono ?_; rintro e w9 ⟨rfl, rfl⟩; rw [HF.out]) | (have _t := S2; clear _t; go_at_call 120; refine (HP3.out _ (S2.out).dd).mono ?_; rintro e w3 ⟨rfl, hu⟩))
 exact ⟨rfl, rfl, (S2.out).uu.also hu (by simp)⟩
theorem Ynx (d g k : Nat) (v : Value) (L : List Int) (w : World) (hD : Yc w d v L g k) (c : Int) (k1 : Nat) (h : Yw L k = .ok c k1) (hc : c = 182) (i : Ins) (k2 : Nat) (h4 : Yat L 36 true k1 = .ok i k2) :
  Calls Tryz.prog 87 #[.pointer (some ⟨d, 0, none⟩)] w (Yl d v L g w (.ok i k2) Ins.val) := by
 have HD := Yh_ hD
 have S1 := Yh_ (RS.start hD)
 obtain ⟨c0, c1, hk0⟩ := Yz hD.r h
 clear hk0
 obtain ⟨cd, hcd⟩ : ∃ cd : Int, c % 16 = cd := ⟨_, rfl⟩
 have HF := Yh_ (show c / 2 ^ (0 : Int).toNat % 2 ^ (4 : Int).toNat = cd by show c / 1 % 16 = cd; omega)
 have qd : wrap64 cd = cd := by unfold wrap64; omega
 have qc : c % 4294967296 = c := by omega
 have HC := Yh_ (And.intro c0 c1)
 have f0 : (c == 11) = false := by simp; omega
 have f1 : decide (64 ≤ c) = true := by simp; omega
 have f2 : decide (c < 80) = false := by simp; omega
 have f3 : decide (128 ≤ c) = true := by simp; omega
 have f4 : decide (c < 144) = false := by simp; omega
 have f5 : decide (144 ≤ c) = true := by simp; omega
 have f6 : decide (c < 160) = false := by simp; omega
 have f7 : (c == 175) = false := by simp; omega
 have f8 : (c == 182) = true := by simp; omega
 have HP2 := Yh_ (fun (w1 : World) (hd1 : Yc w1 d v L g k) => by have := Yx d g k v L w1 hd1; rw [h] at this; exact this)
 have HP3 := Yh_ (fun (w1 : World) (hd1 : Yc w1 d v L g k1) => by have := Ybq d g k1 v L 36 true w1 hd1; rw [h4] at this; exact this)
 clear hD h c0 c1 hc hcd h4
 go_enter Tryz.func87, Tryz.ntmps87
 go_wp2_with (first | (have _t := S1; clear _t; go_at_call 86; refine (HP2.out _ (S1.out).dd).mono ?_; rintro e w2 ⟨rfl, hD2, hu⟩; have S2 := Yh_ ((S1.out).step hD2 hu); clear hD2 hu S1) | (go_at_call 104; refine (Yb0 c _ _ _ HC.out.1 (by have := HC.out; omega) (by decide) (by decide)).mono ?_; rintro e w9 ⟨rfl, rfl⟩; rw [HF.out]) | (have _t := S2; clear _t; go_at_call 120; refine (HP3.out _ (S2.out).dd).mono ?_; rintro e w3 ⟨rfl, hD3, hu⟩; have S3 := Yh_ ((S2.out).step hD3 hu); clear hD3 hu S2) | (have _t := S3; clear _t; refine Ye 41 rfl ?_; refine Yd i w.heap.size rfl _ _ rfl rfl rfl (S3.out).rr rfl ?_; intro w4 hw; have S4 := Yh_ ((S3.out).store HD.out rfl hw); clear hw S3))
 exact bodyPost_ret (Yf rfl (Ys 2 w.heap.size _ rfl S4.out.rr)) rfl ⟨rfl, S4.out.dd, S4.out.uu⟩
theorem Ynv (d g k : Nat) (v : Value) (L : List Int) (w : World) (hD : Yc w d v L g k) (c : Int) (k1 : Nat) (h : Yw L k = .ok c k1) (hc : c = 190) (e : Int) (h4 : Yat L 37 true k1 = .err e) :
  Calls Tryz.prog 87 #[.pointer (some ⟨d, 0, none⟩)] w (Yl d v L g w (.err e) Ins.val) := by
 have HD := Yh_ hD
 have S1 := Yh_ (RS.start hD)
 obtain ⟨c0, c1, hk0⟩ := Yz hD.r h
 clear hk0
 obtain ⟨cd, hcd⟩ : ∃ cd : Int, c % 16 = cd := ⟨_, rfl⟩
 have HF := Yh_ (show c / 2 ^ (0 : Int).toNat % 2 ^ (4 : Int).toNat = cd by show c / 1 % 16 = cd; omega)
 have qd : wrap64 cd = cd := by unfold wrap64; omega
 have qc : c % 4294967296 = c := by omega
 have HC := Yh_ (And.intro c0 c1)
 have f0 : (c == 11) = false := by simp; omega
 have f1 : decide (64 ≤ c) = true := by simp; omega
 have f2 : decide (c < 80) = false := by simp; omega
 have f3 : decide (128 ≤ c) = true := by simp; omega
 have f4 : decide (c < 144) = false := by simp; omega
 have f5 : decide (144 ≤ c) = true := by simp; omega
 have f6 : decide (c < 160) = false := by simp; omega
 have f7 : (c == 175) = false := by simp; omega
 have f8 : (c == 182) = false := by simp; omega
 have f9 : (c == 190) = true := by simp; omega
 have HP2 := Yh_ (fun (w1 : World) (hd1 : Yc w1 d v L g k) => by have := Yx d g k v L w1 hd1; rw [h] at this; exact this)
 have HP3 := Yh_ (fun (w1 : World) (hd1 : Yc w1 d v L g k1) => by have := Ybq d g k1 v L 37 true w1 hd1; rw [h4] at this; exact this)
 clear hD h c0 c1 hc hcd h4
 go_enter Tryz.func87, Tryz.ntmps87
 go_wp2_with (first | (have _t := S1; clear _t; go_at_call 86; refine (HP2.out _ (S1.out).dd).mono ?_; rintro e w2 ⟨rfl, hD2, hu⟩; have S2 := Yh_ ((S1.out).step hD2 hu); clear hD2 hu S1) | (go_at_call 104; refine (Yb0 c _ _ _ HC.out.1 (by have := HC.out; omega) (by decide) (by decide)).mono ?_; rintro e w9 ⟨rfl, rfl⟩; rw [HF.out]) | (have _t := S2; clear _t; go_at_call 120; refine (HP3.out _ (S2.out).dd).mono ?_; rintro e w3 ⟨rfl, hu⟩))
 exact ⟨rfl, rfl, (S2.out).uu.also hu (by simp)⟩
theorem Yny (d g k : Nat) (v : Value) (L : List Int) (w : World) (hD : Yc w d v L g k) (c : Int) (k1 : Nat) (h : Yw L k = .ok c k1) (hc : c = 190) (i : Ins) (k2 : Nat) (h4 : Yat L 37 true k1 = .ok i k2) :
  Calls Tryz.prog 87 #[.pointer (some ⟨d, 0, none⟩)] w (Yl d v L g w (.ok i k2) Ins.val) := by
 have HD := Yh_ hD
 have S1 := Yh_ (RS.start hD)
 obtain ⟨c0, c1, hk0⟩ := Yz hD.r h
 clear hk0
 obtain ⟨cd, hcd⟩ : ∃ cd : Int, c % 16 = cd := ⟨_, rfl⟩
 have HF := Yh_ (show c / 2 ^ (0 : Int).toNat % 2 ^ (4 : Int).toNat = cd by show c / 1 % 16 = cd; omega)
 have qd : wrap64 cd = cd := by unfold wrap64; omega
 have qc : c % 4294967296 = c := by omega
 have HC := Yh_ (And.intro c0 c1)
 have f0 : (c == 11) = false := by simp; omega
 have f1 : decide (64 ≤ c) = true := by simp; omega
 have f2 : decide (c < 80) = false := by simp; omega
 have f3 : decide (128 ≤ c) = true := by simp; omega
 have f4 : decide (c < 144) = false := by simp; omega
 have f5 : decide (144 ≤ c) = true := by simp; omega
 have f6 : decide (c < 160) = false := by simp; omega
 have f7 : (c == 175) = false := by simp; omega
 have f8 : (c == 182) = false := by simp; omega
 have f9 : (c == 190) = true := by simp; omega
 have HP2 := Yh_ (fun (w1 : World) (hd1 : Yc w1 d v L g k) => by have := Yx d g k v L w1 hd1; rw [h] at this; exact this)
 have HP3 := Yh_ (fun (w1 : World) (hd1 : Yc w1 d v L g k1) => by have := Ybq d g k1 v L 37 true w1 hd1; rw [h4] at this; exact this)
 clear hD h c0 c1 hc hcd h4
 go_enter Tryz.func87, Tryz.ntmps87
 go_wp2_with (first | (have _t := S1; clear _t; go_at_call 86; refine (HP2.out _ (S1.out).dd).mono ?_; rintro e w2 ⟨rfl, hD2, hu⟩; have S2 := Yh_ ((S1.out).step hD2 hu); clear hD2 hu S1) | (go_at_call 104; refine (Yb0 c _ _ _ HC.out.1 (by have := HC.out; omega) (by decide) (by decide)).mono ?_; rintro e w9 ⟨rfl, rfl⟩; rw [HF.out]) | (have _t := S2; clear _t; go_at_call 120; refine (HP3.out _ (S2.out).dd).mono ?_; rintro e w3 ⟨rfl, hD3, hu⟩; have S3 := Yh_ ((S2.out).step hD3 hu); clear hD3 hu S2) | (have _t := S3; clear _t; refine Ye 41 rfl ?_; refine Yd i w.heap.size rfl _ _ rfl rfl rfl (S3.out).rr rfl ?_; intro w4 hw; have S4 := Yh_ ((S3.out).store HD.out rfl hw); clear hw S3))
 exact bodyPost_ret (Yf rfl (Ys 2 w.heap.size _ rfl S4.out.rr)) rfl ⟨rfl, S4.out.dd, S4.out.uu⟩
theorem Ypc (d g k : Nat) (v : Value) (L : List Int) (w : World) (hD : Yc w d v L g k) (c : Int) (k1 : Nat) (h : Yw L k = .ok c k1) (hc : c < 64 ∧ c ≠ 11)  :
  Calls Tryz.prog 87 #[.pointer (some ⟨d, 0, none⟩)] w (Yl d v L g w (.err 12) Ins.val) := by
 have HD := Yh_ hD
 have S1 := Yh_ (RS.start hD)
 obtain ⟨c0, c1, hk0⟩ := Yz hD.r h
 clear hk0
 obtain ⟨cd, hcd⟩ : ∃ cd : Int, c % 16 = cd := ⟨_, rfl⟩
 have HF := Yh_ (show c / 2 ^ (0 : Int).toNat % 2 ^ (4 : Int).toNat = cd by show c / 1 % 16 = cd; omega)
 have qd : wrap64 cd = cd := by unfold wrap64; omega
 have qc : c % 4294967296 = c := by omega
 have HC := Yh_ (And.intro c0 c1)
 have f0 : (c == 11) = false := by simp; omega
 have f1 : decide (64 ≤ c) = false := by simp; omega
 have f2 : decide (128 ≤ c) = false := by simp; omega
 have f3 : decide (144 ≤ c) = false := by simp; omega
 have f4 : (c == 175) = false := by simp; omega
 have f5 : (c == 182) = false := by simp; omega
 have f6 : (c == 190) = false := by simp; omega
 have HP2 := Yh_ (fun (w1 : World) (hd1 : Yc w1 d v L g k) => by have := Yx d g k v L w1 hd1; rw [h] at this; exact this)
 clear hD h c0 c1 hc hcd
 go_enter Tryz.func87, Tryz.ntmps87
 go_wp2_with (first | (have _t := S1; clear _t; go_at_call 86; refine (HP2.out _ (S1.out).dd).mono ?_; rintro e w2 ⟨rfl, hD2, hu⟩; have S2 := Yh_ ((S1.out).step hD2 hu); clear hD2 hu S1) | (go_at_call 104; refine (Yb0 c _ _ _ HC.out.1 (by have := HC.out; omega) (by decide) (by decide)).mono ?_; rintro e w9 ⟨rfl, rfl⟩; rw [HF.out]))
 exact ⟨rfl, rfl, (S2.out).uu⟩
theorem Yo7 (d g k : Nat) (v : Value) (L : List Int) (w : World) (hD : Yc w d v L g k) (c : Int) (k1 : Nat) (h : Yw L k = .ok c k1) (hc : 80 ≤ c ∧ c < 128)  :
  Calls Tryz.prog 87 #[.pointer (some ⟨d, 0, none⟩)] w (Yl d v L g w (.err 12) Ins.val) := by
 have HD := Yh_ hD
 have S1 := Yh_ (RS.start hD)
 obtain ⟨c0, c1, hk0⟩ := Yz hD.r h
 clear hk0
 obtain ⟨cd, hcd⟩ : ∃ cd : Int, c % 16 = cd := ⟨_, rfl⟩
 have HF := Yh_ (show c / 2 ^ (0 : Int).toNat % 2 ^ (4 : Int).toNat = cd by show c / 1 % 16 = cd; omega)
 have qd : wrap64 cd = cd := by unfold wrap64; omega
 have qc : c % 4294967296 = c := by omega
 have HC := Yh_ (And.intro c0 c1)
 have f0 : (c == 11) = false := by simp; omega
 have f1 : decide (64 ≤ c) = true := by simp; omega
 have f2 : decide (c < 80) = false := by simp; omega
 have f3 : decide (128 ≤ c) = false := by simp; omega
 have f4 : decide (144 ≤ c) = false := by simp; omega
 have f5 : (c == 175) = false := by simp; omega
 have f6 : (c == 182) = false := by simp; omega
 have f7 : (c == 190) = false := by simp; omega
 have HP2 := Yh_ (fun (w1 : World) (hd1 : Yc w1 d v L g k) => by have := Yx d g k v L w1 hd1; rw [h] at this; exact this)
 clear hD h c0 c1 hc hcd
 go_enter Tryz.func87, Tryz.ntmps87
 go_wp2_with (first | (have _t := S1; clear _t; go_at_call 86; refine (HP2.out _ (S1.out).dd).mono ?_; rintro e w2 ⟨rfl, hD2, hu⟩; have S2 := Yh_ ((S1.out).step hD2 hu); clear hD2 hu S1) | (go_at_call 104; refine (Yb0 c _ _ _ HC.out.1 (by have := HC.out; omega) (by decide) (by decide)).mono ?_; rintro e w9 ⟨rfl, rfl⟩; rw [HF.out]))
 exact ⟨rfl, rfl, (S2.out).uu⟩
theorem Yo9 (d g k : Nat) (v : Value) (L : List Int) (w : World) (hD : Yc w d v L g k) (c : Int) (k1 : Nat) (h : Yw L k = .ok c k1) (hc : 160 ≤ c ∧ c ≠ 175 ∧ c ≠ 182 ∧ c ≠ 190)  :
  Calls Tryz.prog 87 #[.pointer (some ⟨d, 0, none⟩)] w (Yl d v L g w (.err 12) Ins.val) := by
 have HD := Yh_ hD
 have S1 := Yh_ (RS.start hD)
 obtain ⟨c0, c1, hk0⟩ := Yz hD.r h
 clear hk0
 obtain ⟨cd, hcd⟩ : ∃ cd : Int, c % 16 = cd := ⟨_, rfl⟩
 have HF := Yh_ (show c / 2 ^ (0 : Int).toNat % 2 ^ (4 : Int).toNat = cd by show c / 1 % 16 = cd; omega)
 have qd : wrap64 cd = cd := by unfold wrap64; omega
 have qc : c % 4294967296 = c := by omega
 have HC := Yh_ (And.intro c0 c1)
 have f0 : (c == 11) = false := by simp; omega
 have f1 : decide (64 ≤ c) = true := by simp; omega
 have f2 : decide (c < 80) = false := by simp; omega
 have f3 : decide (128 ≤ c) = true := by simp; omega
 have f4 : decide (c < 144) = false := by simp; omega
 have f5 : decide (144 ≤ c) = true := by simp; omega
 have f6 : decide (c < 160) = false := by simp; omega
 have f7 : (c == 175) = false := by simp; omega
 have f8 : (c == 182) = false := by simp; omega
 have f9 : (c == 190) = false := by simp; omega
 have HP2 := Yh_ (fun (w1 : World) (hd1 : Yc w1 d v L g k) => by have := Yx d g k v L w1 hd1; rw [h] at this; exact this)
 clear hD h c0 c1 hc hcd
 go_enter Tryz.func87, Tryz.ntmps87
 go_wp2_with (first | (have _t := S1; clear _t; go_at_call 86; refine (HP2.out _ (S1.out).dd).mono ?_; rintro e w2 ⟨rfl, hD2, hu⟩; have S2 := Yh_ ((S1.out).step hD2 hu); clear hD2 hu S1) | (go_at_call 104; refine (Yb0 c _ _ _ HC.out.1 (by have := HC.out; omega) (by decide) (by decide)).mono ?_; rintro e w9 ⟨rfl, rfl⟩; rw [HF.out]))
 exact ⟨rfl, rfl, (S2.out).uu⟩
theorem Yiz (d g k : Nat) (v : Value) (L : List Int) (w : World) (hD : Yc w d v L g k) :
  Calls Tryz.prog 87 #[.pointer (some ⟨d, 0, none⟩)] w (Yl d v L g w (Yew L k) Ins.val) := by
 unfold Yew
 cases h : Yw L k with
 |err e => exact second_1 d g k v L w hD e h
 |ok c k1 =>
  rw [DR.bind_ok]
  by_cases h11 : c = 11
  ·rw [if_pos h11]; exact second_2 d g k v L w hD c k1 h h11
  rw [if_neg h11]
  by_cases ha : 64 ≤ c ∧ c < 80
  ·rw [if_pos ha]
   cases h4 : Yat L 35 true k1 with
   |err e => exact second_3 d g k v L w hD c k1 h ha e h4
   |ok i k2 => exact second_4 d g k v L w hD c k1 h ha i k2 h4
  rw [if_neg ha]
  by_cases hb : 128 ≤ c ∧ c < 144
  ·rw [if_pos hb]
   cases h4 : Yak L k1 with
   |err e => exact second_5 d g k v L w hD c k1 h hb e h4
   |ok o k2 => exact second_6 d g k v L w hD c k1 h hb o k2 h4
  rw [if_neg hb]
  by_cases hc : 144 ≤ c ∧ c < 160
  ·rw [if_pos hc]
   cases h4 : Yab L k1 with
   |err e => exact second_7 d g k v L w hD c k1 h hc e h4
   |ok m k2 =>
    rw [DR.bind_ok]
    by_cases h5 : m.reg = 0
    ·rw [if_neg (by simpa using h5)]
     cases h6 : Ybb L m k2 with
     |err e => exact second_9 d g k v L w hD c k1 h hc m k2 h4 h5 e (Yfn h6)
     |ok o k3 => exact Ypb d g k v L w hD c k1 h hc m k2 h4 h5 o k3 (Ycs h6)
    ·rw [if_pos h5]; exact second_8 d g k v L w hD c k1 h hc m k2 h4 h5
  rw [if_neg hc]
  by_cases h175 : c = 175
  ·rw [if_pos h175]
   cases h4 : Yat L 18 true k1 with
   |err e => exact Ymh d g k v L w hD c k1 h h175 e h4
   |ok i k2 => exact Ynl d g k v L w hD c k1 h h175 i k2 h4
  rw [if_neg h175]
  by_cases h182 : c = 182
  ·rw [if_pos h182]
   cases h4 : Yat L 36 true k1 with
   |err e => exact Ym8 d g k v L w hD c k1 h h182 e h4
   |ok i k2 => exact Ynx d g k v L w hD c k1 h h182 i k2 h4
  rw [if_neg h182]
  by_cases h190 : c = 190
  ·rw [if_pos h190]
   cases h4 : Yat L 37 true k1 with
   |err e => exact Ynv d g k v L w hD c k1 h h190 e h4
   |ok i k2 => exact Yny d g k v L w hD c k1 h h190 i k2 h4
  rw [if_neg h190]
  by_cases hd : c < 64
  ·exact Ypc d g k v L w hD c k1 h ⟨hd, h11⟩
  by_cases he : c < 128
  ·exact Yo7 d g k v L w hD c k1 h ⟨by omega, he⟩
  exact Yo9 d g k v L w hD c k1 h ⟨by omega, h175, h182, h190⟩
end Go.Proofs.YthakgjpejhjaoaaGreat
