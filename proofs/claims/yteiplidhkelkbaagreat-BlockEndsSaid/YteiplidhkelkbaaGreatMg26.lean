/-
  Parts of the proof (their names shortened by a program). No condition.
-/
import Derived.Test.YteiplidhkelkbaaGreatMg01
import Derived.Test.YteiplidhkelkbaaGreatMg25
namespace Go.Proofs.YteiplidhkelkbaaGreat
open Go Go.RowKit
set_option linter.unusedVariables false
set_option linter.unusedSimpArgs false
set_option maxRecDepth 100000
set_option maxHeartbeats 16000000
theorem Yh1 {n : Int} (h0 : 0 ≤ n) (h1 : n < 8) (w : World) : (Instr.index 113 (.agg #[.int .i64 3, .int .i64 4, .int .i64 5, .int .i64 6, .int .i64 7, .int .i64 8, .int .i64 9, .int .i64 10]) (.int .u8 n)).run Tryz.prog w = .ok (.int .i64 (Yag n)) w := by
 rcases Yhz h0 h1 with rfl | rfl | rfl | rfl | rfl | rfl | rfl | rfl <;> kernel_rfl
theorem Yut {L : List Int} {c : Int} {s : Rd} {q : RI} (h : Yc1 L c s = some q) : q.e = false := by
 unfold Yc1 at h
 by_cases e : c = 104
 ·rw [if_pos e] at h; injection h with h; subst h; rfl
 rw [if_neg e] at h; clear e
 by_cases e : c = 106
 ·rw [if_pos e] at h; injection h with h; subst h; rfl
 rw [if_neg e] at h; clear e
 by_cases e : c = 144
 ·rw [if_pos e] at h; injection h with h; subst h; rfl
 rw [if_neg e] at h; clear e
 by_cases e : c = 153
 ·rw [if_pos e] at h; injection h with h; subst h; rfl
 rw [if_neg e] at h; clear e
 by_cases e : c = 165
 ·rw [if_pos e] at h; injection h with h; subst h; rfl
 rw [if_neg e] at h; clear e
 by_cases e : c = 169
 ·rw [if_pos e] at h; injection h with h; subst h; rfl
 rw [if_neg e] at h; clear e
 by_cases e : c = 171
 ·rw [if_pos e] at h; injection h with h; subst h; rfl
 rw [if_neg e] at h; clear e
 by_cases e : c = 195
 ·rw [if_pos e] at h; injection h with h; subst h; rfl
 rw [if_neg e] at h; clear e
 by_cases e : c = 232
 ·rw [if_pos e] at h; injection h with h; subst h; rfl
 rw [if_neg e] at h; clear e
 by_cases e : c = 233
 ·rw [if_pos e] at h; injection h with h; subst h; rfl
 rw [if_neg e] at h; clear e
 by_cases e : c = 235
 ·rw [if_pos e] at h; injection h with h; subst h; rfl
 rw [if_neg e] at h; clear e
 by_cases e : c = 252
 ·rw [if_pos e] at h; injection h with h; subst h; rfl
 rw [if_neg e] at h; clear e
 by_cases e : c = 253
 ·rw [if_pos e] at h; injection h with h; subst h; rfl
 rw [if_neg e] at h; clear e
 by_cases e : c = 205
 ·rw [if_pos e] at h; injection h with h; subst h; rfl
 rw [if_neg e] at h; clear e
 by_cases e : c = 243
 ·rw [if_pos e] at h
  by_cases e1 : reB L s = 165
  ·rw [if_pos e1] at h; injection h with h; subst h; rfl
  rw [if_neg e1] at h
  by_cases e2 : reB L s = 171
  ·rw [if_pos e2] at h; injection h with h; subst h; rfl
  rw [if_neg e2] at h; injection h with h; subst h; rfl
 rw [if_neg e] at h
 cases h
theorem rinsn_s (d g : Nat) (s : Rd) (v : Value) (L : List Int) (w : World) (hD : Yl w d v L g s) (c : Int) (hce : reB L s = c) (k2 : Nat) (hs2 : Ym L s = ⟨k2, true, false⟩)  :
  Calls Tryz.prog 37 #[.pointer (some ⟨d, 0, none⟩)] w (Yr d v L g w ⟨Ins.zero, false, ⟨k2, true, false⟩⟩) := by
 have hcr := Yae hD.r s
 rw [hce] at hcr
 have HCE := Yh_ hce
 have HS2 := Yh_ hs2
 obtain ⟨b15, b7⟩ := Ybn c hcr
 have H1 := Yh_ (RiS.start hD)
 clear hD hce hs2 hcr
 go_enter Tryz.func37, Tryz.ntmps37
 go_wp2_with (first | (have _t := H1; clear _t; go_at_call 53; refine (Yy d g _ _ L _ (H1.out).h).mono ?_; rintro e w2 ⟨rfl, h, hu⟩; rw [HCE.out]; rw [HS2.out] at h; have H2 := Yh_ ((H1.out).call h hu); have cs := Ya h.h; have fs := Yh h.h; clear h hu H1) | (have _t := H2; clear _t; refine Ye 42 rfl ?_; refine Yb Ins.zero (w.heap.size) rfl _ _ rfl rfl rfl (H2.out).r (H2.out).z ?_; intro w3 hw; have H3 := Yh_ ((H2.out).store hw); clear hw H2))
 exact bodyPost_ret (Yg rfl (Yi 2 (w.heap.size) _ rfl H3.out.r) (Yk 3 rfl)) rfl ⟨rfl, H3.out.h, H3.out.u⟩
theorem rinsn_g1 (d g : Nat) (s : Rd) (v : Value) (L : List Int) (w : World) (hD : Yl w d v L g s) (c : Int) (hce : reB L s = c) (k2 : Nat) (hs2 : Ym L s = ⟨k2, false, false⟩) (hlt : c < 64) (hk : c % 8 = 1) (q : RI) (hq : Ydx L (Yag (c / 8)) 1 ⟨k2, false, false⟩ = q) :
  Calls Tryz.prog 37 #[.pointer (some ⟨d, 0, none⟩)] w (Yr d v L g w ⟨q.i, false, q.s⟩) := by
 have hcr := Yae hD.r s
 rw [hce] at hcr
 have HCE := Yh_ hce
 have HS2 := Yh_ hs2
 obtain ⟨b15, b7⟩ := Ybn c hcr
 have y1 : decide (c < 64) = true := by simp; omega
 have x1 : c % 8 = 1 := hk
 have HQ := Yh_ hq
 have hix := fun w : World => Yh1 (n := c / 8) (by omega) (by omega) w
 have H1 := Yh_ (RiS.start hD)
 clear hD hce hs2 hcr hlt hk hq
 go_enter Tryz.func37, Tryz.ntmps37
 go_wp2_with (first | (have _t := H1; clear _t; go_at_call 53; refine (Yy d g _ _ L _ (H1.out).h).mono ?_; rintro e w2 ⟨rfl, h, hu⟩; rw [HCE.out]; rw [HS2.out] at h; have H2 := Yh_ ((H1.out).call h hu); have cs := Ya h.h; have fs := Yh h.h; clear h hu H1) | (have _t := H2; clear _t; go_at_call 55; refine (Yfz _).mono ?_; rintro e w3 ⟨rfl, hu⟩; have H3 := Yh_ ((H2.out).step hu); clear hu H2) | (have _t := H3; clear _t; go_at_call 54; refine (Yiu d g _ _ L _ (H3.out).h (Yag (c / 8)) 1 (by decide)).mono ?_; rintro e w4 ⟨rfl, h, hu⟩; rw [HQ.out] at h ⊢; have H4 := Yh_ ((H3.out).call h hu); clear h hu H3) | (have _t := H4; clear _t; refine Ye 42 rfl ?_; refine Yb q.i (w.heap.size) rfl _ _ rfl rfl rfl (H4.out).r (H4.out).z ?_; intro w5 hw; have H5 := Yh_ ((H4.out).store hw); clear hw H4))
 exact bodyPost_ret (Yg rfl (Yi 2 (w.heap.size) _ rfl H5.out.r) (Yk 3 rfl)) rfl ⟨rfl, H5.out.h, H5.out.u⟩
theorem rinsn_g3 (d g : Nat) (s : Rd) (v : Value) (L : List Int) (w : World) (hD : Yl w d v L g s) (c : Int) (hce : reB L s = c) (k2 : Nat) (hs2 : Ym L s = ⟨k2, false, false⟩) (hlt : c < 64) (hk : c % 8 = 3) (q : RI) (hq : Ydx L (Yag (c / 8)) 3 ⟨k2, false, false⟩ = q) :
  Calls Tryz.prog 37 #[.pointer (some ⟨d, 0, none⟩)] w (Yr d v L g w ⟨q.i, false, q.s⟩) := by
 have hcr := Yae hD.r s
 rw [hce] at hcr
 have HCE := Yh_ hce
 have HS2 := Yh_ hs2
 obtain ⟨b15, b7⟩ := Ybn c hcr
 have y1 : decide (c < 64) = true := by simp; omega
 have x1 : c % 8 = 3 := hk
 have HQ := Yh_ hq
 have hix := fun w : World => Yh1 (n := c / 8) (by omega) (by omega) w
 have H1 := Yh_ (RiS.start hD)
 clear hD hce hs2 hcr hlt hk hq
 go_enter Tryz.func37, Tryz.ntmps37
 go_wp2_with (first | (have _t := H1; clear _t; go_at_call 53; refine (Yy d g _ _ L _ (H1.out).h).mono ?_; rintro e w2 ⟨rfl, h, hu⟩; rw [HCE.out]; rw [HS2.out] at h; have H2 := Yh_ ((H1.out).call h hu); have cs := Ya h.h; have fs := Yh h.h; clear h hu H1) | (have _t := H2; clear _t; go_at_call 55; refine (Yfz _).mono ?_; rintro e w3 ⟨rfl, hu⟩; have H3 := Yh_ ((H2.out).step hu); clear hu H2) | (have _t := H3; clear _t; go_at_call 54; refine (Yiu d g _ _ L _ (H3.out).h (Yag (c / 8)) 3 (by decide)).mono ?_; rintro e w4 ⟨rfl, h, hu⟩; rw [HQ.out] at h ⊢; have H4 := Yh_ ((H3.out).call h hu); clear h hu H3) | (have _t := H4; clear _t; refine Ye 42 rfl ?_; refine Yb q.i (w.heap.size) rfl _ _ rfl rfl rfl (H4.out).r (H4.out).z ?_; intro w5 hw; have H5 := Yh_ ((H4.out).store hw); clear hw H4))
 exact bodyPost_ret (Yg rfl (Yi 2 (w.heap.size) _ rfl H5.out.r) (Yk 3 rfl)) rfl ⟨rfl, H5.out.h, H5.out.u⟩
theorem rinsn_g5 (d g : Nat) (s : Rd) (v : Value) (L : List Int) (w : World) (hD : Yl w d v L g s) (c : Int) (hce : reB L s = c) (k2 : Nat) (hs2 : Ym L s = ⟨k2, false, false⟩) (hlt : c < 64) (hk : c % 8 = 5) (q : RI) (hq : Ydx L (Yag (c / 8)) 5 ⟨k2, false, false⟩ = q) :
  Calls Tryz.prog 37 #[.pointer (some ⟨d, 0, none⟩)] w (Yr d v L g w ⟨q.i, false, q.s⟩) := by
 have hcr := Yae hD.r s
 rw [hce] at hcr
 have HCE := Yh_ hce
 have HS2 := Yh_ hs2
 obtain ⟨b15, b7⟩ := Ybn c hcr
 have y1 : decide (c < 64) = true := by simp; omega
 have x1 : c % 8 = 5 := hk
 have HQ := Yh_ hq
 have hix := fun w : World => Yh1 (n := c / 8) (by omega) (by omega) w
 have H1 := Yh_ (RiS.start hD)
 clear hD hce hs2 hcr hlt hk hq
 go_enter Tryz.func37, Tryz.ntmps37
 go_wp2_with (first | (have _t := H1; clear _t; go_at_call 53; refine (Yy d g _ _ L _ (H1.out).h).mono ?_; rintro e w2 ⟨rfl, h, hu⟩; rw [HCE.out]; rw [HS2.out] at h; have H2 := Yh_ ((H1.out).call h hu); have cs := Ya h.h; have fs := Yh h.h; clear h hu H1) | (have _t := H2; clear _t; go_at_call 55; refine (Yfz _).mono ?_; rintro e w3 ⟨rfl, hu⟩; have H3 := Yh_ ((H2.out).step hu); clear hu H2) | (have _t := H3; clear _t; go_at_call 54; refine (Yiu d g _ _ L _ (H3.out).h (Yag (c / 8)) 5 (by decide)).mono ?_; rintro e w4 ⟨rfl, h, hu⟩; rw [HQ.out] at h ⊢; have H4 := Yh_ ((H3.out).call h hu); clear h hu H3) | (have _t := H4; clear _t; refine Ye 42 rfl ?_; refine Yb q.i (w.heap.size) rfl _ _ rfl rfl rfl (H4.out).r (H4.out).z ?_; intro w5 hw; have H5 := Yh_ ((H4.out).store hw); clear hw H4))
 exact bodyPost_ret (Yg rfl (Yi 2 (w.heap.size) _ rfl H5.out.r) (Yk 3 rfl)) rfl ⟨rfl, H5.out.h, H5.out.u⟩
theorem rinsn_64 (d g : Nat) (s : Rd) (v : Value) (L : List Int) (w : World) (hD : Yl w d v L g s) (c : Int) (hce : reB L s = c) (k2 : Nat) (hs2 : Ym L s = ⟨k2, false, false⟩) (hlo : 64 ≤ c) (hhi : c < 72) :
  Calls Tryz.prog 37 #[.pointer (some ⟨d, 0, none⟩)] w (Yr d v L g w ⟨⟨12, 0, Yn (c % 8), Opd.none, false, 0⟩, false, ⟨k2, false, false⟩⟩) := by
 have hcr := Yae hD.r s
 rw [hce] at hcr
 have HCE := Yh_ hce
 have HS2 := Yh_ hs2
 obtain ⟨b15, b7⟩ := Ybn c hcr
 have y1 : decide (c < 64) = false := by simp; omega
 have z0 : decide (64 ≤ c) = true := by simp; omega
 have z1 : decide (c < 72) = true := by simp; omega
 have H1 := Yh_ (RiS.start hD)
 clear hD hce hs2 hcr hlo hhi
 go_enter Tryz.func37, Tryz.ntmps37
 go_wp2_with (first | (have _t := H1; clear _t; go_at_call 53; refine (Yy d g _ _ L _ (H1.out).h).mono ?_; rintro e w2 ⟨rfl, h, hu⟩; rw [HCE.out]; rw [HS2.out] at h; have H2 := Yh_ ((H1.out).call h hu); have cs := Ya h.h; have fs := Yh h.h; clear h hu H1) | (have _t := H2; clear _t; go_at_call 56; refine (Yba _ _).mono ?_; rintro e w3 ⟨rfl, hu⟩; rw [show (Yn (c % 8)).val = .agg #[.int .i64 1, .int .i64 (c % 8), .int .u32 0, .int .i64 0, .int .i64 0, .int .u32 0] from rfl]; have H3 := Yh_ ((H2.out).step hu); clear hu H2) | (have _t := H3; clear _t; refine Ye 42 rfl ?_; refine Yb ⟨12, 0, Yn (c % 8), Opd.none, false, 0⟩ (w.heap.size) rfl _ _ rfl rfl rfl (H3.out).r (H3.out).z ?_; intro w4 hw; have H4 := Yh_ ((H3.out).store hw); clear hw H3))
 exact bodyPost_ret (Yg rfl (Yi 2 (w.heap.size) _ rfl H4.out.r) (Yk 3 rfl)) rfl ⟨rfl, H4.out.h, H4.out.u⟩
theorem rinsn_72 (d g : Nat) (s : Rd) (v : Value) (L : List Int) (w : World) (hD : Yl w d v L g s) (c : Int) (hce : reB L s = c) (k2 : Nat) (hs2 : Ym L s = ⟨k2, false, false⟩) (hlo : 72 ≤ c) (hhi : c < 80) :
  Calls Tryz.prog 37 #[.pointer (some ⟨d, 0, none⟩)] w (Yr d v L g w ⟨⟨13, 0, Yn (c % 8), Opd.none, false, 0⟩, false, ⟨k2, false, false⟩⟩) := by
 have hcr := Yae hD.r s
 rw [hce] at hcr
 have HCE := Yh_ hce
 have HS2 := Yh_ hs2
 obtain ⟨b15, b7⟩ := Ybn c hcr
 have y1 : decide (c < 64) = false := by simp; omega
 have z0 : decide (64 ≤ c) = true := by simp; omega
 have z1 : decide (c < 72) = false := by simp; omega
 have z2 : decide (72 ≤ c) = true := by simp; omega
 have z3 : decide (c < 80) = true := by simp; omega
 have H1 := Yh_ (RiS.start hD)
 clear hD hce hs2 hcr hlo hhi
 go_enter Tryz.func37, Tryz.ntmps37
 go_wp2_with (first | (have _t := H1; clear _t; go_at_call 53; refine (Yy d g _ _ L _ (H1.out).h).mono ?_; rintro e w2 ⟨rfl, h, hu⟩; rw [HCE.out]; rw [HS2.out] at h; have H2 := Yh_ ((H1.out).call h hu); have cs := Ya h.h; have fs := Yh h.h; clear h hu H1) | (have _t := H2; clear _t; go_at_call 56; refine (Yba _ _).mono ?_; rintro e w3 ⟨rfl, hu⟩; rw [show (Yn (c % 8)).val = .agg #[.int .i64 1, .int .i64 (c % 8), .int .u32 0, .int .i64 0, .int .i64 0, .int .u32 0] from rfl]; have H3 := Yh_ ((H2.out).step hu); clear hu H2) | (have _t := H3; clear _t; refine Ye 42 rfl ?_; refine Yb ⟨13, 0, Yn (c % 8), Opd.none, false, 0⟩ (w.heap.size) rfl _ _ rfl rfl rfl (H3.out).r (H3.out).z ?_; intro w4 hw; have H4 := Yh_ ((H3.out).store hw); clear hw H3))
 exact bodyPost_ret (Yg rfl (Yi 2 (w.heap.size) _ rfl H4.out.r) (Yk 3 rfl)) rfl ⟨rfl, H4.out.h, H4.out.u⟩
theorem rinsn_80 (d g : Nat) (s : Rd) (v : Value) (L : List Int) (w : World) (hD : Yl w d v L g s) (c : Int) (hce : reB L s = c) (k2 : Nat) (hs2 : Ym L s = ⟨k2, false, false⟩) (hlo : 80 ≤ c) (hhi : c < 88) :
  Calls Tryz.prog 37 #[.pointer (some ⟨d, 0, none⟩)] w (Yr d v L g w ⟨⟨28, 0, Yn (c % 8), Opd.none, false, 0⟩, false, ⟨k2, false, false⟩⟩) := by
 have hcr := Yae hD.r s
 rw [hce] at hcr
 have HCE := Yh_ hce
 have HS2 := Yh_ hs2
 obtain ⟨b15, b7⟩ := Ybn c hcr
 have y1 : decide (c < 64) = false := by simp; omega
 have z0 : decide (64 ≤ c) = true := by simp; omega
 have z1 : decide (c < 72) = false := by simp; omega
 have z2 : decide (72 ≤ c) = true := by simp; omega
 have z3 : decide (c < 80) = false := by simp; omega
 have z4 : decide (80 ≤ c) = true := by simp; omega
 have z5 : decide (c < 88) = true := by simp; omega
 have H1 := Yh_ (RiS.start hD)
 clear hD hce hs2 hcr hlo hhi
 go_enter Tryz.func37, Tryz.ntmps37
 go_wp2_with (first | (have _t := H1; clear _t; go_at_call 53; refine (Yy d g _ _ L _ (H1.out).h).mono ?_; rintro e w2 ⟨rfl, h, hu⟩; rw [HCE.out]; rw [HS2.out] at h; have H2 := Yh_ ((H1.out).call h hu); have cs := Ya h.h; have fs := Yh h.h; clear h hu H1) | (have _t := H2; clear _t; go_at_call 56; refine (Yba _ _).mono ?_; rintro e w3 ⟨rfl, hu⟩; rw [show (Yn (c % 8)).val = .agg #[.int .i64 1, .int .i64 (c % 8), .int .u32 0, .int .i64 0, .int .i64 0, .int .u32 0] from rfl]; have H3 := Yh_ ((H2.out).step hu); clear hu H2) | (have _t := H3; clear _t; refine Ye 42 rfl ?_; refine Yb ⟨28, 0, Yn (c % 8), Opd.none, false, 0⟩ (w.heap.size) rfl _ _ rfl rfl rfl (H3.out).r (H3.out).z ?_; intro w4 hw; have H4 := Yh_ ((H3.out).store hw); clear hw H3))
 exact bodyPost_ret (Yg rfl (Yi 2 (w.heap.size) _ rfl H4.out.r) (Yk 3 rfl)) rfl ⟨rfl, H4.out.h, H4.out.u⟩
theorem rinsn_88 (d g : Nat) (s : Rd) (v : Value) (L : List Int) (w : World) (hD : Yl w d v L g s) (c : Int) (hce : reB L s = c) (k2 : Nat) (hs2 : Ym L s = ⟨k2, false, false⟩) (hlo : 88 ≤ c) (hhi : c < 96) :
  Calls Tryz.prog 37 #[.pointer (some ⟨d, 0, none⟩)] w (Yr d v L g w ⟨⟨29, 0, Yn (c % 8), Opd.none, false, 0⟩, false, ⟨k2, false, false⟩⟩) := by
 have hcr := Yae hD.r s
 rw [hce] at hcr
 have HCE := Yh_ hce
 have HS2 := Yh_ hs2
 obtain ⟨b15, b7⟩ := Ybn c hcr
 have y1 : decide (c < 64) = false := by simp; omega
 have z0 : decide (64 ≤ c) = true := by simp; omega
 have z1 : decide (c < 72) = false := by simp; omega
 have z2 : decide (72 ≤ c) = true := by simp; omega
 have z3 : decide (c < 80) = false := by simp; omega
 have z4 : decide (80 ≤ c) = true := by simp; omega
 have z5 : decide (c < 88) = false := by simp; omega
 have z6 : decide (88 ≤ c) = true := by simp; omega
 have z7 : decide (c < 96) = true := by simp; omega
 have H1 := Yh_ (RiS.start hD)
 clear hD hce hs2 hcr hlo hhi
 go_enter Tryz.func37, Tryz.ntmps37
 go_wp2_with (first | (have _t := H1; clear _t; go_at_call 53; refine (Yy d g _ _ L _ (H1.out).h).mono ?_; rintro e w2 ⟨rfl, h, hu⟩; rw [HCE.out]; rw [HS2.out] at h; have H2 := Yh_ ((H1.out).call h hu); have cs := Ya h.h; have fs := Yh h.h; clear h hu H1) | (have _t := H2; clear _t; go_at_call 56; refine (Yba _ _).mono ?_; rintro e w3 ⟨rfl, hu⟩; rw [show (Yn (c % 8)).val = .agg #[.int .i64 1, .int .i64 (c % 8), .int .u32 0, .int .i64 0, .int .i64 0, .int .u32 0] from rfl]; have H3 := Yh_ ((H2.out).step hu); clear hu H2) | (have _t := H3; clear _t; refine Ye 42 rfl ?_; refine Yb ⟨29, 0, Yn (c % 8), Opd.none, false, 0⟩ (w.heap.size) rfl _ _ rfl rfl rfl (H3.out).r (H3.out).z ?_; intro w4 hw; have H4 := Yh_ ((H3.out).store hw); clear hw H3))
 exact bodyPost_ret (Yg rfl (Yi 2 (w.heap.size) _ rfl H4.out.r) (Yk 3 rfl)) rfl ⟨rfl, H4.out.h, H4.out.u⟩
theorem Yt0 (d g : Nat) (s : Rd) (v : Value) (L : List Int) (w : World) (hD : Yl w d v L g s) (c : Int) (hce : reB L s = c) (k2 : Nat) (hs2 : Ym L s = ⟨k2, false, false⟩) (hlo : 112 ≤ c) (hhi : c < 128) :
  Calls Tryz.prog 37 #[.pointer (some ⟨d, 0, none⟩)] w (Yr d v L g w ⟨⟨33, c % 16, Yac (sx8 (reB L ⟨k2, false, false⟩)), Opd.none, false, 0⟩, false, (Ym L ⟨k2, false, false⟩)⟩) := by
 have hcr := Yae hD.r s
 rw [hce] at hcr
 have HCE := Yh_ hce
 have HS2 := Yh_ hs2
 obtain ⟨b15, b7⟩ := Ybn c hcr
 have y1 : decide (c < 64) = false := by simp; omega
 have z0 : decide (64 ≤ c) = true := by simp; omega
 have z1 : decide (c < 72) = false := by simp; omega
 have z2 : decide (72 ≤ c) = true := by simp; omega
 have z3 : decide (c < 80) = false := by simp; omega
 have z4 : decide (80 ≤ c) = true := by simp; omega
 have z5 : decide (c < 88) = false := by simp; omega
 have z6 : decide (88 ≤ c) = true := by simp; omega
 have z7 : decide (c < 96) = false := by simp; omega
 have z8 : decide (112 ≤ c) = true := by simp; omega
 have z9 : decide (c < 128) = true := by simp; omega
 have H1 := Yh_ (RiS.start hD)
 clear hD hce hs2 hcr hlo hhi
 go_enter Tryz.func37, Tryz.ntmps37
 go_wp2_with (first | (have _t := H1; clear _t; go_at_call 53; refine (Yy d g _ _ L _ (H1.out).h).mono ?_; rintro e w2 ⟨rfl, h, hu⟩; rw [HCE.out]; rw [HS2.out] at h; have H2 := Yh_ ((H1.out).call h hu); have cs := Ya h.h; have fs := Yh h.h; clear h hu H1) | (have _t := H2; clear _t; go_at_call 58; refine (Yez d g _ v L _ (H2.out).h).mono ?_; rintro e w3 ⟨rfl, h, hu⟩; have H3 := Yh_ ((H2.out).call h hu); clear h hu H2) | (have _t := H3; clear _t; go_at_call 57; refine (Ycb _ _).mono ?_; rintro e w4 ⟨rfl, hu⟩; rw [show (Yac (sx8 (reB L ⟨k2, false, false⟩))).val = .agg #[.int .i64 2, .int .i64 0, .int .u32 (sx8 (reB L ⟨k2, false, false⟩)), .int .i64 0, .int .i64 0, .int .u32 0] from rfl]; have H4 := Yh_ ((H3.out).step hu); clear hu H3) | (have _t := H4; clear _t; refine Ye 42 rfl ?_; refine Yb ⟨33, c % 16, Yac (sx8 (reB L ⟨k2, false, false⟩)), Opd.none, false, 0⟩ (w.heap.size) rfl _ _ rfl rfl rfl (H4.out).r (H4.out).z ?_; intro w5 hw; have H5 := Yh_ ((H4.out).store hw); clear hw H4))
 exact bodyPost_ret (Yg rfl (Yi 2 (w.heap.size) _ rfl H5.out.r) (Yk 3 rfl)) rfl ⟨rfl, H5.out.h, H5.out.u⟩
theorem Yuv (d g : Nat) (s : Rd) (v : Value) (L : List Int) (w : World) (hD : Yl w d v L g s) (c : Int) (hce : reB L s = c) (k2 : Nat) (hs2 : Ym L s = ⟨k2, false, false⟩) (hlo : 176 ≤ c) (hhi : c < 184) :
  Calls Tryz.prog 37 #[.pointer (some ⟨d, 0, none⟩)] w (Yr d v L g w ⟨⟨2, 0, Yn (c % 8), Yac (reB L ⟨k2, false, false⟩), false, 0⟩, false, (Ym L ⟨k2, false, false⟩)⟩) := by
 have hcr := Yae hD.r s
 rw [hce] at hcr
 have HCE := Yh_ hce
 have HS2 := Yh_ hs2
 obtain ⟨b15, b7⟩ := Ybn c hcr
 have y1 : decide (c < 64) = false := by simp; omega
 have z0 : decide (64 ≤ c) = true := by simp; omega
 have z1 : decide (c < 72) = false := by simp; omega
 have z2 : decide (72 ≤ c) = true := by simp; omega
 have z3 : decide (c < 80) = false := by simp; omega
 have z4 : decide (80 ≤ c) = true := by simp; omega
 have z5 : decide (c < 88) = false := by simp; omega
 have z6 : decide (88 ≤ c) = true := by simp; omega
 have z7 : decide (c < 96) = false := by simp; omega
 have z8 : decide (112 ≤ c) = true := by simp; omega
 have z9 : decide (c < 128) = false := by simp; omega
 have z10 : decide (176 ≤ c) = true := by simp; omega
 have z11 : decide (c < 184) = true := by simp; omega
 have hb := Yae hD.r ⟨k2, false, false⟩
 have q2 : reB L ⟨k2, false, false⟩ % 4294967296 = reB L ⟨k2, false, false⟩ := by omega
 have H1 := Yh_ (RiS.start hD)
 clear hD hce hs2 hcr hlo hhi hb
 go_enter Tryz.func37, Tryz.ntmps37
 go_wp2_with (first | (have _t := H1; clear _t; go_at_call 53; refine (Yy d g _ _ L _ (H1.out).h).mono ?_; rintro e w2 ⟨rfl, h, hu⟩; rw [HCE.out]; rw [HS2.out] at h; have H2 := Yh_ ((H1.out).call h hu); have cs := Ya h.h; have fs := Yh h.h; clear h hu H1) | (have _t := H2; clear _t; go_at_call 56; refine (Yba _ _).mono ?_; rintro e w3 ⟨rfl, hu⟩; rw [show (Yn (c % 8)).val = .agg #[.int .i64 1, .int .i64 (c % 8), .int .u32 0, .int .i64 0, .int .i64 0, .int .u32 0] from rfl]; have H3 := Yh_ ((H2.out).step hu); clear hu H2) | (have _t := H3; clear _t; go_at_call 53; refine (Yy d g ⟨k2, false, false⟩ _ L _ (H3.out).h).mono ?_; rintro e w4 ⟨rfl, h, hu⟩; have H4 := Yh_ ((H3.out).call h hu); clear h hu H3) | (have _t := H4; clear _t; go_at_call 57; refine (Ycb _ _).mono ?_; rintro e w5 ⟨rfl, hu⟩; rw [show (Yac (reB L ⟨k2, false, false⟩)).val = .agg #[.int .i64 2, .int .i64 0, .int .u32 (reB L ⟨k2, false, false⟩), .int .i64 0, .int .i64 0, .int .u32 0] from rfl]; have H5 := Yh_ ((H4.out).step hu); clear hu H4) | (have _t := H5; clear _t; refine Ye 42 rfl ?_; refine Yb ⟨2, 0, Yn (c % 8), Yac (reB L ⟨k2, false, false⟩), false, 0⟩ (w.heap.size) rfl _ _ rfl rfl rfl (H5.out).r (H5.out).z ?_; intro w6 hw; have H6 := Yh_ ((H5.out).store hw); clear hw H5))
 exact bodyPost_ret (Yg rfl (Yi 2 (w.heap.size) _ rfl H6.out.r) (Yk 3 rfl)) rfl ⟨rfl, H6.out.h, H6.out.u⟩
theorem Yub (d g : Nat) (s : Rd) (v : Value) (L : List Int) (w : World) (hD : Yl w d v L g s) (c : Int) (hce : reB L s = c) (k2 : Nat) (hs2 : Ym L s = ⟨k2, false, false⟩) (hlo : 184 ≤ c) (hhi : c < 192) :
  Calls Tryz.prog 37 #[.pointer (some ⟨d, 0, none⟩)] w (Yr d v L g w ⟨⟨1, 0, Yn (c % 8), Yac (reW L ⟨k2, false, false⟩), false, 0⟩, false, (Yb1 L ⟨k2, false, false⟩)⟩) := by
 have hcr := Yae hD.r s
 rw [hce] at hcr
 have HCE := Yh_ hce
 have HS2 := Yh_ hs2
 obtain ⟨b15, b7⟩ := Ybn c hcr
 have y1 : decide (c < 64) = false := by simp; omega
 have z0 : decide (64 ≤ c) = true := by simp; omega
 have z1 : decide (c < 72) = false := by simp; omega
 have z2 : decide (72 ≤ c) = true := by simp; omega
 have z3 : decide (c < 80) = false := by simp; omega
 have z4 : decide (80 ≤ c) = true := by simp; omega
 have z5 : decide (c < 88) = false := by simp; omega
 have z6 : decide (88 ≤ c) = true := by simp; omega
 have z7 : decide (c < 96) = false := by simp; omega
 have z8 : decide (112 ≤ c) = true := by simp; omega
 have z9 : decide (c < 128) = false := by simp; omega
 have z10 : decide (176 ≤ c) = true := by simp; omega
 have z11 : decide (c < 184) = false := by simp; omega
 have z12 : decide (184 ≤ c) = true := by simp; omega
 have z13 : decide (c < 192) = true := by simp; omega
 have H1 := Yh_ (RiS.start hD)
 clear hD hce hs2 hcr hlo hhi
 go_enter Tryz.func37, Tryz.ntmps37
 go_wp2_with (first | (have _t := H1; clear _t; go_at_call 53; refine (Yy d g _ _ L _ (H1.out).h).mono ?_; rintro e w2 ⟨rfl, h, hu⟩; rw [HCE.out]; rw [HS2.out] at h; have H2 := Yh_ ((H1.out).call h hu); have cs := Ya h.h; have fs := Yh h.h; clear h hu H1) | (have _t := H2; clear _t; go_at_call 56; refine (Yba _ _).mono ?_; rintro e w3 ⟨rfl, hu⟩; rw [show (Yn (c % 8)).val = .agg #[.int .i64 1, .int .i64 (c % 8), .int .u32 0, .int .i64 0, .int .i64 0, .int .u32 0] from rfl]; have H3 := Yh_ ((H2.out).step hu); clear hu H2) | (have _t := H3; clear _t; go_at_call 59; refine (Yci d g _ v L _ (H3.out).h).mono ?_; rintro e w4 ⟨rfl, h, hu⟩; have H4 := Yh_ ((H3.out).call h hu); clear h hu H3) | (have _t := H4; clear _t; go_at_call 57; refine (Ycb _ _).mono ?_; rintro e w5 ⟨rfl, hu⟩; rw [show (Yac (reW L ⟨k2, false, false⟩)).val = .agg #[.int .i64 2, .int .i64 0, .int .u32 (reW L ⟨k2, false, false⟩), .int .i64 0, .int .i64 0, .int .u32 0] from rfl]; have H5 := Yh_ ((H4.out).step hu); clear hu H4) | (have _t := H5; clear _t; refine Ye 42 rfl ?_; refine Yb ⟨1, 0, Yn (c % 8), Yac (reW L ⟨k2, false, false⟩), false, 0⟩ (w.heap.size) rfl _ _ rfl rfl rfl (H5.out).r (H5.out).z ?_; intro w6 hw; have H6 := Yh_ ((H5.out).store hw); clear hw H5))
 exact bodyPost_ret (Yg rfl (Yi 2 (w.heap.size) _ rfl H6.out.r) (Yk 3 rfl)) rfl ⟨rfl, H6.out.h, H6.out.u⟩
theorem Yty (d g : Nat) (s : Rd) (v : Value) (L : List Int) (w : World) (hD : Yl w d v L g s) (c : Int) (hce : reB L s = c) (k2 : Nat) (hs2 : Ym L s = ⟨k2, false, false⟩) (hlo : 96 ≤ c) (hhi : c < 112) (q : RI) (hp : ∀ w1, Yl w1 d v L g ⟨k2, false, false⟩ → Calls Tryz.prog 60 #[.pointer (some ⟨d, 0, none⟩), .int .u8 c] w1 (Yr d v L g w1 ⟨q.i, false, q.s⟩)) :
  Calls Tryz.prog 37 #[.pointer (some ⟨d, 0, none⟩)] w (Yr d v L g w ⟨q.i, false, q.s⟩) := by
 have hcr := Yae hD.r s
 rw [hce] at hcr
 have HCE := Yh_ hce
 have HS2 := Yh_ hs2
 obtain ⟨b15, b7⟩ := Ybn c hcr
 have y1 : decide (c < 64) = false := by simp; omega
 have z0 : decide (64 ≤ c) = true := by simp; omega
 have z1 : decide (72 ≤ c) = true := by simp; omega
 have z2 : decide (80 ≤ c) = true := by simp; omega
 have z3 : decide (88 ≤ c) = true := by simp; omega
 have z4 : decide (112 ≤ c) = false := by simp; omega
 have z5 : decide (176 ≤ c) = false := by simp; omega
 have z6 : decide (184 ≤ c) = false := by simp; omega
 have z7 : decide (c < 72) = false := by simp; omega
 have z8 : decide (c < 80) = false := by simp; omega
 have z9 : decide (c < 88) = false := by simp; omega
 have z10 : decide (c < 96) = false := by simp; omega
 have z11 : decide (c < 128) = true := by simp; omega
 have z12 : decide (c < 184) = true := by simp; omega
 have z13 : decide (c < 192) = true := by simp; omega
 have HP := Yh_ hp
 have H1 := Yh_ (RiS.start hD)
 clear hD hce hs2 hcr hp hlo hhi
 go_enter Tryz.func37, Tryz.ntmps37
 go_wp2_with (first | (have _t := H1; clear _t; go_at_call 53; refine (Yy d g _ _ L _ (H1.out).h).mono ?_; rintro e w2 ⟨rfl, h, hu⟩; rw [HCE.out]; rw [HS2.out] at h; have H2 := Yh_ ((H1.out).call h hu); have cs := Ya h.h; have fs := Yh h.h; clear h hu H1) | (have _t := H2; clear _t; go_at_call 60; refine (HP.out _ (H2.out).h).mono ?_; rintro e w3 ⟨rfl, h, hu⟩; have H3 := Yh_ ((H2.out).call h hu); clear h hu H2 cs fs) | (have _t := H3; clear _t; refine Ye 42 rfl ?_; refine Yb q.i w3.heap.size rfl _ _ rfl rfl rfl (heap_alloc_new w3 (.cells Ins.zero.cells 42)) rfl ?_; intro w4 hw; have h := Yau (S := []) (w0 := w3) hw (heap_alloc_new w3 (.cells Ins.zero.cells 42)) rfl ((Upd.refl [] w3).alloc _) (.inr (Nat.le_refl _)); have H4 := Yh_ (H3.out.step h.2); have HI4 := Yh_ h.1; clear hw h H3) | (have _t := HI4; clear _t; refine Yb9 42 rfl ?_; refine Ya1 q.i w3.heap.size rfl _ rfl rfl HI4.out ?_; clear HI4) | (have _t := H4; clear _t; refine Ye 42 rfl ?_; refine Yb q.i (w.heap.size) rfl _ _ rfl rfl rfl (H4.out).r (H4.out).z ?_; intro w6 hw; have H6 := Yh_ ((H4.out).store hw); clear hw H4))
 exact bodyPost_ret (Yg rfl (Yi 2 (w.heap.size) _ rfl H6.out.r) (Yk 3 rfl)) rfl ⟨rfl, H6.out.h, H6.out.u⟩
theorem Yur (d g : Nat) (s : Rd) (v : Value) (L : List Int) (w : World) (hD : Yl w d v L g s) (c : Int) (hce : reB L s = c) (k2 : Nat) (hs2 : Ym L s = ⟨k2, false, false⟩) (hlo : 96 ≤ c) (hhi : c < 112) (q : RI) (hp : ∀ w1, Yl w1 d v L g ⟨k2, false, false⟩ → Calls Tryz.prog 60 #[.pointer (some ⟨d, 0, none⟩), .int .u8 c] w1 (Yr d v L g w1 ⟨Ins.zero, true, ⟨k2, false, false⟩⟩)) (hm : ∀ w1, Yl w1 d v L g ⟨k2, false, false⟩ → Calls Tryz.prog 61 #[.pointer (some ⟨d, 0, none⟩), .int .u8 c] w1 (Yr d v L g w1 q)) :
  Calls Tryz.prog 37 #[.pointer (some ⟨d, 0, none⟩)] w (Yr d v L g w ⟨q.i, q.e, q.s⟩) := by
 have hcr := Yae hD.r s
 rw [hce] at hcr
 have HCE := Yh_ hce
 have HS2 := Yh_ hs2
 obtain ⟨b15, b7⟩ := Ybn c hcr
 have y1 : decide (c < 64) = false := by simp; omega
 have z0 : decide (64 ≤ c) = true := by simp; omega
 have z1 : decide (72 ≤ c) = true := by simp; omega
 have z2 : decide (80 ≤ c) = true := by simp; omega
 have z3 : decide (88 ≤ c) = true := by simp; omega
 have z4 : decide (112 ≤ c) = false := by simp; omega
 have z5 : decide (176 ≤ c) = false := by simp; omega
 have z6 : decide (184 ≤ c) = false := by simp; omega
 have z7 : decide (c < 72) = false := by simp; omega
 have z8 : decide (c < 80) = false := by simp; omega
 have z9 : decide (c < 88) = false := by simp; omega
 have z10 : decide (c < 96) = false := by simp; omega
 have z11 : decide (c < 128) = true := by simp; omega
 have z12 : decide (c < 184) = true := by simp; omega
 have z13 : decide (c < 192) = true := by simp; omega
 have HP := Yh_ hp
 have HM := Yh_ hm
 have H1 := Yh_ (RiS.start hD)
 clear hD hce hs2 hcr hp hm hlo hhi
 go_enter Tryz.func37, Tryz.ntmps37
 go_wp2_with (first | (have _t := H1; clear _t; go_at_call 53; refine (Yy d g _ _ L _ (H1.out).h).mono ?_; rintro e w2 ⟨rfl, h, hu⟩; rw [HCE.out]; rw [HS2.out] at h; have H2 := Yh_ ((H1.out).call h hu); have cs := Ya h.h; have fs := Yh h.h; clear h hu H1) | (have _t := H2; clear _t; go_at_call 60; refine (HP.out _ (H2.out).h).mono ?_; rintro e w3 ⟨rfl, h, hu⟩; have H3 := Yh_ ((H2.out).call h hu); clear h hu H2 cs fs) | (have _t := H3; clear _t; refine Ye 42 rfl ?_; refine Yb Ins.zero w3.heap.size rfl _ _ rfl rfl rfl (heap_alloc_new w3 (.cells Ins.zero.cells 42)) rfl ?_; intro w4 hw; have h := Yau (S := []) (w0 := w3) hw (heap_alloc_new w3 (.cells Ins.zero.cells 42)) rfl ((Upd.refl [] w3).alloc _) (.inr (Nat.le_refl _)); have H4 := Yh_ (H3.out.step h.2); have HI4 := Yh_ h.1; clear hw h H3) | (have _t := H4; clear _t; go_at_call 61; refine (HM.out _ (H4.out).h).mono ?_; rintro e w5 ⟨rfl, h, hu⟩; have H5 := Yh_ ((H4.out).call h hu); clear h hu H4 HI4) | (have _t := H5; clear _t; refine Ye 42 rfl ?_; refine Yb q.i (w.heap.size) rfl _ _ rfl rfl rfl (H5.out).r (H5.out).z ?_; intro w6 hw; have H6 := Yh_ ((H5.out).store hw); clear hw H5))
 exact bodyPost_ret (Yg rfl (Yi 2 (w.heap.size) _ rfl H6.out.r) (Yk 3 rfl)) rfl ⟨rfl, H6.out.h, H6.out.u⟩
theorem Ysa (d g : Nat) (s : Rd) (v : Value) (L : List Int) (w : World) (hD : Yl w d v L g s) (c : Int) (hce : reB L s = c) (k2 : Nat) (hs2 : Ym L s = ⟨k2, false, false⟩) (hlo : 128 ≤ c) (hhi : c < 176) (q : RI) (hp : ∀ w1, Yl w1 d v L g ⟨k2, false, false⟩ → Calls Tryz.prog 60 #[.pointer (some ⟨d, 0, none⟩), .int .u8 c] w1 (Yr d v L g w1 ⟨q.i, false, q.s⟩)) :
  Calls Tryz.prog 37 #[.pointer (some ⟨d, 0, none⟩)] w (Yr d v L g w ⟨q.i, false, q.s⟩) := by
 have hcr := Yae hD.r s
 rw [hce] at hcr
 have HCE := Yh_ hce
 have HS2 := Yh_ hs2
 obtain ⟨b15, b7⟩ := Ybn c hcr
 have y1 : decide (c < 64) = false := by simp; omega
 have z0 : decide (64 ≤ c) = true := by simp; omega
 have z1 : decide (72 ≤ c) = true := by simp; omega
 have z2 : decide (80 ≤ c) = true := by simp; omega
 have z3 : decide (88 ≤ c) = true := by simp; omega
 have z4 : decide (112 ≤ c) = true := by simp; omega
 have z5 : decide (176 ≤ c) = false := by simp; omega
 have z6 : decide (184 ≤ c) = false := by simp; omega
 have z7 : decide (c < 72) = false := by simp; omega
 have z8 : decide (c < 80) = false := by simp; omega
 have z9 : decide (c < 88) = false := by simp; omega
 have z10 : decide (c < 96) = false := by simp; omega
 have z11 : decide (c < 128) = false := by simp; omega
 have z12 : decide (c < 184) = true := by simp; omega
 have z13 : decide (c < 192) = true := by simp; omega
 have HP := Yh_ hp
 have H1 := Yh_ (RiS.start hD)
 clear hD hce hs2 hcr hp hlo hhi
 go_enter Tryz.func37, Tryz.ntmps37
 go_wp2_with (first | (have _t := H1; clear _t; go_at_call 53; refine (Yy d g _ _ L _ (H1.out).h).mono ?_; rintro e w2 ⟨rfl, h, hu⟩; rw [HCE.out]; rw [HS2.out] at h; have H2 := Yh_ ((H1.out).call h hu); have cs := Ya h.h; have fs := Yh h.h; clear h hu H1) | (have _t := H2; clear _t; go_at_call 60; refine (HP.out _ (H2.out).h).mono ?_; rintro e w3 ⟨rfl, h, hu⟩; have H3 := Yh_ ((H2.out).call h hu); clear h hu H2 cs fs) | (have _t := H3; clear _t; refine Ye 42 rfl ?_; refine Yb q.i w3.heap.size rfl _ _ rfl rfl rfl (heap_alloc_new w3 (.cells Ins.zero.cells 42)) rfl ?_; intro w4 hw; have h := Yau (S := []) (w0 := w3) hw (heap_alloc_new w3 (.cells Ins.zero.cells 42)) rfl ((Upd.refl [] w3).alloc _) (.inr (Nat.le_refl _)); have H4 := Yh_ (H3.out.step h.2); have HI4 := Yh_ h.1; clear hw h H3) | (have _t := HI4; clear _t; refine Yb9 42 rfl ?_; refine Ya1 q.i w3.heap.size rfl _ rfl rfl HI4.out ?_; clear HI4) | (have _t := H4; clear _t; refine Ye 42 rfl ?_; refine Yb q.i (w.heap.size) rfl _ _ rfl rfl rfl (H4.out).r (H4.out).z ?_; intro w6 hw; have H6 := Yh_ ((H4.out).store hw); clear hw H4))
 exact bodyPost_ret (Yg rfl (Yi 2 (w.heap.size) _ rfl H6.out.r) (Yk 3 rfl)) rfl ⟨rfl, H6.out.h, H6.out.u⟩
theorem Ysw (d g : Nat) (s : Rd) (v : Value) (L : List Int) (w : World) (hD : Yl w d v L g s) (c : Int) (hce : reB L s = c) (k2 : Nat) (hs2 : Ym L s = ⟨k2, false, false⟩) (hlo : 128 ≤ c) (hhi : c < 176) (q : RI) (hp : ∀ w1, Yl w1 d v L g ⟨k2, false, false⟩ → Calls Tryz.prog 60 #[.pointer (some ⟨d, 0, none⟩), .int .u8 c] w1 (Yr d v L g w1 ⟨Ins.zero, true, ⟨k2, false, false⟩⟩)) (hm : ∀ w1, Yl w1 d v L g ⟨k2, false, false⟩ → Calls Tryz.prog 61 #[.pointer (some ⟨d, 0, none⟩), .int .u8 c] w1 (Yr d v L g w1 q)) :
  Calls Tryz.prog 37 #[.pointer (some ⟨d, 0, none⟩)] w (Yr d v L g w ⟨q.i, q.e, q.s⟩) := by
 have hcr := Yae hD.r s
 rw [hce] at hcr
 have HCE := Yh_ hce
 have HS2 := Yh_ hs2
 obtain ⟨b15, b7⟩ := Ybn c hcr
 have y1 : decide (c < 64) = false := by simp; omega
 have z0 : decide (64 ≤ c) = true := by simp; omega
 have z1 : decide (72 ≤ c) = true := by simp; omega
 have z2 : decide (80 ≤ c) = true := by simp; omega
 have z3 : decide (88 ≤ c) = true := by simp; omega
 have z4 : decide (112 ≤ c) = true := by simp; omega
 have z5 : decide (176 ≤ c) = false := by simp; omega
 have z6 : decide (184 ≤ c) = false := by simp; omega
 have z7 : decide (c < 72) = false := by simp; omega
 have z8 : decide (c < 80) = false := by simp; omega
 have z9 : decide (c < 88) = false := by simp; omega
 have z10 : decide (c < 96) = false := by simp; omega
 have z11 : decide (c < 128) = false := by simp; omega
 have z12 : decide (c < 184) = true := by simp; omega
 have z13 : decide (c < 192) = true := by simp; omega
 have HP := Yh_ hp
 have HM := Yh_ hm
 have H1 := Yh_ (RiS.start hD)
 clear hD hce hs2 hcr hp hm hlo hhi
 go_enter Tryz.func37, Tryz.ntmps37
 go_wp2_with (first | (have _t := H1; clear _t; go_at_call 53; refine (Yy d g _ _ L _ (H1.out).h).mono ?_; rintro e w2 ⟨rfl, h, hu⟩; rw [HCE.out]; rw [HS2.out] at h; have H2 := Yh_ ((H1.out).call h hu); have cs := Ya h.h; have fs := Yh h.h; clear h hu H1) | (have _t := H2; clear _t; go_at_call 60; refine (HP.out _ (H2.out).h).mono ?_; rintro e w3 ⟨rfl, h, hu⟩; have H3 := Yh_ ((H2.out).call h hu); clear h hu H2 cs fs) | (have _t := H3; clear _t; refine Ye 42 rfl ?_; refine Yb Ins.zero w3.heap.size rfl _ _ rfl rfl rfl (heap_alloc_new w3 (.cells Ins.zero.cells 42)) rfl ?_; intro w4 hw; have h := Yau (S := []) (w0 := w3) hw (heap_alloc_new w3 (.cells Ins.zero.cells 42)) rfl ((Upd.refl [] w3).alloc _) (.inr (Nat.le_refl _)); have H4 := Yh_ (H3.out.step h.2); have HI4 := Yh_ h.1; clear hw h H3) | (have _t := H4; clear _t; go_at_call 61; refine (HM.out _ (H4.out).h).mono ?_; rintro e w5 ⟨rfl, h, hu⟩; have H5 := Yh_ ((H4.out).call h hu); clear h hu H4 HI4) | (have _t := H5; clear _t; refine Ye 42 rfl ?_; refine Yb q.i (w.heap.size) rfl _ _ rfl rfl rfl (H5.out).r (H5.out).z ?_; intro w6 hw; have H6 := Yh_ ((H5.out).store hw); clear hw H5))
 exact bodyPost_ret (Yg rfl (Yi 2 (w.heap.size) _ rfl H6.out.r) (Yk 3 rfl)) rfl ⟨rfl, H6.out.h, H6.out.u⟩
theorem Yr2 (d g : Nat) (s : Rd) (v : Value) (L : List Int) (w : World) (hD : Yl w d v L g s) (c : Int) (hce : reB L s = c) (k2 : Nat) (hs2 : Ym L s = ⟨k2, false, false⟩) (hlo : 192 ≤ c) (hhi : c < 256) (q : RI) (hp : ∀ w1, Yl w1 d v L g ⟨k2, false, false⟩ → Calls Tryz.prog 60 #[.pointer (some ⟨d, 0, none⟩), .int .u8 c] w1 (Yr d v L g w1 ⟨q.i, false, q.s⟩)) :
  Calls Tryz.prog 37 #[.pointer (some ⟨d, 0, none⟩)] w (Yr d v L g w ⟨q.i, false, q.s⟩) := by
 have hcr := Yae hD.r s
 rw [hce] at hcr
 have HCE := Yh_ hce
 have HS2 := Yh_ hs2
 obtain ⟨b15, b7⟩ := Ybn c hcr
 have y1 : decide (c < 64) = false := by simp; omega
 have z0 : decide (64 ≤ c) = true := by simp; omega
 have z1 : decide (72 ≤ c) = true := by simp; omega
 have z2 : decide (80 ≤ c) = true := by simp; omega
 have z3 : decide (88 ≤ c) = true := by simp; omega
 have z4 : decide (112 ≤ c) = true := by simp; omega
 have z5 : decide (176 ≤ c) = true := by simp; omega
 have z6 : decide (184 ≤ c) = true := by simp; omega
 have z7 : decide (c < 72) = false := by simp; omega
 have z8 : decide (c < 80) = false := by simp; omega
 have z9 : decide (c < 88) = false := by simp; omega
 have z10 : decide (c < 96) = false := by simp; omega
 have z11 : decide (c < 128) = false := by simp; omega
 have z12 : decide (c < 184) = false := by simp; omega
 have z13 : decide (c < 192) = false := by simp; omega
 have HP := Yh_ hp
 have H1 := Yh_ (RiS.start hD)
 clear hD hce hs2 hcr hp hlo hhi
 go_enter Tryz.func37, Tryz.ntmps37
 go_wp2_with (first | (have _t := H1; clear _t; go_at_call 53; refine (Yy d g _ _ L _ (H1.out).h).mono ?_; rintro e w2 ⟨rfl, h, hu⟩; rw [HCE.out]; rw [HS2.out] at h; have H2 := Yh_ ((H1.out).call h hu); have cs := Ya h.h; have fs := Yh h.h; clear h hu H1) | (have _t := H2; clear _t; go_at_call 60; refine (HP.out _ (H2.out).h).mono ?_; rintro e w3 ⟨rfl, h, hu⟩; have H3 := Yh_ ((H2.out).call h hu); clear h hu H2 cs fs) | (have _t := H3; clear _t; refine Ye 42 rfl ?_; refine Yb q.i w3.heap.size rfl _ _ rfl rfl rfl (heap_alloc_new w3 (.cells Ins.zero.cells 42)) rfl ?_; intro w4 hw; have h := Yau (S := []) (w0 := w3) hw (heap_alloc_new w3 (.cells Ins.zero.cells 42)) rfl ((Upd.refl [] w3).alloc _) (.inr (Nat.le_refl _)); have H4 := Yh_ (H3.out.step h.2); have HI4 := Yh_ h.1; clear hw h H3) | (have _t := HI4; clear _t; refine Yb9 42 rfl ?_; refine Ya1 q.i w3.heap.size rfl _ rfl rfl HI4.out ?_; clear HI4) | (have _t := H4; clear _t; refine Ye 42 rfl ?_; refine Yb q.i (w.heap.size) rfl _ _ rfl rfl rfl (H4.out).r (H4.out).z ?_; intro w6 hw; have H6 := Yh_ ((H4.out).store hw); clear hw H4))
 exact bodyPost_ret (Yg rfl (Yi 2 (w.heap.size) _ rfl H6.out.r) (Yk 3 rfl)) rfl ⟨rfl, H6.out.h, H6.out.u⟩
theorem Yrn (d g : Nat) (s : Rd) (v : Value) (L : List Int) (w : World) (hD : Yl w d v L g s) (c : Int) (hce : reB L s = c) (k2 : Nat) (hs2 : Ym L s = ⟨k2, false, false⟩) (hlo : 192 ≤ c) (hhi : c < 256) (q : RI) (hp : ∀ w1, Yl w1 d v L g ⟨k2, false, false⟩ → Calls Tryz.prog 60 #[.pointer (some ⟨d, 0, none⟩), .int .u8 c] w1 (Yr d v L g w1 ⟨Ins.zero, true, ⟨k2, false, false⟩⟩)) (hm : ∀ w1, Yl w1 d v L g ⟨k2, false, false⟩ → Calls Tryz.prog 61 #[.pointer (some ⟨d, 0, none⟩), .int .u8 c] w1 (Yr d v L g w1 q)) :
  Calls Tryz.prog 37 #[.pointer (some ⟨d, 0, none⟩)] w (Yr d v L g w ⟨q.i, q.e, q.s⟩) := by
 have hcr := Yae hD.r s
 rw [hce] at hcr
 have HCE := Yh_ hce
 have HS2 := Yh_ hs2
 obtain ⟨b15, b7⟩ := Ybn c hcr
 have y1 : decide (c < 64) = false := by simp; omega
 have z0 : decide (64 ≤ c) = true := by simp; omega
 have z1 : decide (72 ≤ c) = true := by simp; omega
 have z2 : decide (80 ≤ c) = true := by simp; omega
 have z3 : decide (88 ≤ c) = true := by simp; omega
 have z4 : decide (112 ≤ c) = true := by simp; omega
 have z5 : decide (176 ≤ c) = true := by simp; omega
 have z6 : decide (184 ≤ c) = true := by simp; omega
 have z7 : decide (c < 72) = false := by simp; omega
 have z8 : decide (c < 80) = false := by simp; omega
 have z9 : decide (c < 88) = false := by simp; omega
 have z10 : decide (c < 96) = false := by simp; omega
 have z11 : decide (c < 128) = false := by simp; omega
 have z12 : decide (c < 184) = false := by simp; omega
 have z13 : decide (c < 192) = false := by simp; omega
 have HP := Yh_ hp
 have HM := Yh_ hm
 have H1 := Yh_ (RiS.start hD)
 clear hD hce hs2 hcr hp hm hlo hhi
 go_enter Tryz.func37, Tryz.ntmps37
 go_wp2_with (first | (have _t := H1; clear _t; go_at_call 53; refine (Yy d g _ _ L _ (H1.out).h).mono ?_; rintro e w2 ⟨rfl, h, hu⟩; rw [HCE.out]; rw [HS2.out] at h; have H2 := Yh_ ((H1.out).call h hu); have cs := Ya h.h; have fs := Yh h.h; clear h hu H1) | (have _t := H2; clear _t; go_at_call 60; refine (HP.out _ (H2.out).h).mono ?_; rintro e w3 ⟨rfl, h, hu⟩; have H3 := Yh_ ((H2.out).call h hu); clear h hu H2 cs fs) | (have _t := H3; clear _t; refine Ye 42 rfl ?_; refine Yb Ins.zero w3.heap.size rfl _ _ rfl rfl rfl (heap_alloc_new w3 (.cells Ins.zero.cells 42)) rfl ?_; intro w4 hw; have h := Yau (S := []) (w0 := w3) hw (heap_alloc_new w3 (.cells Ins.zero.cells 42)) rfl ((Upd.refl [] w3).alloc _) (.inr (Nat.le_refl _)); have H4 := Yh_ (H3.out.step h.2); have HI4 := Yh_ h.1; clear hw h H3) | (have _t := H4; clear _t; go_at_call 61; refine (HM.out _ (H4.out).h).mono ?_; rintro e w5 ⟨rfl, h, hu⟩; have H5 := Yh_ ((H4.out).call h hu); clear h hu H4 HI4) | (have _t := H5; clear _t; refine Ye 42 rfl ?_; refine Yb q.i (w.heap.size) rfl _ _ rfl rfl rfl (H5.out).r (H5.out).z ?_; intro w6 hw; have H6 := Yh_ ((H5.out).store hw); clear hw H5))
 exact bodyPost_ret (Yg rfl (Yi 2 (w.heap.size) _ rfl H6.out.r) (Yk 3 rfl)) rfl ⟨rfl, H6.out.h, H6.out.u⟩
theorem rinsn_0p (d g : Nat) (s : Rd) (v : Value) (L : List Int) (w : World) (hD : Yl w d v L g s) (c : Int) (hce : reB L s = c) (k2 : Nat) (hs2 : Ym L s = ⟨k2, false, false⟩) (hhi : c < 64) (n1 : c % 8 ≠ 1) (n3 : c % 8 ≠ 3) (n5 : c % 8 ≠ 5) (q : RI) (hp : ∀ w1, Yl w1 d v L g ⟨k2, false, false⟩ → Calls Tryz.prog 60 #[.pointer (some ⟨d, 0, none⟩), .int .u8 c] w1 (Yr d v L g w1 ⟨q.i, false, q.s⟩)) :
  Calls Tryz.prog 37 #[.pointer (some ⟨d, 0, none⟩)] w (Yr d v L g w ⟨q.i, false, q.s⟩) := by
 have hcr := Yae hD.r s
 rw [hce] at hcr
 have HCE := Yh_ hce
 have HS2 := Yh_ hs2
 obtain ⟨b15, b7⟩ := Ybn c hcr
 have y1 : decide (c < 64) = true := by simp; omega
 have x1 : (c % 8 == 1) = false := by simpa using n1
 have x3 : (c % 8 == 3) = false := by simpa using n3
 have x5 : (c % 8 == 5) = false := by simpa using n5
 have z0 : decide (64 ≤ c) = false := by simp; omega
 have z1 : decide (72 ≤ c) = false := by simp; omega
 have z2 : decide (80 ≤ c) = false := by simp; omega
 have z3 : decide (88 ≤ c) = false := by simp; omega
 have z4 : decide (112 ≤ c) = false := by simp; omega
 have z5 : decide (176 ≤ c) = false := by simp; omega
 have z6 : decide (184 ≤ c) = false := by simp; omega
 have HP := Yh_ hp
 have H1 := Yh_ (RiS.start hD)
 clear hD hce hs2 hcr hp hhi n1 n3 n5
 go_enter Tryz.func37, Tryz.ntmps37
 go_wp2_with (first | (have _t := H1; clear _t; go_at_call 53; refine (Yy d g _ _ L _ (H1.out).h).mono ?_; rintro e w2 ⟨rfl, h, hu⟩; rw [HCE.out]; rw [HS2.out] at h; have H2 := Yh_ ((H1.out).call h hu); have cs := Ya h.h; have fs := Yh h.h; clear h hu H1) | (have _t := H2; clear _t; go_at_call 60; refine (HP.out _ (H2.out).h).mono ?_; rintro e w3 ⟨rfl, h, hu⟩; have H3 := Yh_ ((H2.out).call h hu); clear h hu H2 cs fs) | (have _t := H3; clear _t; refine Ye 42 rfl ?_; refine Yb q.i w3.heap.size rfl _ _ rfl rfl rfl (heap_alloc_new w3 (.cells Ins.zero.cells 42)) rfl ?_; intro w4 hw; have h := Yau (S := []) (w0 := w3) hw (heap_alloc_new w3 (.cells Ins.zero.cells 42)) rfl ((Upd.refl [] w3).alloc _) (.inr (Nat.le_refl _)); have H4 := Yh_ (H3.out.step h.2); have HI4 := Yh_ h.1; clear hw h H3) | (have _t := HI4; clear _t; refine Yb9 42 rfl ?_; refine Ya1 q.i w3.heap.size rfl _ rfl rfl HI4.out ?_; clear HI4) | (have _t := H4; clear _t; refine Ye 42 rfl ?_; refine Yb q.i (w.heap.size) rfl _ _ rfl rfl rfl (H4.out).r (H4.out).z ?_; intro w6 hw; have H6 := Yh_ ((H4.out).store hw); clear hw H4))
 exact bodyPost_ret (Yg rfl (Yi 2 (w.heap.size) _ rfl H6.out.r) (Yk 3 rfl)) rfl ⟨rfl, H6.out.h, H6.out.u⟩
theorem rinsn_0m (d g : Nat) (s : Rd) (v : Value) (L : List Int) (w : World) (hD : Yl w d v L g s) (c : Int) (hce : reB L s = c) (k2 : Nat) (hs2 : Ym L s = ⟨k2, false, false⟩) (hhi : c < 64) (n1 : c % 8 ≠ 1) (n3 : c % 8 ≠ 3) (n5 : c % 8 ≠ 5) (q : RI) (hp : ∀ w1, Yl w1 d v L g ⟨k2, false, false⟩ → Calls Tryz.prog 60 #[.pointer (some ⟨d, 0, none⟩), .int .u8 c] w1 (Yr d v L g w1 ⟨Ins.zero, true, ⟨k2, false, false⟩⟩)) (hm : ∀ w1, Yl w1 d v L g ⟨k2, false, false⟩ → Calls Tryz.prog 61 #[.pointer (some ⟨d, 0, none⟩), .int .u8 c] w1 (Yr d v L g w1 q)) :
  Calls Tryz.prog 37 #[.pointer (some ⟨d, 0, none⟩)] w (Yr d v L g w ⟨q.i, q.e, q.s⟩) := by
 have hcr := Yae hD.r s
 rw [hce] at hcr
 have HCE := Yh_ hce
 have HS2 := Yh_ hs2
 obtain ⟨b15, b7⟩ := Ybn c hcr
 have y1 : decide (c < 64) = true := by simp; omega
 have x1 : (c % 8 == 1) = false := by simpa using n1
 have x3 : (c % 8 == 3) = false := by simpa using n3
 have x5 : (c % 8 == 5) = false := by simpa using n5
 have z0 : decide (64 ≤ c) = false := by simp; omega
 have z1 : decide (72 ≤ c) = false := by simp; omega
 have z2 : decide (80 ≤ c) = false := by simp; omega
 have z3 : decide (88 ≤ c) = false := by simp; omega
 have z4 : decide (112 ≤ c) = false := by simp; omega
 have z5 : decide (176 ≤ c) = false := by simp; omega
 have z6 : decide (184 ≤ c) = false := by simp; omega
 have HP := Yh_ hp
 have HM := Yh_ hm
 have H1 := Yh_ (RiS.start hD)
 clear hD hce hs2 hcr hp hm hhi n1 n3 n5
 go_enter Tryz.func37, Tryz.ntmps37
 go_wp2_with (first | (have _t := H1; clear _t; go_at_call 53; refine (Yy d g _ _ L _ (H1.out).h).mono ?_; rintro e w2 ⟨rfl, h, hu⟩; rw [HCE.out]; rw [HS2.out] at h; have H2 := Yh_ ((H1.out).call h hu); have cs := Ya h.h; have fs := Yh h.h; clear h hu H1) | (have _t := H2; clear _t; go_at_call 60; refine (HP.out _ (H2.out).h).mono ?_; rintro e w3 ⟨rfl, h, hu⟩; have H3 := Yh_ ((H2.out).call h hu); clear h hu H2 cs fs) | (have _t := H3; clear _t; refine Ye 42 rfl ?_; refine Yb Ins.zero w3.heap.size rfl _ _ rfl rfl rfl (heap_alloc_new w3 (.cells Ins.zero.cells 42)) rfl ?_; intro w4 hw; have h := Yau (S := []) (w0 := w3) hw (heap_alloc_new w3 (.cells Ins.zero.cells 42)) rfl ((Upd.refl [] w3).alloc _) (.inr (Nat.le_refl _)); have H4 := Yh_ (H3.out.step h.2); have HI4 := Yh_ h.1; clear hw h H3) | (have _t := H4; clear _t; go_at_call 61; refine (HM.out _ (H4.out).h).mono ?_; rintro e w5 ⟨rfl, h, hu⟩; have H5 := Yh_ ((H4.out).call h hu); clear h hu H4 HI4) | (have _t := H5; clear _t; refine Ye 42 rfl ?_; refine Yb q.i (w.heap.size) rfl _ _ rfl rfl rfl (H5.out).r (H5.out).z ?_; intro w6 hw; have H6 := Yh_ ((H5.out).store hw); clear hw H5))
 exact bodyPost_ret (Yg rfl (Yi 2 (w.heap.size) _ rfl H6.out.r) (Yk 3 rfl)) rfl ⟨rfl, H6.out.h, H6.out.u⟩
theorem Yhe (d g k : Nat) (v : Value) (L : List Int) (w : World) (hD : Yl w d v L g ⟨k, false, false⟩) :
  Calls Tryz.prog 37 #[.pointer (some ⟨d, 0, none⟩)] w (Yr d v L g w (Ye2 L ⟨k, false, false⟩)) := by
 obtain ⟨c, hce⟩ : ∃ c, reB L ⟨k, false, false⟩ = c := ⟨_, rfl⟩
 obtain ⟨k2, sh, bd, hs2⟩ : ∃ k2 sh bd, Ym L ⟨k, false, false⟩ = ⟨k2, sh, bd⟩ := ⟨_, _, _, rfl⟩
 have hb : bd = false := by
  have := Ye8 L ⟨k, false, false⟩
  rw [hs2] at this
  exact this
 subst hb
 have hcr := Yae hD.r ⟨k, false, false⟩
 rw [hce] at hcr
 unfold Ye2
 rw [hce, hs2]
 dsimp only
 cases sh
 ·rw [if_neg (by simp)]
  by_cases hg : c < 64 ∧ (c % 8 = 1 ∨ c % 8 = 3 ∨ c % 8 = 5)
  ·rw [if_pos hg]
   have he : ∀ op kk, (Ydx L op kk ⟨k2, false, false⟩).e = false := fun op kk => by unfold Ydx; split; rfl; split <;> rfl
   rcases hg.2 with h | h | h
   ·have := rinsn_g1 d g _ v L w hD c hce k2 hs2 hg.1 h _ rfl
    rw [h]
    obtain ⟨q, hq⟩ : ∃ q, Ydx L (Yag (c / 8)) 1 ⟨k2, false, false⟩ = q := ⟨_, rfl⟩
    have hqe := he (Yag (c / 8)) 1
    rw [hq] at this hqe ⊢
    obtain ⟨qi, qe, qs⟩ := q
    subst hqe
    exact this
   ·have := rinsn_g3 d g _ v L w hD c hce k2 hs2 hg.1 h _ rfl
    rw [h]
    obtain ⟨q, hq⟩ : ∃ q, Ydx L (Yag (c / 8)) 3 ⟨k2, false, false⟩ = q := ⟨_, rfl⟩
    have hqe := he (Yag (c / 8)) 3
    rw [hq] at this hqe ⊢
    obtain ⟨qi, qe, qs⟩ := q
    subst hqe
    exact this
   ·have := rinsn_g5 d g _ v L w hD c hce k2 hs2 hg.1 h _ rfl
    rw [h]
    obtain ⟨q, hq⟩ : ∃ q, Ydx L (Yag (c / 8)) 5 ⟨k2, false, false⟩ = q := ⟨_, rfl⟩
    have hqe := he (Yag (c / 8)) 5
    rw [hq] at this hqe ⊢
    obtain ⟨qi, qe, qs⟩ := q
    subst hqe
    exact this
  rw [if_neg hg]
  by_cases h2 : 64 ≤ c ∧ c < 72
  ·rw [if_pos h2]; exact rinsn_64 d g _ v L w hD c hce k2 hs2 h2.1 h2.2
  rw [if_neg h2]
  by_cases h3 : 72 ≤ c ∧ c < 80
  ·rw [if_pos h3]; exact rinsn_72 d g _ v L w hD c hce k2 hs2 h3.1 h3.2
  rw [if_neg h3]
  by_cases h4 : 80 ≤ c ∧ c < 88
  ·rw [if_pos h4]; exact rinsn_80 d g _ v L w hD c hce k2 hs2 h4.1 h4.2
  rw [if_neg h4]
  by_cases h5 : 88 ≤ c ∧ c < 96
  ·rw [if_pos h5]; exact rinsn_88 d g _ v L w hD c hce k2 hs2 h5.1 h5.2
  rw [if_neg h5]
  by_cases h6 : 112 ≤ c ∧ c < 128
  ·rw [if_pos h6]; exact Yt0 d g _ v L w hD c hce k2 hs2 h6.1 h6.2
  rw [if_neg h6]
  by_cases h7 : 176 ≤ c ∧ c < 184
  ·rw [if_pos h7]; exact Yuv d g _ v L w hD c hce k2 hs2 h7.1 h7.2
  rw [if_neg h7]
  by_cases h8 : 184 ≤ c ∧ c < 192
  ·rw [if_pos h8]; exact Yub d g _ v L w hD c hce k2 hs2 h8.1 h8.2
  rw [if_neg h8]
  have hmod := fun w1 (h : Yl w1 d v L g ⟨k2, false, false⟩) => Yo1 d g k2 v L w1 h c (fun w2 h2 => rtwo_any d g k2 v L w2 h2)
  have hpl := fun w1 (h : Yl w1 d v L g ⟨k2, false, false⟩) => Ysg d g ⟨k2, false, false⟩ v L w1 h c
  cases hp : Yc1 L c ⟨k2, false, false⟩ with
  |some q =>
   dsimp only
   rw [hp] at hpl
   obtain ⟨qi, qe, qs⟩ := q
   by_cases hqe : qe = false
   ·subst hqe
    have hpl2 := fun w1 h => (hpl w1 h).mono fun e w' (x : _ ∧ _) => x.2
    by_cases r0 : c < 64
    ·exact rinsn_0p d g _ v L w hD c hce k2 hs2 r0 (fun h => hg ⟨r0, .inl h⟩) (fun h => hg ⟨r0, .inr (.inl h)⟩) (fun h => hg ⟨r0, .inr (.inr h)⟩) ⟨qi, false, qs⟩ hpl2
    by_cases r1 : c < 112
    ·exact Yty d g _ v L w hD c hce k2 hs2 (by omega) r1 ⟨qi, false, qs⟩ hpl2
    by_cases r2 : c < 176
    ·exact Ysa d g _ v L w hD c hce k2 hs2 (by omega) r2 ⟨qi, false, qs⟩ hpl2
    ·exact Yr2 d g _ v L w hD c hce k2 hs2 (by omega) (by omega) ⟨qi, false, qs⟩ hpl2
   ·exfalso
    exact hqe (Yut hp)
  |none =>
   dsimp only
   rw [hp] at hpl
   obtain ⟨q, hq⟩ : ∃ q, Ybk L c ⟨k2, false, false⟩ = q := ⟨_, rfl⟩
   rw [hq] at hmod ⊢
   by_cases r0 : c < 64
   ·exact rinsn_0m d g _ v L w hD c hce k2 hs2 r0 (fun h => hg ⟨r0, .inl h⟩) (fun h => hg ⟨r0, .inr (.inl h)⟩) (fun h => hg ⟨r0, .inr (.inr h)⟩) q hpl hmod
   by_cases r1 : c < 112
   ·exact Yur d g _ v L w hD c hce k2 hs2 (by omega) r1 q hpl hmod
   by_cases r2 : c < 176
   ·exact Ysw d g _ v L w hD c hce k2 hs2 (by omega) r2 q hpl hmod
   ·exact Yrn d g _ v L w hD c hce k2 hs2 (by omega) (by omega) q hpl hmod
 ·rw [if_pos rfl]
  exact rinsn_s d g _ v L w hD c hce k2 hs2
end Go.Proofs.YteiplidhkelkbaaGreat
