/-
  Parts of the proof (their names shortened by a program). No condition.
-/
import Derived.Test.YteiplidhkelkbaaGreatMg01
import Derived.Test.YteiplidhkelkbaaGreatMg24
namespace Go.Proofs.YteiplidhkelkbaaGreat
open Go Go.RowKit
set_option linter.unusedVariables false
set_option linter.unusedSimpArgs false
set_option maxRecDepth 100000
set_option maxHeartbeats 16000000
theorem Ybn (c : Int) (hc : 0 ≤ c ∧ c ≤ 255) : bits .and .u8 c 15 = c % 16 ∧ bits .and .u8 c 7 = c % 8 := by
 have h : ∀ k : Fin 256, bits .and .u8 (k.val : Int) 15 = (k.val : Int) % 16 ∧ bits .and .u8 (k.val : Int) 7 = (k.val : Int) % 8 := by decide +kernel
 have := h ⟨c.toNat, by omega⟩
 simpa only [show ((c.toNat : Nat) : Int) = c by omega] using this
theorem rtwo_s (d g : Nat) (s : Rd) (v : Value) (L : List Int) (w : World) (hD : Yl w d v L g s) (c : Int) (hce : reB L s = c) (k2 : Nat) (hs2 : Ym L s = ⟨k2, true, false⟩)  :
  Calls Tryz.prog 73 #[.pointer (some ⟨d, 0, none⟩)] w (Yr d v L g w ⟨Ins.zero, false, ⟨k2, true, false⟩⟩) := by
 have hcr := Yae hD.r s
 rw [hce] at hcr
 have HCE := Yh_ hce
 have HS2 := Yh_ hs2
 obtain ⟨b15, b7⟩ := Ybn c hcr
 have H1 := Yh_ (RiS.start hD)
 clear hD hce hs2 hcr
 go_enter Tryz.func73, Tryz.ntmps73
 go_wp2_with (first | (have _t := H1; clear _t; go_at_call 53; refine (Yy d g _ _ L _ (H1.out).h).mono ?_; rintro e w2 ⟨rfl, h, hu⟩; rw [HCE.out]; rw [HS2.out] at h; have H2 := Yh_ ((H1.out).call h hu); have cs := Ya h.h; have fs := Yh h.h; clear h hu H1) | (have _t := H2; clear _t; refine Ye 42 rfl ?_; refine Yb Ins.zero (w.heap.size) rfl _ _ rfl rfl rfl (H2.out).r (H2.out).z ?_; intro w3 hw; have H3 := Yh_ ((H2.out).store hw); clear hw H2))
 exact bodyPost_ret (Yg rfl (Yi 2 (w.heap.size) _ rfl H3.out.r) (Yk 3 rfl)) rfl ⟨rfl, H3.out.h, H3.out.u⟩
theorem rtwo_11 (d g : Nat) (s : Rd) (v : Value) (L : List Int) (w : World) (hD : Yl w d v L g s) (c : Int) (hce : reB L s = c) (k2 : Nat) (hs2 : Ym L s = ⟨k2, false, false⟩) (h : c = 11) :
  Calls Tryz.prog 73 #[.pointer (some ⟨d, 0, none⟩)] w (Yr d v L g w ⟨Ins.zero, false, ⟨k2, false, true⟩⟩) := by
 have hcr := Yae hD.r s
 rw [hce] at hcr
 have HCE := Yh_ hce
 have HS2 := Yh_ hs2
 obtain ⟨b15, b7⟩ := Ybn c hcr
 subst h
 have H1 := Yh_ (RiS.start hD)
 clear hD hce hs2 hcr
 go_enter Tryz.func73, Tryz.ntmps73
 go_wp2_with (first | (have _t := H1; clear _t; go_at_call 53; refine (Yy d g _ _ L _ (H1.out).h).mono ?_; rintro e w2 ⟨rfl, h, hu⟩; rw [HCE.out]; rw [HS2.out] at h; have H2 := Yh_ ((H1.out).call h hu); have cs := Ya h.h; have fs := Yh h.h; clear h hu H1) | (have _t := H2; clear _t; refine Ye 42 rfl ?_; refine Yb Ins.zero (w.heap.size) rfl _ _ rfl rfl rfl ((H2.out.setB true)).r ((H2.out.setB true)).z ?_; intro w3 hw; have H3 := Yh_ (((H2.out.setB true)).store hw); clear hw H2))
 exact bodyPost_ret (Yg rfl (Yi 2 (w.heap.size) _ rfl H3.out.r) (Yk 3 rfl)) rfl ⟨rfl, H3.out.h, H3.out.u⟩
theorem rtwo_8 (d g : Nat) (s : Rd) (v : Value) (L : List Int) (w : World) (hD : Yl w d v L g s) (c : Int) (hce : reB L s = c) (k2 : Nat) (hs2 : Ym L s = ⟨k2, false, false⟩) (h : c / 16 = 8) :
  Calls Tryz.prog 73 #[.pointer (some ⟨d, 0, none⟩)] w (Yr d v L g w ⟨⟨33, c % 16, Yac (reW L ⟨k2, false, false⟩), Opd.none, false, 0⟩, false, (Yb1 L ⟨k2, false, false⟩)⟩) := by
 have hcr := Yae hD.r s
 rw [hce] at hcr
 have HCE := Yh_ hce
 have HS2 := Yh_ hs2
 obtain ⟨b15, b7⟩ := Ybn c hcr
 have q1 : (c == 11) = false := by rw [beq_eq_false_iff_ne]; omega
 have H1 := Yh_ (RiS.start hD)
 clear hD hce hs2 hcr
 go_enter Tryz.func73, Tryz.ntmps73
 go_wp2_with (first | (have _t := H1; clear _t; go_at_call 53; refine (Yy d g _ _ L _ (H1.out).h).mono ?_; rintro e w2 ⟨rfl, h, hu⟩; rw [HCE.out]; rw [HS2.out] at h; have H2 := Yh_ ((H1.out).call h hu); have cs := Ya h.h; have fs := Yh h.h; clear h hu H1) | (have _t := H2; clear _t; go_at_call 59; refine (Yci d g _ v L _ (H2.out).h).mono ?_; rintro e w3 ⟨rfl, h, hu⟩; have H3 := Yh_ ((H2.out).call h hu); clear h hu H2) | (have _t := H3; clear _t; go_at_call 57; refine (Ycb _ _).mono ?_; rintro e w4 ⟨rfl, hu⟩; rw [show (Yac (reW L ⟨k2, false, false⟩)).val = .agg #[.int .i64 2, .int .i64 0, .int .u32 (reW L ⟨k2, false, false⟩), .int .i64 0, .int .i64 0, .int .u32 0] from rfl]; have H4 := Yh_ ((H3.out).step hu); clear hu H3) | (have _t := H4; clear _t; refine Ye 42 rfl ?_; refine Yb ⟨33, c % 16, Yac (reW L ⟨k2, false, false⟩), Opd.none, false, 0⟩ (w.heap.size) rfl _ _ rfl rfl rfl (H4.out).r (H4.out).z ?_; intro w5 hw; have H5 := Yh_ ((H4.out).store hw); clear hw H4))
 exact bodyPost_ret (Yg rfl (Yi 2 (w.heap.size) _ rfl H5.out.r) (Yk 3 rfl)) rfl ⟨rfl, H5.out.h, H5.out.u⟩
theorem rtwo_4 (d g : Nat) (s : Rd) (v : Value) (L : List Int) (w : World) (hD : Yl w d v L g s) (c : Int) (hce : reB L s = c) (k2 : Nat) (hs2 : Ym L s = ⟨k2, false, false⟩) (h : c / 16 = 4) (o : Opd) (ho : reM L ⟨k2, false, false⟩ = o) (n : Int) (hn : reN L ⟨k2, false, false⟩ = n) (sh3 : Bool) (k3 : Nat) (hs3 : Yab L ⟨k2, false, false⟩ = ⟨k3, sh3, false⟩) :
  Calls Tryz.prog 73 #[.pointer (some ⟨d, 0, none⟩)] w (Yr d v L g w ⟨⟨35, c % 16, Yn n, o, false, 0⟩, false, ⟨k3, sh3, false⟩⟩) := by
 have hcr := Yae hD.r s
 rw [hce] at hcr
 have HCE := Yh_ hce
 have HS2 := Yh_ hs2
 obtain ⟨b15, b7⟩ := Ybn c hcr
 have hmo : Tryz.prog.follows .mixedOrders = true := by kernel_rfl
 have HO := Yh_ ho
 have HN := Yh_ hn
 have HS3 := Yh_ hs3
 have q1 : (c == 11) = false := by rw [beq_eq_false_iff_ne]; omega
 have H1 := Yh_ (RiS.start hD)
 clear hD hce hs2 hcr ho hn hs3
 go_enter Tryz.func73, Tryz.ntmps73
 go_wp2_with (first | (have _t := H1; clear _t; go_at_call 53; refine (Yy d g _ _ L _ (H1.out).h).mono ?_; rintro e w2 ⟨rfl, h, hu⟩; rw [HCE.out]; rw [HS2.out] at h; have H2 := Yh_ ((H1.out).call h hu); have cs := Ya h.h; have fs := Yh h.h; clear h hu H1) | (have _t := H2; clear _t; go_at_call 72; refine (Ya4 d g _ _ L _ (H2.out).h).mono ?_; rintro e w3 ⟨rfl, h, hu⟩; rw [HO.out, HN.out]; rw [HS3.out] at h; unfold Opd.val; have H3 := Yh_ (((H2.out).call h hu).mvar o); clear cs fs; have cs := Ya (Yc (.cells #[.int .i64 o.k, .int .i64 o.r, .int .u32 o.imm, .int .i64 o.b, .int .i64 o.x, .int .u32 o.sc] 40) h.h); have fs := Yh (Yc (.cells #[.int .i64 o.k, .int .i64 o.r, .int .u32 o.imm, .int .i64 o.b, .int .i64 o.x, .int .u32 o.sc] 40) h.h); clear h hu H2))
 refine Yaq 4 (RiB w d v L g ⟨k3, sh3, false⟩ ⟨k3, sh3, false⟩ 999 999 Ins.zero (w.heap.size) (w3.heap.size) o) (fun _ _ => False) (by kernel_rfl) (by decide +kernel) (RiB.start (H3.out)) (fun _ _ _ h => h.elim) ?_
 simp only [List.take_succ_cons, List.take_zero, List.drop_succ_cons, List.drop_zero]
 iterate 2
  apply Yf rfl rfl
  ·intro dd K hd hK w5 hB1
   have HB := Yh_ hB1
   have c1 := Ya HB.out.o; unfold Opd.cells at c1
   clear hB1
   go_wp2_with fail
   first
   |exact hK _ (HB.out.same _ (by decide) (by decide))
   |exact HB.out.same _ (by decide) (by decide)
  ·exact ⟨_, rfl⟩
 apply Yf rfl rfl
 ·intro dd K hd hK w5 hB1
  have HB := Yh_ hB1
  have c1 := Ya HB.out.o; unfold Opd.cells at c1
  clear hB1
  go_wp2_with (go_at_call 56; refine (Yba _ _).mono ?_; rintro e w' ⟨rfl, hu⟩; rw [show (Yn (n)).val = .agg #[.int .i64 1, .int .i64 (n), .int .u32 0, .int .i64 0, .int .i64 0, .int .u32 0] from rfl])
  first
  |exact hK _ (HB.out.quiet hu _ (by decide) (by decide))
  |exact HB.out.quiet hu _ (by decide) (by decide)
 ·exact ⟨_, rfl⟩
 apply Yf rfl rfl
 ·intro dd K hd hK w5 hB1
  have HB := Yh_ hB1
  have c1 := Ya HB.out.o; unfold Opd.cells at c1
  clear hB1
  go_wp2_with fail
  first
  |exact hK _ (HB.out.same _ (by decide) (by decide))
  |exact HB.out.same _ (by decide) (by decide)
 ·exact ⟨_, rfl⟩
 refine Yal (fun _ w4 dd hall hB1 => ?_)
 obtain ⟨C4, hC, hI⟩ := hB1.fin (.inr rfl)
 clear hI
 have H4 := Yh_ hC
 have cm := Ya H4.out.o
 unfold Opd.cells at cm
 clear hC hall hB1
 go_wp2_with (have _t := H4; clear _t; refine Ye 42 rfl ?_; refine Yb ⟨35, c % 16, Yn n, o, false, 0⟩ (w.heap.size) rfl _ _ rfl rfl rfl (H4.out).r (H4.out).z ?_; intro w5 hw; have H5 := Yh_ ((H4.out).store hw); clear hw H4)
 exact bodyPost_ret (Yg rfl (Yi 2 (w.heap.size) _ rfl H5.out.r) (Yk 3 rfl)) rfl ⟨rfl, H5.out.h, H5.out.u⟩
theorem rtwo_9n (d g : Nat) (s : Rd) (v : Value) (L : List Int) (w : World) (hD : Yl w d v L g s) (c : Int) (hce : reB L s = c) (k2 : Nat) (hs2 : Ym L s = ⟨k2, false, false⟩) (h : c / 16 = 9) (o : Opd) (ho : reM L ⟨k2, false, false⟩ = o) (n : Int) (hn : reN L ⟨k2, false, false⟩ = n) (k3 : Nat) (hs3 : Yab L ⟨k2, false, false⟩ = ⟨k3, false, false⟩)  :
  Calls Tryz.prog 73 #[.pointer (some ⟨d, 0, none⟩)] w (Yr d v L g w ⟨⟨34, c % 16, o, Opd.none, false, 0⟩, (n != 0), ⟨k3, false, false⟩⟩) := by
 have hcr := Yae hD.r s
 rw [hce] at hcr
 have HCE := Yh_ hce
 have HS2 := Yh_ hs2
 obtain ⟨b15, b7⟩ := Ybn c hcr
 have hmo : Tryz.prog.follows .mixedOrders = true := by kernel_rfl
 have HO := Yh_ ho
 have HN := Yh_ hn
 have HS3 := Yh_ hs3
 have q1 : (c == 11) = false := by rw [beq_eq_false_iff_ne]; omega
 have H1 := Yh_ (RiS.start hD)
 clear hD hce hs2 hcr ho hn hs3
 go_enter Tryz.func73, Tryz.ntmps73
 go_wp2_with (first | (have _t := H1; clear _t; go_at_call 53; refine (Yy d g _ _ L _ (H1.out).h).mono ?_; rintro e w2 ⟨rfl, h, hu⟩; rw [HCE.out]; rw [HS2.out] at h; have H2 := Yh_ ((H1.out).call h hu); have cs := Ya h.h; have fs := Yh h.h; clear h hu H1) | (have _t := H2; clear _t; go_at_call 72; refine (Ya4 d g _ _ L _ (H2.out).h).mono ?_; rintro e w3 ⟨rfl, h, hu⟩; rw [HO.out, HN.out]; rw [HS3.out] at h; unfold Opd.val; have H3 := Yh_ (((H2.out).call h hu).mvar o); clear cs fs; have cs := Ya (Yc (.cells #[.int .i64 o.k, .int .i64 o.r, .int .u32 o.imm, .int .i64 o.b, .int .i64 o.x, .int .u32 o.sc] 40) h.h); have fs := Yh (Yc (.cells #[.int .i64 o.k, .int .i64 o.r, .int .u32 o.imm, .int .i64 o.b, .int .i64 o.x, .int .u32 o.sc] 40) h.h); clear h hu H2) | (have _t := H3; clear _t; refine Ye 42 rfl ?_; refine Yb ⟨34, c % 16, o, Opd.none, false, 0⟩ (w.heap.size) rfl _ _ rfl rfl rfl (H3.out).r (H3.out).z ?_; intro w4 hw; have H4 := Yh_ ((H3.out).store hw); clear hw H3))
 exact bodyPost_ret (Yg rfl (Yi 2 (w.heap.size) _ rfl H4.out.r) (Yk 3 rfl)) rfl ⟨rfl, H4.out.h, H4.out.u⟩
theorem rtwo_9l (d g : Nat) (s : Rd) (v : Value) (L : List Int) (w : World) (hD : Yl w d v L g s) (c : Int) (hce : reB L s = c) (k2 : Nat) (hs2 : Ym L s = ⟨k2, false, false⟩) (h : c / 16 = 9) (o : Opd) (ho : reM L ⟨k2, false, false⟩ = o) (n : Int) (hn : reN L ⟨k2, false, false⟩ = n) (k3 : Nat) (hs3 : Yab L ⟨k2, false, false⟩ = ⟨k3, true, false⟩) (hl : L.length ≤ 2) :
  Calls Tryz.prog 73 #[.pointer (some ⟨d, 0, none⟩)] w (Yr d v L g w ⟨⟨34, c % 16, o, Opd.none, false, 0⟩, (n != 0), ⟨k3, true, false⟩⟩) := by
 have hcr := Yae hD.r s
 rw [hce] at hcr
 have HCE := Yh_ hce
 have HS2 := Yh_ hs2
 obtain ⟨b15, b7⟩ := Ybn c hcr
 have hmo : Tryz.prog.follows .mixedOrders = true := by kernel_rfl
 have HO := Yh_ ho
 have HN := Yh_ hn
 have HS3 := Yh_ hs3
 have q1 : (c == 11) = false := by rw [beq_eq_false_iff_ne]; omega
 obtain ⟨sb, sc, rfl⟩ := hD.b.form
 have q2 : decide (2 < (L.length : Int)) = false := by simp; omega
 have q3 : decide (2 < L.length) = false := by simp; omega
 have H1 := Yh_ (RiS.start hD)
 clear hD hce hs2 hcr ho hn hs3 hl
 go_enter Tryz.func73, Tryz.ntmps73
 go_wp2_with (first | (have _t := H1; clear _t; go_at_call 53; refine (Yy d g _ _ L _ (H1.out).h).mono ?_; rintro e w2 ⟨rfl, h, hu⟩; rw [HCE.out]; rw [HS2.out] at h; have H2 := Yh_ ((H1.out).call h hu); have cs := Ya h.h; have fs := Yh h.h; clear h hu H1) | (have _t := H2; clear _t; go_at_call 72; refine (Ya4 d g _ _ L _ (H2.out).h).mono ?_; rintro e w3 ⟨rfl, h, hu⟩; rw [HO.out, HN.out]; rw [HS3.out] at h; unfold Opd.val; have H3 := Yh_ (((H2.out).call h hu).mvar o); clear cs fs; have cs := Ya (Yc (.cells #[.int .i64 o.k, .int .i64 o.r, .int .u32 o.imm, .int .i64 o.b, .int .i64 o.x, .int .u32 o.sc] 40) h.h); have fs := Yh (Yc (.cells #[.int .i64 o.k, .int .i64 o.r, .int .u32 o.imm, .int .i64 o.b, .int .i64 o.x, .int .u32 o.sc] 40) h.h); clear h hu H2) | (have _t := H3; clear _t; refine Ye 42 rfl ?_; refine Yb ⟨34, c % 16, o, Opd.none, false, 0⟩ (w.heap.size) rfl _ _ rfl rfl rfl (H3.out).r (H3.out).z ?_; intro w4 hw; have H4 := Yh_ ((H3.out).store hw); clear hw H3))
 exact bodyPost_ret (Yg rfl (Yi 2 (w.heap.size) _ rfl H4.out.r) (Yk 3 rfl)) rfl ⟨rfl, H4.out.h, H4.out.u⟩
theorem rtwo_9z (d g : Nat) (s : Rd) (v : Value) (L : List Int) (w : World) (hD : Yl w d v L g s) (c : Int) (hce : reB L s = c) (k2 : Nat) (hs2 : Ym L s = ⟨k2, false, false⟩) (h : c / 16 = 9) (o : Opd) (ho : reM L ⟨k2, false, false⟩ = o) (n : Int) (hn : reN L ⟨k2, false, false⟩ = n) (k3 : Nat) (hs3 : Yab L ⟨k2, false, false⟩ = ⟨k3, true, false⟩) (hl : 2 < L.length) (hz : L.getD 2 0 / 8 % 8 = 0) :
  Calls Tryz.prog 73 #[.pointer (some ⟨d, 0, none⟩)] w (Yr d v L g w ⟨⟨34, c % 16, o, Opd.none, false, 0⟩, (n != 0), ⟨k3, true, false⟩⟩) := by
 have hcr := Yae hD.r s
 rw [hce] at hcr
 have HCE := Yh_ hce
 have HS2 := Yh_ hs2
 obtain ⟨b15, b7⟩ := Ybn c hcr
 have hmo : Tryz.prog.follows .mixedOrders = true := by kernel_rfl
 have HO := Yh_ ho
 have HN := Yh_ hn
 have HS3 := Yh_ hs3
 have q1 : (c == 11) = false := by rw [beq_eq_false_iff_ne]; omega
 obtain ⟨ao, sc, rfl, hsc⟩ : ∃ ao c, v = .slice (some ⟨g, ao, none⟩) L.length c ∧ L.length ≤ c := by
  rcases hD.b with ⟨_, h1⟩ | ⟨ao, c, _, _, _, h1, _⟩
  ·rw [h1] at hl; simp at hl
  ·exact ⟨ao, c, h1, hD.c _ _ _ h1⟩
 have hx := hD.r 2
 have q2 : decide (2 < (L.length : Int)) = true := by simp; omega
 have q3 : decide (2 < L.length) = true := by simp; omega
 have q5 : 2 < L.length := hl
 have HC := Yh_ (fun (W : World) (hb : Ybz W (.slice (some ⟨g, ao, none⟩) L.length sc) L g) => Ybs W hl hb)
 obtain ⟨x, hxe⟩ : ∃ x, L.getD 2 0 = x := ⟨_, rfl⟩
 rw [hxe] at hx HC hz
 have q4 := Ybv x hx
 rw [hz] at q4
 have H1 := Yh_ (RiS.start hD)
 clear hD hce hs2 hcr ho hn hs3 hl hx hxe hz hsc
 go_enter Tryz.func73, Tryz.ntmps73
 go_wp2_with (first | (have _t := H1; clear _t; go_at_call 53; refine (Yy d g _ _ L _ (H1.out).h).mono ?_; rintro e w2 ⟨rfl, h, hu⟩; rw [HCE.out]; rw [HS2.out] at h; have H2 := Yh_ ((H1.out).call h hu); have cs := Ya h.h; have fs := Yh h.h; clear h hu H1) | (have _t := H2; clear _t; go_at_call 72; refine (Ya4 d g _ _ L _ (H2.out).h).mono ?_; rintro e w3 ⟨rfl, h, hu⟩; rw [HO.out, HN.out]; rw [HS3.out] at h; unfold Opd.val; have H3 := Yh_ (((H2.out).call h hu).mvar o); clear cs fs; have cs := Ya (Yc (.cells #[.int .i64 o.k, .int .i64 o.r, .int .u32 o.imm, .int .i64 o.b, .int .i64 o.x, .int .u32 o.sc] 40) h.h); have fs := Yh (Yc (.cells #[.int .i64 o.k, .int .i64 o.r, .int .u32 o.imm, .int .i64 o.b, .int .i64 o.x, .int .u32 o.sc] 40) h.h); have cb := HC.out (w3.alloc (.cells #[.int .i64 o.k, .int .i64 o.r, .int .u32 o.imm, .int .i64 o.b, .int .i64 o.x, .int .u32 o.sc] 40)) H3.out.h.b; clear h hu H2) | (have _t := H3; clear _t; refine Ye 42 rfl ?_; refine Yb ⟨34, c % 16, o, Opd.none, false, 0⟩ (w.heap.size) rfl _ _ rfl rfl rfl (H3.out).r (H3.out).z ?_; intro w4 hw; have H4 := Yh_ ((H3.out).store hw); clear hw H3))
 exact bodyPost_ret (Yg rfl (Yi 2 (w.heap.size) _ rfl H4.out.r) (Yk 3 rfl)) rfl ⟨rfl, H4.out.h, H4.out.u⟩
theorem rtwo_9y (d g : Nat) (s : Rd) (v : Value) (L : List Int) (w : World) (hD : Yl w d v L g s) (c : Int) (hce : reB L s = c) (k2 : Nat) (hs2 : Ym L s = ⟨k2, false, false⟩) (h : c / 16 = 9) (o : Opd) (ho : reM L ⟨k2, false, false⟩ = o) (n : Int) (hn : reN L ⟨k2, false, false⟩ = n) (k3 : Nat) (hs3 : Yab L ⟨k2, false, false⟩ = ⟨k3, true, false⟩) (hl : 2 < L.length) (hz : L.getD 2 0 / 8 % 8 ≠ 0) :
  Calls Tryz.prog 73 #[.pointer (some ⟨d, 0, none⟩)] w (Yr d v L g w ⟨Ins.zero, true, ⟨k3, false, false⟩⟩) := by
 have hcr := Yae hD.r s
 rw [hce] at hcr
 have HCE := Yh_ hce
 have HS2 := Yh_ hs2
 obtain ⟨b15, b7⟩ := Ybn c hcr
 have hmo : Tryz.prog.follows .mixedOrders = true := by kernel_rfl
 have HO := Yh_ ho
 have HN := Yh_ hn
 have HS3 := Yh_ hs3
 have q1 : (c == 11) = false := by rw [beq_eq_false_iff_ne]; omega
 obtain ⟨ao, sc, rfl, hsc⟩ : ∃ ao c, v = .slice (some ⟨g, ao, none⟩) L.length c ∧ L.length ≤ c := by
  rcases hD.b with ⟨_, h1⟩ | ⟨ao, c, _, _, _, h1, _⟩
  ·rw [h1] at hl; simp at hl
  ·exact ⟨ao, c, h1, hD.c _ _ _ h1⟩
 have hx := hD.r 2
 have q2 : decide (2 < (L.length : Int)) = true := by simp; omega
 have q3 : decide (2 < L.length) = true := by simp; omega
 have q5 : 2 < L.length := hl
 have HC := Yh_ (fun (W : World) (hb : Ybz W (.slice (some ⟨g, ao, none⟩) L.length sc) L g) => Ybs W hl hb)
 obtain ⟨x, hxe⟩ : ∃ x, L.getD 2 0 = x := ⟨_, rfl⟩
 rw [hxe] at hx HC hz
 have q4 := Ybv x hx
 have q6 : (x / 8 % 8 != 0) = true := by simpa using hz
 have H1 := Yh_ (RiS.start hD)
 clear hD hce hs2 hcr ho hn hs3 hl hx hxe hz hsc
 go_enter Tryz.func73, Tryz.ntmps73
 go_wp2_with (first | (have _t := H1; clear _t; go_at_call 53; refine (Yy d g _ _ L _ (H1.out).h).mono ?_; rintro e w2 ⟨rfl, h, hu⟩; rw [HCE.out]; rw [HS2.out] at h; have H2 := Yh_ ((H1.out).call h hu); have cs := Ya h.h; have fs := Yh h.h; clear h hu H1) | (have _t := H2; clear _t; go_at_call 72; refine (Ya4 d g _ _ L _ (H2.out).h).mono ?_; rintro e w3 ⟨rfl, h, hu⟩; rw [HO.out, HN.out]; rw [HS3.out] at h; unfold Opd.val; have H3 := Yh_ (((H2.out).call h hu).mvar o); clear cs fs; have cs := Ya (Yc (.cells #[.int .i64 o.k, .int .i64 o.r, .int .u32 o.imm, .int .i64 o.b, .int .i64 o.x, .int .u32 o.sc] 40) h.h); have fs := Yh (Yc (.cells #[.int .i64 o.k, .int .i64 o.r, .int .u32 o.imm, .int .i64 o.b, .int .i64 o.x, .int .u32 o.sc] 40) h.h); have cb := HC.out (w3.alloc (.cells #[.int .i64 o.k, .int .i64 o.r, .int .u32 o.imm, .int .i64 o.b, .int .i64 o.x, .int .u32 o.sc] 40)) H3.out.h.b; clear h hu H2) | (have _t := H3; clear _t; refine Ye 42 rfl ?_; refine Yb Ins.zero (w.heap.size) rfl _ _ rfl rfl rfl ((H3.out.setS false)).r ((H3.out.setS false)).z ?_; intro w4 hw; have H4 := Yh_ (((H3.out.setS false)).store hw); clear hw H3))
 exact bodyPost_ret (Yg rfl (Yi 2 (w.heap.size) _ rfl H4.out.r) (Yk 3 rfl)) rfl ⟨rfl, H4.out.h, H4.out.u⟩
theorem rtwo_175 (d g : Nat) (s : Rd) (v : Value) (L : List Int) (w : World) (hD : Yl w d v L g s) (c : Int) (hce : reB L s = c) (k2 : Nat) (hs2 : Ym L s = ⟨k2, false, false⟩) (h : c = 175) (o : Opd) (ho : reM L ⟨k2, false, false⟩ = o) (n : Int) (hn : reN L ⟨k2, false, false⟩ = n) (sh3 : Bool) (k3 : Nat) (hs3 : Yab L ⟨k2, false, false⟩ = ⟨k3, sh3, false⟩) :
  Calls Tryz.prog 73 #[.pointer (some ⟨d, 0, none⟩)] w (Yr d v L g w ⟨⟨18, 0, Yn n, o, false, 0⟩, false, ⟨k3, sh3, false⟩⟩) := by
 have hcr := Yae hD.r s
 rw [hce] at hcr
 have HCE := Yh_ hce
 have HS2 := Yh_ hs2
 obtain ⟨b15, b7⟩ := Ybn c hcr
 have hmo : Tryz.prog.follows .mixedOrders = true := by kernel_rfl
 have HO := Yh_ ho
 have HN := Yh_ hn
 have HS3 := Yh_ hs3
 subst h
 have H1 := Yh_ (RiS.start hD)
 clear hD hce hs2 hcr ho hn hs3
 go_enter Tryz.func73, Tryz.ntmps73
 go_wp2_with (first | (have _t := H1; clear _t; go_at_call 53; refine (Yy d g _ _ L _ (H1.out).h).mono ?_; rintro e w2 ⟨rfl, h, hu⟩; rw [HCE.out]; rw [HS2.out] at h; have H2 := Yh_ ((H1.out).call h hu); have cs := Ya h.h; have fs := Yh h.h; clear h hu H1) | (have _t := H2; clear _t; go_at_call 72; refine (Ya4 d g _ _ L _ (H2.out).h).mono ?_; rintro e w3 ⟨rfl, h, hu⟩; rw [HO.out, HN.out]; rw [HS3.out] at h; unfold Opd.val; have H3 := Yh_ (((H2.out).call h hu).mvar o); clear cs fs; have cs := Ya (Yc (.cells #[.int .i64 o.k, .int .i64 o.r, .int .u32 o.imm, .int .i64 o.b, .int .i64 o.x, .int .u32 o.sc] 40) h.h); have fs := Yh (Yc (.cells #[.int .i64 o.k, .int .i64 o.r, .int .u32 o.imm, .int .i64 o.b, .int .i64 o.x, .int .u32 o.sc] 40) h.h); clear h hu H2))
 refine Yaq 4 (RiB w d v L g ⟨k3, sh3, false⟩ ⟨k3, sh3, false⟩ 999 999 Ins.zero (w.heap.size) (w3.heap.size) o) (fun _ _ => False) (by kernel_rfl) (by decide +kernel) (RiB.start (H3.out)) (fun _ _ _ h => h.elim) ?_
 simp only [List.take_succ_cons, List.take_zero, List.drop_succ_cons, List.drop_zero]
 iterate 2
  apply Yf rfl rfl
  ·intro dd K hd hK w5 hB1
   have HB := Yh_ hB1
   have c1 := Ya HB.out.o; unfold Opd.cells at c1
   clear hB1
   go_wp2_with fail
   first
   |exact hK _ (HB.out.same _ (by decide) (by decide))
   |exact HB.out.same _ (by decide) (by decide)
  ·exact ⟨_, rfl⟩
 apply Yf rfl rfl
 ·intro dd K hd hK w5 hB1
  have HB := Yh_ hB1
  have c1 := Ya HB.out.o; unfold Opd.cells at c1
  clear hB1
  go_wp2_with (go_at_call 56; refine (Yba _ _).mono ?_; rintro e w' ⟨rfl, hu⟩; rw [show (Yn (n)).val = .agg #[.int .i64 1, .int .i64 (n), .int .u32 0, .int .i64 0, .int .i64 0, .int .u32 0] from rfl])
  first
  |exact hK _ (HB.out.quiet hu _ (by decide) (by decide))
  |exact HB.out.quiet hu _ (by decide) (by decide)
 ·exact ⟨_, rfl⟩
 apply Yf rfl rfl
 ·intro dd K hd hK w5 hB1
  have HB := Yh_ hB1
  have c1 := Ya HB.out.o; unfold Opd.cells at c1
  clear hB1
  go_wp2_with fail
  first
  |exact hK _ (HB.out.same _ (by decide) (by decide))
  |exact HB.out.same _ (by decide) (by decide)
 ·exact ⟨_, rfl⟩
 refine Yal (fun _ w4 dd hall hB1 => ?_)
 obtain ⟨C4, hC, hI⟩ := hB1.fin (.inr rfl)
 clear hI
 have H4 := Yh_ hC
 have cm := Ya H4.out.o
 unfold Opd.cells at cm
 clear hC hall hB1
 go_wp2_with (have _t := H4; clear _t; refine Ye 42 rfl ?_; refine Yb ⟨18, 0, Yn n, o, false, 0⟩ (w.heap.size) rfl _ _ rfl rfl rfl (H4.out).r (H4.out).z ?_; intro w5 hw; have H5 := Yh_ ((H4.out).store hw); clear hw H4)
 exact bodyPost_ret (Yg rfl (Yi 2 (w.heap.size) _ rfl H5.out.r) (Yk 3 rfl)) rfl ⟨rfl, H5.out.h, H5.out.u⟩
theorem rtwo_182 (d g : Nat) (s : Rd) (v : Value) (L : List Int) (w : World) (hD : Yl w d v L g s) (c : Int) (hce : reB L s = c) (k2 : Nat) (hs2 : Ym L s = ⟨k2, false, false⟩) (h : c = 182) (o : Opd) (ho : reM L ⟨k2, false, false⟩ = o) (n : Int) (hn : reN L ⟨k2, false, false⟩ = n) (sh3 : Bool) (k3 : Nat) (hs3 : Yab L ⟨k2, false, false⟩ = ⟨k3, sh3, false⟩) :
  Calls Tryz.prog 73 #[.pointer (some ⟨d, 0, none⟩)] w (Yr d v L g w ⟨⟨36, 0, Yn n, o, false, 0⟩, false, ⟨k3, sh3, false⟩⟩) := by
 have hcr := Yae hD.r s
 rw [hce] at hcr
 have HCE := Yh_ hce
 have HS2 := Yh_ hs2
 obtain ⟨b15, b7⟩ := Ybn c hcr
 have hmo : Tryz.prog.follows .mixedOrders = true := by kernel_rfl
 have HO := Yh_ ho
 have HN := Yh_ hn
 have HS3 := Yh_ hs3
 subst h
 have H1 := Yh_ (RiS.start hD)
 clear hD hce hs2 hcr ho hn hs3
 go_enter Tryz.func73, Tryz.ntmps73
 go_wp2_with (first | (have _t := H1; clear _t; go_at_call 53; refine (Yy d g _ _ L _ (H1.out).h).mono ?_; rintro e w2 ⟨rfl, h, hu⟩; rw [HCE.out]; rw [HS2.out] at h; have H2 := Yh_ ((H1.out).call h hu); have cs := Ya h.h; have fs := Yh h.h; clear h hu H1) | (have _t := H2; clear _t; go_at_call 72; refine (Ya4 d g _ _ L _ (H2.out).h).mono ?_; rintro e w3 ⟨rfl, h, hu⟩; rw [HO.out, HN.out]; rw [HS3.out] at h; unfold Opd.val; have H3 := Yh_ (((H2.out).call h hu).mvar o); clear cs fs; have cs := Ya (Yc (.cells #[.int .i64 o.k, .int .i64 o.r, .int .u32 o.imm, .int .i64 o.b, .int .i64 o.x, .int .u32 o.sc] 40) h.h); have fs := Yh (Yc (.cells #[.int .i64 o.k, .int .i64 o.r, .int .u32 o.imm, .int .i64 o.b, .int .i64 o.x, .int .u32 o.sc] 40) h.h); clear h hu H2))
 refine Yaq 4 (RiB w d v L g ⟨k3, sh3, false⟩ ⟨k3, sh3, false⟩ 999 999 Ins.zero (w.heap.size) (w3.heap.size) o) (fun _ _ => False) (by kernel_rfl) (by decide +kernel) (RiB.start (H3.out)) (fun _ _ _ h => h.elim) ?_
 simp only [List.take_succ_cons, List.take_zero, List.drop_succ_cons, List.drop_zero]
 iterate 2
  apply Yf rfl rfl
  ·intro dd K hd hK w5 hB1
   have HB := Yh_ hB1
   have c1 := Ya HB.out.o; unfold Opd.cells at c1
   clear hB1
   go_wp2_with fail
   first
   |exact hK _ (HB.out.same _ (by decide) (by decide))
   |exact HB.out.same _ (by decide) (by decide)
  ·exact ⟨_, rfl⟩
 apply Yf rfl rfl
 ·intro dd K hd hK w5 hB1
  have HB := Yh_ hB1
  have c1 := Ya HB.out.o; unfold Opd.cells at c1
  clear hB1
  go_wp2_with (go_at_call 56; refine (Yba _ _).mono ?_; rintro e w' ⟨rfl, hu⟩; rw [show (Yn (n)).val = .agg #[.int .i64 1, .int .i64 (n), .int .u32 0, .int .i64 0, .int .i64 0, .int .u32 0] from rfl])
  first
  |exact hK _ (HB.out.quiet hu _ (by decide) (by decide))
  |exact HB.out.quiet hu _ (by decide) (by decide)
 ·exact ⟨_, rfl⟩
 apply Yf rfl rfl
 ·intro dd K hd hK w5 hB1
  have HB := Yh_ hB1
  have c1 := Ya HB.out.o; unfold Opd.cells at c1
  clear hB1
  go_wp2_with fail
  first
  |exact hK _ (HB.out.same _ (by decide) (by decide))
  |exact HB.out.same _ (by decide) (by decide)
 ·exact ⟨_, rfl⟩
 refine Yal (fun _ w4 dd hall hB1 => ?_)
 obtain ⟨C4, hC, hI⟩ := hB1.fin (.inr rfl)
 clear hI
 have H4 := Yh_ hC
 have cm := Ya H4.out.o
 unfold Opd.cells at cm
 clear hC hall hB1
 go_wp2_with (have _t := H4; clear _t; refine Ye 42 rfl ?_; refine Yb ⟨36, 0, Yn n, o, false, 0⟩ (w.heap.size) rfl _ _ rfl rfl rfl (H4.out).r (H4.out).z ?_; intro w5 hw; have H5 := Yh_ ((H4.out).store hw); clear hw H4)
 exact bodyPost_ret (Yg rfl (Yi 2 (w.heap.size) _ rfl H5.out.r) (Yk 3 rfl)) rfl ⟨rfl, H5.out.h, H5.out.u⟩
theorem rtwo_190 (d g : Nat) (s : Rd) (v : Value) (L : List Int) (w : World) (hD : Yl w d v L g s) (c : Int) (hce : reB L s = c) (k2 : Nat) (hs2 : Ym L s = ⟨k2, false, false⟩) (h : c = 190) (o : Opd) (ho : reM L ⟨k2, false, false⟩ = o) (n : Int) (hn : reN L ⟨k2, false, false⟩ = n) (sh3 : Bool) (k3 : Nat) (hs3 : Yab L ⟨k2, false, false⟩ = ⟨k3, sh3, false⟩) :
  Calls Tryz.prog 73 #[.pointer (some ⟨d, 0, none⟩)] w (Yr d v L g w ⟨⟨37, 0, Yn n, o, false, 0⟩, false, ⟨k3, sh3, false⟩⟩) := by
 have hcr := Yae hD.r s
 rw [hce] at hcr
 have HCE := Yh_ hce
 have HS2 := Yh_ hs2
 obtain ⟨b15, b7⟩ := Ybn c hcr
 have hmo : Tryz.prog.follows .mixedOrders = true := by kernel_rfl
 have HO := Yh_ ho
 have HN := Yh_ hn
 have HS3 := Yh_ hs3
 subst h
 have H1 := Yh_ (RiS.start hD)
 clear hD hce hs2 hcr ho hn hs3
 go_enter Tryz.func73, Tryz.ntmps73
 go_wp2_with (first | (have _t := H1; clear _t; go_at_call 53; refine (Yy d g _ _ L _ (H1.out).h).mono ?_; rintro e w2 ⟨rfl, h, hu⟩; rw [HCE.out]; rw [HS2.out] at h; have H2 := Yh_ ((H1.out).call h hu); have cs := Ya h.h; have fs := Yh h.h; clear h hu H1) | (have _t := H2; clear _t; go_at_call 72; refine (Ya4 d g _ _ L _ (H2.out).h).mono ?_; rintro e w3 ⟨rfl, h, hu⟩; rw [HO.out, HN.out]; rw [HS3.out] at h; unfold Opd.val; have H3 := Yh_ (((H2.out).call h hu).mvar o); clear cs fs; have cs := Ya (Yc (.cells #[.int .i64 o.k, .int .i64 o.r, .int .u32 o.imm, .int .i64 o.b, .int .i64 o.x, .int .u32 o.sc] 40) h.h); have fs := Yh (Yc (.cells #[.int .i64 o.k, .int .i64 o.r, .int .u32 o.imm, .int .i64 o.b, .int .i64 o.x, .int .u32 o.sc] 40) h.h); clear h hu H2))
 refine Yaq 4 (RiB w d v L g ⟨k3, sh3, false⟩ ⟨k3, sh3, false⟩ 999 999 Ins.zero (w.heap.size) (w3.heap.size) o) (fun _ _ => False) (by kernel_rfl) (by decide +kernel) (RiB.start (H3.out)) (fun _ _ _ h => h.elim) ?_
 simp only [List.take_succ_cons, List.take_zero, List.drop_succ_cons, List.drop_zero]
 iterate 2
  apply Yf rfl rfl
  ·intro dd K hd hK w5 hB1
   have HB := Yh_ hB1
   have c1 := Ya HB.out.o; unfold Opd.cells at c1
   clear hB1
   go_wp2_with fail
   first
   |exact hK _ (HB.out.same _ (by decide) (by decide))
   |exact HB.out.same _ (by decide) (by decide)
  ·exact ⟨_, rfl⟩
 apply Yf rfl rfl
 ·intro dd K hd hK w5 hB1
  have HB := Yh_ hB1
  have c1 := Ya HB.out.o; unfold Opd.cells at c1
  clear hB1
  go_wp2_with (go_at_call 56; refine (Yba _ _).mono ?_; rintro e w' ⟨rfl, hu⟩; rw [show (Yn (n)).val = .agg #[.int .i64 1, .int .i64 (n), .int .u32 0, .int .i64 0, .int .i64 0, .int .u32 0] from rfl])
  first
  |exact hK _ (HB.out.quiet hu _ (by decide) (by decide))
  |exact HB.out.quiet hu _ (by decide) (by decide)
 ·exact ⟨_, rfl⟩
 apply Yf rfl rfl
 ·intro dd K hd hK w5 hB1
  have HB := Yh_ hB1
  have c1 := Ya HB.out.o; unfold Opd.cells at c1
  clear hB1
  go_wp2_with fail
  first
  |exact hK _ (HB.out.same _ (by decide) (by decide))
  |exact HB.out.same _ (by decide) (by decide)
 ·exact ⟨_, rfl⟩
 refine Yal (fun _ w4 dd hall hB1 => ?_)
 obtain ⟨C4, hC, hI⟩ := hB1.fin (.inr rfl)
 clear hI
 have H4 := Yh_ hC
 have cm := Ya H4.out.o
 unfold Opd.cells at cm
 clear hC hall hB1
 go_wp2_with (have _t := H4; clear _t; refine Ye 42 rfl ?_; refine Yb ⟨37, 0, Yn n, o, false, 0⟩ (w.heap.size) rfl _ _ rfl rfl rfl (H4.out).r (H4.out).z ?_; intro w5 hw; have H5 := Yh_ ((H4.out).store hw); clear hw H4)
 exact bodyPost_ret (Yg rfl (Yi 2 (w.heap.size) _ rfl H5.out.r) (Yk 3 rfl)) rfl ⟨rfl, H5.out.h, H5.out.u⟩
theorem rtwo_no (d g : Nat) (s : Rd) (v : Value) (L : List Int) (w : World) (hD : Yl w d v L g s) (c : Int) (hce : reB L s = c) (k2 : Nat) (hs2 : Ym L s = ⟨k2, false, false⟩) (h11 : c ≠ 11) (h8 : c / 16 ≠ 8) (h4 : c / 16 ≠ 4) (h9 : c / 16 ≠ 9) (ha : c ≠ 175) (hb : c ≠ 182) (hc : c ≠ 190) :
  Calls Tryz.prog 73 #[.pointer (some ⟨d, 0, none⟩)] w (Yr d v L g w ⟨Ins.zero, true, ⟨k2, false, false⟩⟩) := by
 have hcr := Yae hD.r s
 rw [hce] at hcr
 have HCE := Yh_ hce
 have HS2 := Yh_ hs2
 obtain ⟨b15, b7⟩ := Ybn c hcr
 have q1 : (c == 11) = false := by simpa using h11
 have q2 : (c / 16 == 8) = false := by simpa using h8
 have q3 : (c / 16 == 4) = false := by simpa using h4
 have q4 : (c / 16 == 9) = false := by simpa using h9
 have q5 : (c == 175) = false := by simpa using ha
 have q6 : (c == 182) = false := by simpa using hb
 have q7 : (c == 190) = false := by simpa using hc
 have H1 := Yh_ (RiS.start hD)
 clear hD hce hs2 hcr h11 h8 h4 h9 ha hb hc
 go_enter Tryz.func73, Tryz.ntmps73
 go_wp2_with (first | (have _t := H1; clear _t; go_at_call 53; refine (Yy d g _ _ L _ (H1.out).h).mono ?_; rintro e w2 ⟨rfl, h, hu⟩; rw [HCE.out]; rw [HS2.out] at h; have H2 := Yh_ ((H1.out).call h hu); have cs := Ya h.h; have fs := Yh h.h; clear h hu H1) | (have _t := H2; clear _t; refine Ye 42 rfl ?_; refine Yb Ins.zero (w.heap.size) rfl _ _ rfl rfl rfl (H2.out).r (H2.out).z ?_; intro w3 hw; have H3 := Yh_ ((H2.out).store hw); clear hw H2))
 exact bodyPost_ret (Yg rfl (Yi 2 (w.heap.size) _ rfl H3.out.r) (Yk 3 rfl)) rfl ⟨rfl, H3.out.h, H3.out.u⟩
theorem rtwo_any (d g k : Nat) (v : Value) (L : List Int) (w : World) (hD : Yl w d v L g ⟨k, false, false⟩) :
  Calls Tryz.prog 73 #[.pointer (some ⟨d, 0, none⟩)] w (Yr d v L g w (Yiz L ⟨k, false, false⟩)) := by
 obtain ⟨c, hce⟩ : ∃ c, reB L ⟨k, false, false⟩ = c := ⟨_, rfl⟩
 obtain ⟨k2, sh, bd, hs2⟩ : ∃ k2 sh bd, Ym L ⟨k, false, false⟩ = ⟨k2, sh, bd⟩ := ⟨_, _, _, rfl⟩
 have hb : bd = false := by
  have := Ye8 L ⟨k, false, false⟩
  rw [hs2] at this
  exact this
 subst hb
 have hq : Yiz L ⟨k, false, false⟩ = if sh = true then ⟨Ins.zero, false, ⟨k2, sh, false⟩⟩ else if c = 11 then ⟨Ins.zero, false, ⟨k2, sh, true⟩⟩
   else if c / 16 = 8 then ⟨⟨33, c % 16, Yac (reW L ⟨k2, sh, false⟩), Opd.none, false, 0⟩, false, Yb1 L ⟨k2, sh, false⟩⟩
   else if c / 16 = 4 then ⟨⟨35, c % 16, Yn (reN L ⟨k2, sh, false⟩), reM L ⟨k2, sh, false⟩, false, 0⟩, false, Yab L ⟨k2, sh, false⟩⟩
   else if c / 16 = 9 then (if (Yab L ⟨k2, sh, false⟩).sh ∧ 2 < L.length ∧ L.getD 2 0 / 8 % 8 ≠ 0 then ⟨Ins.zero, true, { Yab L ⟨k2, sh, false⟩ with sh := false }⟩ else ⟨⟨34, c % 16, reM L ⟨k2, sh, false⟩, Opd.none, false, 0⟩, reN L ⟨k2, sh, false⟩ != 0, Yab L ⟨k2, sh, false⟩⟩)
   else if c = 175 then ⟨⟨18, 0, Yn (reN L ⟨k2, sh, false⟩), reM L ⟨k2, sh, false⟩, false, 0⟩, false, Yab L ⟨k2, sh, false⟩⟩
   else if c = 182 then ⟨⟨36, 0, Yn (reN L ⟨k2, sh, false⟩), reM L ⟨k2, sh, false⟩, false, 0⟩, false, Yab L ⟨k2, sh, false⟩⟩
   else if c = 190 then ⟨⟨37, 0, Yn (reN L ⟨k2, sh, false⟩), reM L ⟨k2, sh, false⟩, false, 0⟩, false, Yab L ⟨k2, sh, false⟩⟩
   else ⟨Ins.zero, true, ⟨k2, sh, false⟩⟩ := by unfold Yiz; rw [hce, hs2]
 rw [hq]
 cases sh
 ·rw [if_neg (by simp)]
  by_cases h11 : c = 11
  ·rw [if_pos h11]; exact rtwo_11 d g _ v L w hD c hce k2 hs2 h11
  rw [if_neg h11]
  by_cases h8 : c / 16 = 8
  ·rw [if_pos h8]; exact rtwo_8 d g _ v L w hD c hce k2 hs2 h8
  rw [if_neg h8]
  obtain ⟨o, ho⟩ : ∃ o, reM L ⟨k2, false, false⟩ = o := ⟨_, rfl⟩
  obtain ⟨n, hn⟩ : ∃ n, reN L ⟨k2, false, false⟩ = n := ⟨_, rfl⟩
  obtain ⟨k3, sh3, bd3, hs3⟩ : ∃ k3 sh3 bd3, Yab L ⟨k2, false, false⟩ = ⟨k3, sh3, bd3⟩ := ⟨_, _, _, rfl⟩
  have hb : bd3 = false := by
   have := Yiw L ⟨k2, false, false⟩
   rw [hs3] at this
   exact this
  subst hb
  rw [ho, hn, hs3]
  by_cases h4 : c / 16 = 4
  ·rw [if_pos h4]; exact rtwo_4 d g _ v L w hD c hce k2 hs2 h4 o ho n hn sh3 k3 hs3
  rw [if_neg h4]
  by_cases h9 : c / 16 = 9
  ·rw [if_pos h9]
   cases sh3
   ·rw [if_neg (fun h => Bool.false_ne_true h.1)]
    exact rtwo_9n d g _ v L w hD c hce k2 hs2 h9 o ho n hn k3 hs3
   by_cases hl : 2 < L.length
   ·by_cases hz : L.getD 2 0 / 8 % 8 = 0
    ·rw [if_neg (fun h => h.2.2 hz)]
     exact rtwo_9z d g _ v L w hD c hce k2 hs2 h9 o ho n hn k3 hs3 hl hz
    ·rw [if_pos ⟨rfl, hl, hz⟩]
     exact rtwo_9y d g _ v L w hD c hce k2 hs2 h9 o ho n hn k3 hs3 hl hz
   ·rw [if_neg (fun h => hl h.2.1)]
    exact rtwo_9l d g _ v L w hD c hce k2 hs2 h9 o ho n hn k3 hs3 (by omega)
  rw [if_neg h9]
  by_cases ha : c = 175
  ·rw [if_pos ha]; exact rtwo_175 d g _ v L w hD c hce k2 hs2 ha o ho n hn sh3 k3 hs3
  rw [if_neg ha]
  by_cases hb : c = 182
  ·rw [if_pos hb]; exact rtwo_182 d g _ v L w hD c hce k2 hs2 hb o ho n hn sh3 k3 hs3
  rw [if_neg hb]
  by_cases hc : c = 190
  ·rw [if_pos hc]; exact rtwo_190 d g _ v L w hD c hce k2 hs2 hc o ho n hn sh3 k3 hs3
  rw [if_neg hc]
  exact rtwo_no d g _ v L w hD c hce k2 hs2 h11 h8 h4 h9 ha hb hc
 ·rw [if_pos rfl]
  exact rtwo_s d g _ v L w hD c hce k2 hs2
end Go.Proofs.YteiplidhkelkbaaGreat
