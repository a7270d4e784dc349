/-
  Parts of the proof (their names shortened by a program). No condition.
-/
import Derived.Test.YteiplidhkelkbaaGreatMg01
import Derived.Test.YteiplidhkelkbaaGreatMg18
namespace Go.Proofs.YteiplidhkelkbaaGreat
open Go Go.RowKit
set_option linter.unusedVariables false
set_option linter.unusedSimpArgs false
set_option maxRecDepth 100000
set_option maxHeartbeats 16000000
theorem Ylu {L : List Int} (hL : BOk L) (s : Rd) : 0 ≤ reN L s ∧ reN L s < 8 := by
 have := Yae hL s
 unfold reN
 omega
theorem rgroup_5 (d g : Nat) (s : Rd) (v : Value) (L : List Int) (w : World) (hD : Yl w d v L g s) (op : Int) :
  Calls Tryz.prog 54 #[.pointer (some ⟨d, 0, none⟩), .int .i64 op, .int .i64 5] w (fun e w' => e = .returned (⟨op, 0, Yn 0, Yac (reW L s), false, 0⟩ : Ins).val ∧ Yl w' d v L g (Yb1 L s) ∧ Upd [d] w w') := by
 have H1 := Yh_ (RiS.start hD)
 clear hD
 go_enter Tryz.func54, Tryz.ntmps54
 go_wp2_with (first | (have _t := H1; clear _t; go_at_call 56; refine (Yba _ _).mono ?_; rintro e w2 ⟨rfl, hu⟩; rw [show (Yn (0)).val = .agg #[.int .i64 1, .int .i64 (0), .int .u32 0, .int .i64 0, .int .i64 0, .int .u32 0] from rfl]; have H2 := Yh_ ((H1.out).step hu); clear hu H1) | (have _t := H2; clear _t; go_at_call 59; refine (Yci d g _ v L _ (H2.out).h).mono ?_; rintro e w3 ⟨rfl, h, hu⟩; have H3 := Yh_ ((H2.out).call h hu); clear h hu H2) | (have _t := H3; clear _t; go_at_call 57; refine (Ycb _ _).mono ?_; rintro e w4 ⟨rfl, hu⟩; rw [show (Yac (reW L s)).val = .agg #[.int .i64 2, .int .i64 0, .int .u32 (reW L s), .int .i64 0, .int .i64 0, .int .u32 0] from rfl]; have H4 := Yh_ ((H3.out).step hu); clear hu H3) | (have _t := H4; clear _t; refine Ye 42 rfl ?_; refine Yb ⟨op, 0, Yn 0, Yac (reW L s), false, 0⟩ (w.heap.size) rfl _ _ rfl rfl rfl (H4.out).r (H4.out).z ?_; intro w5 hw; have H5 := Yh_ ((H4.out).store hw); clear hw H4))
 exact bodyPost_ret (Yj rfl (Yi 6 (w.heap.size) _ rfl H5.out.r)) rfl ⟨rfl, H5.out.h, H5.out.u⟩
theorem rgroup_1 (d g : Nat) (s : Rd) (v : Value) (L : List Int) (w : World) (hD : Yl w d v L g s) (op : Int) :
  Calls Tryz.prog 54 #[.pointer (some ⟨d, 0, none⟩), .int .i64 op, .int .i64 1] w (fun e w' => e = .returned (⟨op, 0, reM L s, Yn (reN L s), false, 0⟩ : Ins).val ∧ Yl w' d v L g (Yab L s) ∧ Upd [d] w w') := by
 obtain ⟨o, ho⟩ : ∃ o, reM L s = o := ⟨_, rfl⟩
 obtain ⟨n, hn⟩ : ∃ n, reN L s = n := ⟨_, rfl⟩
 have hn8 := Ylu hD.r s
 rw [hn] at hn8
 rw [ho, hn]
 have HO := Yh_ ho
 have HN := Yh_ hn
 clear ho hn
 have H1 := Yh_ (RiS.start hD)
 clear hD hn8
 go_enter Tryz.func54, Tryz.ntmps54
 go_wp2_with (have _t := H1; clear _t; go_at_call 72; refine (Ya4 d g _ v L _ (H1.out).h).mono ?_; rintro e w2 ⟨rfl, h, hu⟩; rw [HO.out, HN.out]; unfold Opd.val; have H2 := Yh_ (((H1.out).call h hu).mvar o); clear h hu H1)
 refine Yaq 4 (RiB w d v L g (Yab L s) (Yab L s) 999 999 Ins.zero (w.heap.size) (w2.heap.size) o) (fun _ _ => False) (by kernel_rfl) (by decide +kernel) (RiB.start (H2.out)) (fun _ _ _ h => h.elim) ?_
 simp only [List.take_succ_cons, List.take_zero, List.drop_succ_cons, List.drop_zero]
 iterate 3
  apply Yf rfl rfl
  ·intro dd K hd hK w5 hB1
   have HB := Yh_ hB1
   have c1 := Ya HB.out.o; unfold Opd.cells at c1
   clear hB1
   go_wp2_with fail
   first
   |exact hK _ (HB.out.same _ (by decide) (by decide))
   |exact HB.out.same _ (by decide) (by decide)
  ·exact ⟨_, rfl⟩
 apply Yf rfl rfl
 ·intro dd K hd hK w5 hB1
  have HB := Yh_ hB1
  have c1 := Ya HB.out.o; unfold Opd.cells at c1
  clear hB1
  go_wp2_with (go_at_call 56; refine (Yba _ _).mono ?_; rintro e w' ⟨rfl, hu⟩; rw [show (Yn (n)).val = .agg #[.int .i64 1, .int .i64 (n), .int .u32 0, .int .i64 0, .int .i64 0, .int .u32 0] from rfl])
  first
  |exact hK _ (HB.out.quiet hu _ (by decide) (by decide))
  |exact HB.out.quiet hu _ (by decide) (by decide)
 ·exact ⟨_, rfl⟩
 refine Yal (fun _ w3 dd hall hB1 => ?_)
 obtain ⟨C3, hC, hI⟩ := hB1.fin (.inr rfl)
 clear hI
 have H3 := Yh_ hC
 have cm := Ya H3.out.o
 unfold Opd.cells at cm
 clear hC hall hB1
 go_wp2_with (have _t := H3; clear _t; refine Ye 42 rfl ?_; refine Yb ⟨op, 0, o, Yn n, false, 0⟩ (w.heap.size) rfl _ _ rfl rfl rfl (H3.out).r (H3.out).z ?_; intro w4 hw; have H4 := Yh_ ((H3.out).store hw); clear hw H3)
 exact bodyPost_ret (Yj rfl (Yi 6 (w.heap.size) _ rfl H4.out.r)) rfl ⟨rfl, H4.out.h, H4.out.u⟩
theorem rgroup_3 (d g : Nat) (s : Rd) (v : Value) (L : List Int) (w : World) (hD : Yl w d v L g s) (op : Int) :
  Calls Tryz.prog 54 #[.pointer (some ⟨d, 0, none⟩), .int .i64 op, .int .i64 3] w (fun e w' => e = .returned (⟨op, 0, Yn (reN L s), reM L s, false, 0⟩ : Ins).val ∧ Yl w' d v L g (Yab L s) ∧ Upd [d] w w') := by
 obtain ⟨o, ho⟩ : ∃ o, reM L s = o := ⟨_, rfl⟩
 obtain ⟨n, hn⟩ : ∃ n, reN L s = n := ⟨_, rfl⟩
 have hn8 := Ylu hD.r s
 rw [hn] at hn8
 rw [ho, hn]
 have HO := Yh_ ho
 have HN := Yh_ hn
 clear ho hn
 have H1 := Yh_ (RiS.start hD)
 clear hD hn8
 go_enter Tryz.func54, Tryz.ntmps54
 go_wp2_with (have _t := H1; clear _t; go_at_call 72; refine (Ya4 d g _ v L _ (H1.out).h).mono ?_; rintro e w2 ⟨rfl, h, hu⟩; rw [HO.out, HN.out]; unfold Opd.val; have H2 := Yh_ (((H1.out).call h hu).mvar o); clear h hu H1)
 refine Yaq 4 (RiB w d v L g (Yab L s) (Yab L s) 999 999 Ins.zero (w.heap.size) (w2.heap.size) o) (fun _ _ => False) (by kernel_rfl) (by decide +kernel) (RiB.start (H2.out)) (fun _ _ _ h => h.elim) ?_
 simp only [List.take_succ_cons, List.take_zero, List.drop_succ_cons, List.drop_zero]
 iterate 2
  apply Yf rfl rfl
  ·intro dd K hd hK w5 hB1
   have HB := Yh_ hB1
   have c1 := Ya HB.out.o; unfold Opd.cells at c1
   clear hB1
   go_wp2_with fail
   first
   |exact hK _ (HB.out.same _ (by decide) (by decide))
   |exact HB.out.same _ (by decide) (by decide)
  ·exact ⟨_, rfl⟩
 apply Yf rfl rfl
 ·intro dd K hd hK w5 hB1
  have HB := Yh_ hB1
  have c1 := Ya HB.out.o; unfold Opd.cells at c1
  clear hB1
  go_wp2_with (go_at_call 56; refine (Yba _ _).mono ?_; rintro e w' ⟨rfl, hu⟩; rw [show (Yn (n)).val = .agg #[.int .i64 1, .int .i64 (n), .int .u32 0, .int .i64 0, .int .i64 0, .int .u32 0] from rfl])
  first
  |exact hK _ (HB.out.quiet hu _ (by decide) (by decide))
  |exact HB.out.quiet hu _ (by decide) (by decide)
 ·exact ⟨_, rfl⟩
 apply Yf rfl rfl
 ·intro dd K hd hK w5 hB1
  have HB := Yh_ hB1
  have c1 := Ya HB.out.o; unfold Opd.cells at c1
  clear hB1
  go_wp2_with fail
  first
  |exact hK _ (HB.out.same _ (by decide) (by decide))
  |exact HB.out.same _ (by decide) (by decide)
 ·exact ⟨_, rfl⟩
 refine Yal (fun _ w3 dd hall hB1 => ?_)
 obtain ⟨C3, hC, hI⟩ := hB1.fin (.inr rfl)
 clear hI
 have H3 := Yh_ hC
 have cm := Ya H3.out.o
 unfold Opd.cells at cm
 clear hC hall hB1
 go_wp2_with (have _t := H3; clear _t; refine Ye 42 rfl ?_; refine Yb ⟨op, 0, Yn n, o, false, 0⟩ (w.heap.size) rfl _ _ rfl rfl rfl (H3.out).r (H3.out).z ?_; intro w4 hw; have H4 := Yh_ ((H3.out).store hw); clear hw H3)
 exact bodyPost_ret (Yj rfl (Yi 6 (w.heap.size) _ rfl H4.out.r)) rfl ⟨rfl, H4.out.h, H4.out.u⟩
theorem Yiu (d g : Nat) (s : Rd) (v : Value) (L : List Int) (w : World) (hD : Yl w d v L g s) (op k : Int) (hk : k = 1 ∨ k = 3 ∨ k = 5) :
  Calls Tryz.prog 54 #[.pointer (some ⟨d, 0, none⟩), .int .i64 op, .int .i64 k] w fun e w' => e = .returned (Ydx L op k s).i.val ∧ Yl w' d v L g (Ydx L op k s).s ∧ Upd [d] w w' := by
 rcases hk with rfl | rfl | rfl
 ·exact rgroup_1 d g s v L w hD op
 ·exact rgroup_3 d g s v L w hD op
 ·exact rgroup_5 d g s v L w hD op
theorem Ys4 (d g : Nat) (s : Rd) (v : Value) (L : List Int) (w : World) (hD : Yl w d v L g s)  :
  Calls Tryz.prog 60 #[.pointer (some ⟨d, 0, none⟩), .int .u8 104] w (Yr d v L g w ⟨⟨28, 0, Yac (reW L s), Opd.none, false, 0⟩, false, (Yb1 L s)⟩) := by
 have H1 := Yh_ (RiS.start hD)
 clear hD
 go_enter Tryz.func60, Tryz.ntmps60
 go_wp2_with (first | (have _t := H1; clear _t; go_at_call 59; refine (Yci d g _ v L _ (H1.out).h).mono ?_; rintro e w2 ⟨rfl, h, hu⟩; have H2 := Yh_ ((H1.out).call h hu); clear h hu H1) | (have _t := H2; clear _t; go_at_call 57; refine (Ycb _ _).mono ?_; rintro e w3 ⟨rfl, hu⟩; rw [show (Yac (reW L s)).val = .agg #[.int .i64 2, .int .i64 0, .int .u32 (reW L s), .int .i64 0, .int .i64 0, .int .u32 0] from rfl]; have H3 := Yh_ ((H2.out).step hu); clear hu H2) | (have _t := H3; clear _t; refine Ye 42 rfl ?_; refine Yb ⟨28, 0, Yac (reW L s), Opd.none, false, 0⟩ (w.heap.size) rfl _ _ rfl rfl rfl (H3.out).r (H3.out).z ?_; intro w4 hw; have H4 := Yh_ ((H3.out).store hw); clear hw H3))
 exact bodyPost_ret (Yg rfl (Yi 4 (w.heap.size) _ rfl H4.out.r) (Yk 5 rfl)) rfl ⟨rfl, H4.out.h, H4.out.u⟩
theorem Yr5 (d g : Nat) (s : Rd) (v : Value) (L : List Int) (w : World) (hD : Yl w d v L g s)  :
  Calls Tryz.prog 60 #[.pointer (some ⟨d, 0, none⟩), .int .u8 106] w (Yr d v L g w ⟨⟨28, 0, Yac (sx8 (reB L s)), Opd.none, false, 0⟩, false, (Ym L s)⟩) := by
 have H1 := Yh_ (RiS.start hD)
 clear hD
 go_enter Tryz.func60, Tryz.ntmps60
 go_wp2_with (first | (have _t := H1; clear _t; go_at_call 58; refine (Yez d g _ v L _ (H1.out).h).mono ?_; rintro e w2 ⟨rfl, h, hu⟩; have H2 := Yh_ ((H1.out).call h hu); clear h hu H1) | (have _t := H2; clear _t; go_at_call 57; refine (Ycb _ _).mono ?_; rintro e w3 ⟨rfl, hu⟩; rw [show (Yac (sx8 (reB L s))).val = .agg #[.int .i64 2, .int .i64 0, .int .u32 (sx8 (reB L s)), .int .i64 0, .int .i64 0, .int .u32 0] from rfl]; have H3 := Yh_ ((H2.out).step hu); clear hu H2) | (have _t := H3; clear _t; refine Ye 42 rfl ?_; refine Yb ⟨28, 0, Yac (sx8 (reB L s)), Opd.none, false, 0⟩ (w.heap.size) rfl _ _ rfl rfl rfl (H3.out).r (H3.out).z ?_; intro w4 hw; have H4 := Yh_ ((H3.out).store hw); clear hw H3))
 exact bodyPost_ret (Yg rfl (Yi 4 (w.heap.size) _ rfl H4.out.r) (Yk 5 rfl)) rfl ⟨rfl, H4.out.h, H4.out.u⟩
theorem Yrx (d g : Nat) (s : Rd) (v : Value) (L : List Int) (w : World) (hD : Yl w d v L g s)  :
  Calls Tryz.prog 60 #[.pointer (some ⟨d, 0, none⟩), .int .u8 144] w (Yr d v L g w ⟨(Yaj 44), false, s⟩) := by
 have H1 := Yh_ (RiS.start hD)
 clear hD
 go_enter Tryz.func60, Tryz.ntmps60
 go_wp2_with (have _t := H1; clear _t; refine Ye 42 rfl ?_; refine Yb (Yaj 44) (w.heap.size) rfl _ _ rfl rfl rfl (H1.out).r (H1.out).z ?_; intro w2 hw; have H2 := Yh_ ((H1.out).store hw); clear hw H1)
 exact bodyPost_ret (Yg rfl (Yi 4 (w.heap.size) _ rfl H2.out.r) (Yk 5 rfl)) rfl ⟨rfl, H2.out.h, H2.out.u⟩
theorem Yr8 (d g : Nat) (s : Rd) (v : Value) (L : List Int) (w : World) (hD : Yl w d v L g s)  :
  Calls Tryz.prog 60 #[.pointer (some ⟨d, 0, none⟩), .int .u8 153] w (Yr d v L g w ⟨(Yaj 38), false, s⟩) := by
 have H1 := Yh_ (RiS.start hD)
 clear hD
 go_enter Tryz.func60, Tryz.ntmps60
 go_wp2_with (have _t := H1; clear _t; refine Ye 42 rfl ?_; refine Yb (Yaj 38) (w.heap.size) rfl _ _ rfl rfl rfl (H1.out).r (H1.out).z ?_; intro w2 hw; have H2 := Yh_ ((H1.out).store hw); clear hw H1)
 exact bodyPost_ret (Yg rfl (Yi 4 (w.heap.size) _ rfl H2.out.r) (Yk 5 rfl)) rfl ⟨rfl, H2.out.h, H2.out.u⟩
theorem Yr9 (d g : Nat) (s : Rd) (v : Value) (L : List Int) (w : World) (hD : Yl w d v L g s)  :
  Calls Tryz.prog 60 #[.pointer (some ⟨d, 0, none⟩), .int .u8 165] w (Yr d v L g w ⟨(Yaj 41), false, s⟩) := by
 have H1 := Yh_ (RiS.start hD)
 clear hD
 go_enter Tryz.func60, Tryz.ntmps60
 go_wp2_with (have _t := H1; clear _t; refine Ye 42 rfl ?_; refine Yb (Yaj 41) (w.heap.size) rfl _ _ rfl rfl rfl (H1.out).r (H1.out).z ?_; intro w2 hw; have H2 := Yh_ ((H1.out).store hw); clear hw H1)
 exact bodyPost_ret (Yg rfl (Yi 4 (w.heap.size) _ rfl H2.out.r) (Yk 5 rfl)) rfl ⟨rfl, H2.out.h, H2.out.u⟩
theorem Yr6 (d g : Nat) (s : Rd) (v : Value) (L : List Int) (w : World) (hD : Yl w d v L g s)  :
  Calls Tryz.prog 60 #[.pointer (some ⟨d, 0, none⟩), .int .u8 169] w (Yr d v L g w ⟨⟨11, 0, Yn 0, Yac (reW L s), false, 0⟩, false, (Yb1 L s)⟩) := by
 have H1 := Yh_ (RiS.start hD)
 clear hD
 go_enter Tryz.func60, Tryz.ntmps60
 go_wp2_with (first | (have _t := H1; clear _t; go_at_call 56; refine (Yba _ _).mono ?_; rintro e w2 ⟨rfl, hu⟩; rw [show (Yn (0)).val = .agg #[.int .i64 1, .int .i64 (0), .int .u32 0, .int .i64 0, .int .i64 0, .int .u32 0] from rfl]; have H2 := Yh_ ((H1.out).step hu); clear hu H1) | (have _t := H2; clear _t; go_at_call 59; refine (Yci d g _ v L _ (H2.out).h).mono ?_; rintro e w3 ⟨rfl, h, hu⟩; have H3 := Yh_ ((H2.out).call h hu); clear h hu H2) | (have _t := H3; clear _t; go_at_call 57; refine (Ycb _ _).mono ?_; rintro e w4 ⟨rfl, hu⟩; rw [show (Yac (reW L s)).val = .agg #[.int .i64 2, .int .i64 0, .int .u32 (reW L s), .int .i64 0, .int .i64 0, .int .u32 0] from rfl]; have H4 := Yh_ ((H3.out).step hu); clear hu H3) | (have _t := H4; clear _t; refine Ye 42 rfl ?_; refine Yb ⟨11, 0, Yn 0, Yac (reW L s), false, 0⟩ (w.heap.size) rfl _ _ rfl rfl rfl (H4.out).r (H4.out).z ?_; intro w5 hw; have H5 := Yh_ ((H4.out).store hw); clear hw H4))
 exact bodyPost_ret (Yg rfl (Yi 4 (w.heap.size) _ rfl H5.out.r) (Yk 5 rfl)) rfl ⟨rfl, H5.out.h, H5.out.u⟩
theorem Ysq (d g : Nat) (s : Rd) (v : Value) (L : List Int) (w : World) (hD : Yl w d v L g s)  :
  Calls Tryz.prog 60 #[.pointer (some ⟨d, 0, none⟩), .int .u8 171] w (Yr d v L g w ⟨(Yaj 42), false, s⟩) := by
 have H1 := Yh_ (RiS.start hD)
 clear hD
 go_enter Tryz.func60, Tryz.ntmps60
 go_wp2_with (have _t := H1; clear _t; refine Ye 42 rfl ?_; refine Yb (Yaj 42) (w.heap.size) rfl _ _ rfl rfl rfl (H1.out).r (H1.out).z ?_; intro w2 hw; have H2 := Yh_ ((H1.out).store hw); clear hw H1)
 exact bodyPost_ret (Yg rfl (Yi 4 (w.heap.size) _ rfl H2.out.r) (Yk 5 rfl)) rfl ⟨rfl, H2.out.h, H2.out.u⟩
theorem Yrw (d g : Nat) (s : Rd) (v : Value) (L : List Int) (w : World) (hD : Yl w d v L g s)  :
  Calls Tryz.prog 60 #[.pointer (some ⟨d, 0, none⟩), .int .u8 195] w (Yr d v L g w ⟨(Yaj 31), false, s⟩) := by
 have H1 := Yh_ (RiS.start hD)
 clear hD
 go_enter Tryz.func60, Tryz.ntmps60
 go_wp2_with (have _t := H1; clear _t; refine Ye 42 rfl ?_; refine Yb (Yaj 31) (w.heap.size) rfl _ _ rfl rfl rfl (H1.out).r (H1.out).z ?_; intro w2 hw; have H2 := Yh_ ((H1.out).store hw); clear hw H1)
 exact bodyPost_ret (Yg rfl (Yi 4 (w.heap.size) _ rfl H2.out.r) (Yk 5 rfl)) rfl ⟨rfl, H2.out.h, H2.out.u⟩
theorem Yr4 (d g : Nat) (s : Rd) (v : Value) (L : List Int) (w : World) (hD : Yl w d v L g s)  :
  Calls Tryz.prog 60 #[.pointer (some ⟨d, 0, none⟩), .int .u8 232] w (Yr d v L g w ⟨⟨30, 0, Yac (reW L s), Opd.none, false, 0⟩, false, (Yb1 L s)⟩) := by
 have H1 := Yh_ (RiS.start hD)
 clear hD
 go_enter Tryz.func60, Tryz.ntmps60
 go_wp2_with (first | (have _t := H1; clear _t; go_at_call 59; refine (Yci d g _ v L _ (H1.out).h).mono ?_; rintro e w2 ⟨rfl, h, hu⟩; have H2 := Yh_ ((H1.out).call h hu); clear h hu H1) | (have _t := H2; clear _t; go_at_call 57; refine (Ycb _ _).mono ?_; rintro e w3 ⟨rfl, hu⟩; rw [show (Yac (reW L s)).val = .agg #[.int .i64 2, .int .i64 0, .int .u32 (reW L s), .int .i64 0, .int .i64 0, .int .u32 0] from rfl]; have H3 := Yh_ ((H2.out).step hu); clear hu H2) | (have _t := H3; clear _t; refine Ye 42 rfl ?_; refine Yb ⟨30, 0, Yac (reW L s), Opd.none, false, 0⟩ (w.heap.size) rfl _ _ rfl rfl rfl (H3.out).r (H3.out).z ?_; intro w4 hw; have H4 := Yh_ ((H3.out).store hw); clear hw H3))
 exact bodyPost_ret (Yg rfl (Yi 4 (w.heap.size) _ rfl H4.out.r) (Yk 5 rfl)) rfl ⟨rfl, H4.out.h, H4.out.u⟩
theorem Yr7 (d g : Nat) (s : Rd) (v : Value) (L : List Int) (w : World) (hD : Yl w d v L g s)  :
  Calls Tryz.prog 60 #[.pointer (some ⟨d, 0, none⟩), .int .u8 233] w (Yr d v L g w ⟨⟨32, 0, Yac (reW L s), Opd.none, false, 0⟩, false, (Yb1 L s)⟩) := by
 have H1 := Yh_ (RiS.start hD)
 clear hD
 go_enter Tryz.func60, Tryz.ntmps60
 go_wp2_with (first | (have _t := H1; clear _t; go_at_call 59; refine (Yci d g _ v L _ (H1.out).h).mono ?_; rintro e w2 ⟨rfl, h, hu⟩; have H2 := Yh_ ((H1.out).call h hu); clear h hu H1) | (have _t := H2; clear _t; go_at_call 57; refine (Ycb _ _).mono ?_; rintro e w3 ⟨rfl, hu⟩; rw [show (Yac (reW L s)).val = .agg #[.int .i64 2, .int .i64 0, .int .u32 (reW L s), .int .i64 0, .int .i64 0, .int .u32 0] from rfl]; have H3 := Yh_ ((H2.out).step hu); clear hu H2) | (have _t := H3; clear _t; refine Ye 42 rfl ?_; refine Yb ⟨32, 0, Yac (reW L s), Opd.none, false, 0⟩ (w.heap.size) rfl _ _ rfl rfl rfl (H3.out).r (H3.out).z ?_; intro w4 hw; have H4 := Yh_ ((H3.out).store hw); clear hw H3))
 exact bodyPost_ret (Yg rfl (Yi 4 (w.heap.size) _ rfl H4.out.r) (Yk 5 rfl)) rfl ⟨rfl, H4.out.h, H4.out.u⟩
theorem Ysi (d g : Nat) (s : Rd) (v : Value) (L : List Int) (w : World) (hD : Yl w d v L g s)  :
  Calls Tryz.prog 60 #[.pointer (some ⟨d, 0, none⟩), .int .u8 235] w (Yr d v L g w ⟨⟨32, 0, Yac (sx8 (reB L s)), Opd.none, false, 0⟩, false, (Ym L s)⟩) := by
 have H1 := Yh_ (RiS.start hD)
 clear hD
 go_enter Tryz.func60, Tryz.ntmps60
 go_wp2_with (first | (have _t := H1; clear _t; go_at_call 58; refine (Yez d g _ v L _ (H1.out).h).mono ?_; rintro e w2 ⟨rfl, h, hu⟩; have H2 := Yh_ ((H1.out).call h hu); clear h hu H1) | (have _t := H2; clear _t; go_at_call 57; refine (Ycb _ _).mono ?_; rintro e w3 ⟨rfl, hu⟩; rw [show (Yac (sx8 (reB L s))).val = .agg #[.int .i64 2, .int .i64 0, .int .u32 (sx8 (reB L s)), .int .i64 0, .int .i64 0, .int .u32 0] from rfl]; have H3 := Yh_ ((H2.out).step hu); clear hu H2) | (have _t := H3; clear _t; refine Ye 42 rfl ?_; refine Yb ⟨32, 0, Yac (sx8 (reB L s)), Opd.none, false, 0⟩ (w.heap.size) rfl _ _ rfl rfl rfl (H3.out).r (H3.out).z ?_; intro w4 hw; have H4 := Yh_ ((H3.out).store hw); clear hw H3))
 exact bodyPost_ret (Yg rfl (Yi 4 (w.heap.size) _ rfl H4.out.r) (Yk 5 rfl)) rfl ⟨rfl, H4.out.h, H4.out.u⟩
theorem Yr3 (d g : Nat) (s : Rd) (v : Value) (L : List Int) (w : World) (hD : Yl w d v L g s)  :
  Calls Tryz.prog 60 #[.pointer (some ⟨d, 0, none⟩), .int .u8 252] w (Yr d v L g w ⟨(Yaj 39), false, s⟩) := by
 have H1 := Yh_ (RiS.start hD)
 clear hD
 go_enter Tryz.func60, Tryz.ntmps60
 go_wp2_with (have _t := H1; clear _t; refine Ye 42 rfl ?_; refine Yb (Yaj 39) (w.heap.size) rfl _ _ rfl rfl rfl (H1.out).r (H1.out).z ?_; intro w2 hw; have H2 := Yh_ ((H1.out).store hw); clear hw H1)
 exact bodyPost_ret (Yg rfl (Yi 4 (w.heap.size) _ rfl H2.out.r) (Yk 5 rfl)) rfl ⟨rfl, H2.out.h, H2.out.u⟩
theorem Ysk (d g : Nat) (s : Rd) (v : Value) (L : List Int) (w : World) (hD : Yl w d v L g s)  :
  Calls Tryz.prog 60 #[.pointer (some ⟨d, 0, none⟩), .int .u8 253] w (Yr d v L g w ⟨(Yaj 40), false, s⟩) := by
 have H1 := Yh_ (RiS.start hD)
 clear hD
 go_enter Tryz.func60, Tryz.ntmps60
 go_wp2_with (have _t := H1; clear _t; refine Ye 42 rfl ?_; refine Yb (Yaj 40) (w.heap.size) rfl _ _ rfl rfl rfl (H1.out).r (H1.out).z ?_; intro w2 hw; have H2 := Yh_ ((H1.out).store hw); clear hw H1)
 exact bodyPost_ret (Yg rfl (Yi 4 (w.heap.size) _ rfl H2.out.r) (Yk 5 rfl)) rfl ⟨rfl, H2.out.h, H2.out.u⟩
theorem Ysu (d g : Nat) (s : Rd) (v : Value) (L : List Int) (w : World) (hD : Yl w d v L g s)  :
  Calls Tryz.prog 60 #[.pointer (some ⟨d, 0, none⟩), .int .u8 205] w (Yr d v L g w ⟨⟨43, 0, Yac (reB L s), Opd.none, false, 0⟩, false, (Ym L s)⟩) := by
 have hb := Yae hD.r s
 have q0 : reB L s % 4294967296 = reB L s := by omega
 have H1 := Yh_ (RiS.start hD)
 clear hD hb
 go_enter Tryz.func60, Tryz.ntmps60
 go_wp2_with (first | (have _t := H1; clear _t; go_at_call 53; refine (Yy d g _ v L _ (H1.out).h).mono ?_; rintro e w2 ⟨rfl, h, hu⟩; have H2 := Yh_ ((H1.out).call h hu); clear h hu H1) | (have _t := H2; clear _t; go_at_call 57; refine (Ycb _ _).mono ?_; rintro e w3 ⟨rfl, hu⟩; rw [show (Yac (reB L s)).val = .agg #[.int .i64 2, .int .i64 0, .int .u32 (reB L s), .int .i64 0, .int .i64 0, .int .u32 0] from rfl]; have H3 := Yh_ ((H2.out).step hu); clear hu H2) | (have _t := H3; clear _t; refine Ye 42 rfl ?_; refine Yb ⟨43, 0, Yac (reB L s), Opd.none, false, 0⟩ (w.heap.size) rfl _ _ rfl rfl rfl (H3.out).r (H3.out).z ?_; intro w4 hw; have H4 := Yh_ ((H3.out).store hw); clear hw H3))
 exact bodyPost_ret (Yg rfl (Yi 4 (w.heap.size) _ rfl H4.out.r) (Yk 5 rfl)) rfl ⟨rfl, H4.out.h, H4.out.u⟩
theorem Ypl (d g : Nat) (s : Rd) (v : Value) (L : List Int) (w : World) (hD : Yl w d v L g s) (h1 : reB L s = 165) :
  Calls Tryz.prog 60 #[.pointer (some ⟨d, 0, none⟩), .int .u8 243] w (Yr d v L g w ⟨⟨41, 0, Opd.none, Opd.none, true, 0⟩, false, (Ym L s)⟩) := by
 have q0 : reB L s = 165 := h1
 have H1 := Yh_ (RiS.start hD)
 clear hD h1
 go_enter Tryz.func60, Tryz.ntmps60
 go_wp2_with (first | (have _t := H1; clear _t; go_at_call 53; refine (Yy d g _ v L _ (H1.out).h).mono ?_; rintro e w2 ⟨rfl, h, hu⟩; have H2 := Yh_ ((H1.out).call h hu); clear h hu H1) | (have _t := H2; clear _t; refine Ye 42 rfl ?_; refine Yb ⟨41, 0, Opd.none, Opd.none, true, 0⟩ (w.heap.size) rfl _ _ rfl rfl rfl (H2.out).r (H2.out).z ?_; intro w3 hw; have H3 := Yh_ ((H2.out).store hw); clear hw H2))
 exact bodyPost_ret (Yg rfl (Yi 4 (w.heap.size) _ rfl H3.out.r) (Yk 5 rfl)) rfl ⟨rfl, H3.out.h, H3.out.u⟩
theorem Yqx (d g : Nat) (s : Rd) (v : Value) (L : List Int) (w : World) (hD : Yl w d v L g s) (h1 : reB L s = 171) :
  Calls Tryz.prog 60 #[.pointer (some ⟨d, 0, none⟩), .int .u8 243] w (Yr d v L g w ⟨⟨42, 0, Opd.none, Opd.none, true, 0⟩, false, (Ym L s)⟩) := by
 have q0 : reB L s = 171 := h1
 have H1 := Yh_ (RiS.start hD)
 clear hD h1
 go_enter Tryz.func60, Tryz.ntmps60
 go_wp2_with (first | (have _t := H1; clear _t; go_at_call 53; refine (Yy d g _ v L _ (H1.out).h).mono ?_; rintro e w2 ⟨rfl, h, hu⟩; have H2 := Yh_ ((H1.out).call h hu); clear h hu H1) | (have _t := H2; clear _t; refine Ye 42 rfl ?_; refine Yb ⟨42, 0, Opd.none, Opd.none, true, 0⟩ (w.heap.size) rfl _ _ rfl rfl rfl (H2.out).r (H2.out).z ?_; intro w3 hw; have H3 := Yh_ ((H2.out).store hw); clear hw H2))
 exact bodyPost_ret (Yg rfl (Yi 4 (w.heap.size) _ rfl H3.out.r) (Yk 5 rfl)) rfl ⟨rfl, H3.out.h, H3.out.u⟩
theorem Ypw (d g : Nat) (s : Rd) (v : Value) (L : List Int) (w : World) (hD : Yl w d v L g s) (h1 : reB L s ≠ 165) (h2 : reB L s ≠ 171) :
  Calls Tryz.prog 60 #[.pointer (some ⟨d, 0, none⟩), .int .u8 243] w (Yr d v L g w ⟨Ins.zero, false, (Ym L s)⟩) := by
 have q0 : (reB L s == 165) = false := by simpa using h1
 have q1 : (reB L s == 171) = false := by simpa using h2
 have H1 := Yh_ (RiS.start hD)
 clear hD h1 h2
 go_enter Tryz.func60, Tryz.ntmps60
 go_wp2_with (first | (have _t := H1; clear _t; go_at_call 53; refine (Yy d g _ v L _ (H1.out).h).mono ?_; rintro e w2 ⟨rfl, h, hu⟩; have H2 := Yh_ ((H1.out).call h hu); clear h hu H1) | (have _t := H2; clear _t; refine Ye 42 rfl ?_; refine Yb Ins.zero (w.heap.size) rfl _ _ rfl rfl rfl (H2.out).r (H2.out).z ?_; intro w3 hw; have H3 := Yh_ ((H2.out).store hw); clear hw H2))
 exact bodyPost_ret (Yg rfl (Yi 4 (w.heap.size) _ rfl H3.out.r) (Yk 5 rfl)) rfl ⟨rfl, H3.out.h, H3.out.u⟩
theorem Yum (d g : Nat) (s : Rd) (v : Value) (L : List Int) (w : World) (hD : Yl w d v L g s) (c : Int) (n104 : c ≠ 104) (n106 : c ≠ 106) (n144 : c ≠ 144) (n153 : c ≠ 153) (n165 : c ≠ 165) (n169 : c ≠ 169) (n171 : c ≠ 171) (n195 : c ≠ 195) (n232 : c ≠ 232) (n233 : c ≠ 233) (n235 : c ≠ 235) (n252 : c ≠ 252) (n253 : c ≠ 253) (n205 : c ≠ 205) (n243 : c ≠ 243) :
  Calls Tryz.prog 60 #[.pointer (some ⟨d, 0, none⟩), .int .u8 c] w (Yr d v L g w ⟨Ins.zero, true, s⟩) := by
 have q104 : (c == 104) = false := by simpa using n104
 have q106 : (c == 106) = false := by simpa using n106
 have q144 : (c == 144) = false := by simpa using n144
 have q153 : (c == 153) = false := by simpa using n153
 have q165 : (c == 165) = false := by simpa using n165
 have q169 : (c == 169) = false := by simpa using n169
 have q171 : (c == 171) = false := by simpa using n171
 have q195 : (c == 195) = false := by simpa using n195
 have q232 : (c == 232) = false := by simpa using n232
 have q233 : (c == 233) = false := by simpa using n233
 have q235 : (c == 235) = false := by simpa using n235
 have q252 : (c == 252) = false := by simpa using n252
 have q253 : (c == 253) = false := by simpa using n253
 have q205 : (c == 205) = false := by simpa using n205
 have q243 : (c == 243) = false := by simpa using n243
 have H1 := Yh_ (RiS.start hD)
 clear hD n104 n106 n144 n153 n165 n169 n171 n195 n232 n233 n235 n252 n253 n205 n243
 go_enter Tryz.func60, Tryz.ntmps60
 go_wp2_with (have _t := H1; clear _t; refine Ye 42 rfl ?_; refine Yb Ins.zero (w.heap.size) rfl _ _ rfl rfl rfl (H1.out).r (H1.out).z ?_; intro w2 hw; have H2 := Yh_ ((H1.out).store hw); clear hw H1)
 exact bodyPost_ret (Yg rfl (Yi 4 (w.heap.size) _ rfl H2.out.r) (Yk 5 rfl)) rfl ⟨rfl, H2.out.h, H2.out.u⟩
theorem Ysg (d g : Nat) (s : Rd) (v : Value) (L : List Int) (w : World) (hD : Yl w d v L g s) (c : Int) :
  Calls Tryz.prog 60 #[.pointer (some ⟨d, 0, none⟩), .int .u8 c] w fun e w' => match Yc1 L c s with
   |some q => q.e = false ∧ Yr d v L g w q e w'
   |none => Yr d v L g w ⟨Ins.zero, true, s⟩ e w' := by
 by_cases e104 : c = 104
 ·subst e104
  exact (Ys4 d g s v L w hD).mono fun e w' h => ⟨rfl, h⟩
 by_cases e106 : c = 106
 ·subst e106
  exact (Yr5 d g s v L w hD).mono fun e w' h => ⟨rfl, h⟩
 by_cases e144 : c = 144
 ·subst e144
  exact (Yrx d g s v L w hD).mono fun e w' h => ⟨rfl, h⟩
 by_cases e153 : c = 153
 ·subst e153
  exact (Yr8 d g s v L w hD).mono fun e w' h => ⟨rfl, h⟩
 by_cases e165 : c = 165
 ·subst e165
  exact (Yr9 d g s v L w hD).mono fun e w' h => ⟨rfl, h⟩
 by_cases e169 : c = 169
 ·subst e169
  exact (Yr6 d g s v L w hD).mono fun e w' h => ⟨rfl, h⟩
 by_cases e171 : c = 171
 ·subst e171
  exact (Ysq d g s v L w hD).mono fun e w' h => ⟨rfl, h⟩
 by_cases e195 : c = 195
 ·subst e195
  exact (Yrw d g s v L w hD).mono fun e w' h => ⟨rfl, h⟩
 by_cases e232 : c = 232
 ·subst e232
  exact (Yr4 d g s v L w hD).mono fun e w' h => ⟨rfl, h⟩
 by_cases e233 : c = 233
 ·subst e233
  exact (Yr7 d g s v L w hD).mono fun e w' h => ⟨rfl, h⟩
 by_cases e235 : c = 235
 ·subst e235
  exact (Ysi d g s v L w hD).mono fun e w' h => ⟨rfl, h⟩
 by_cases e252 : c = 252
 ·subst e252
  exact (Yr3 d g s v L w hD).mono fun e w' h => ⟨rfl, h⟩
 by_cases e253 : c = 253
 ·subst e253
  exact (Ysk d g s v L w hD).mono fun e w' h => ⟨rfl, h⟩
 by_cases e205 : c = 205
 ·subst e205
  exact (Ysu d g s v L w hD).mono fun e w' h => ⟨rfl, h⟩
 by_cases e243 : c = 243
 ·subst e243
  by_cases h1 : reB L s = 165
  ·rw [show Yc1 L 243 s = some ⟨⟨41, 0, Opd.none, Opd.none, true, 0⟩, false, Ym L s⟩ from by simp [Yc1, h1]]
   exact (Ypl d g s v L w hD h1).mono fun e w' h => ⟨rfl, h⟩
  by_cases h2 : reB L s = 171
  ·rw [show Yc1 L 243 s = some ⟨⟨42, 0, Opd.none, Opd.none, true, 0⟩, false, Ym L s⟩ from by simp [Yc1, h2]]
   exact (Yqx d g s v L w hD h2).mono fun e w' h => ⟨rfl, h⟩
  rw [show Yc1 L 243 s = some ⟨Ins.zero, false, Ym L s⟩ from by simp [Yc1, h1, h2]]
  exact (Ypw d g s v L w hD h1 h2).mono fun e w' h => ⟨rfl, h⟩
 rw [show Yc1 L c s = none from by unfold Yc1; simp [e104, e106, e144, e153, e165, e169, e171, e195, e232, e233, e235, e252, e253, e205, e243]]
 exact Yum d g s v L w hD c e104 e106 e144 e153 e165 e169 e171 e195 e232 e233 e235 e252 e253 e205 e243
end Go.Proofs.YteiplidhkelkbaaGreat
