/-
  Parts of the proof (their names shortened by a program). No condition.
-/
import Derived.Test.YthakgjpejhjaoaaGreatMg01
import Derived.Test.YthakgjpejhjaoaaGreatMg24
namespace Go.Proofs.YthakgjpejhjaoaaGreat
open Go Go.RowKit
set_option linter.unusedVariables false
set_option linter.unusedSimpArgs false
set_option maxRecDepth 100000
set_option maxHeartbeats 16000000
theorem Yge (S : St) (w : World) : (binOp .neq 28 (.agg S.cells) (.agg S.cells)).run Tryz.prog w = .ok (.bool false) w := by
 have h := Yfj S S w 9997
 rw [run_neq_struct]
 rw [show (10000 : Nat) = 9997 + 1 + 1 + 1 from rfl, h, Result.andThen_ok, St.eqB_self]
 rfl
theorem bow_two (s : St) (r0 o0 v : Int) (w : World) (x y z v2 : Int) (k : Nat) (hr : 0 ≤ r0) (ho0 : 0 ≤ o0) (hv : 0 ≤ v) (hz : r0 % 7 = z) (hy : z + 1 = y) (hx : o0 % 8 = x) (hk : x = k) (hv2 : v % 200 = v2) (o : Int) (ho : #[.int .i64 3, .int .i64 8, .int .i64 12, .int .i64 15, .int .i64 23, .int .i64 9, .int .i64 14, .int .i64 5][k]? = some (Value.int .i64 o)) (h12 : o ≠ 12) (h14 : o ≠ 14) (h15 : o ≠ 15) (S1 C : St) (F1 H : Flt) (k1 k2 : Bool) (M2 : Mem)
  (D1 : ∀ (w : World) (p pb : Nat), Yj w p pb (Ybk y) → Calls Tryz.prog 15 #[.pointer (some ⟨p, 0, none⟩), .agg s.cells, .agg (boI o ⟨2, 0, v2, 0, 0, 0⟩).cells] w fun e w' => e = .returned (.tuple #[.agg (St.cells S1), F1.val, .bool k1]) ∧ Yj w' p pb M2 ∧ Upd [pb] w w')
  (D2 : ∀ (w : World) (p pb : Nat), Yj w p pb M2 → Calls Tryz.prog 15 #[.pointer (some ⟨p, 0, none⟩), .agg s.cells, .agg (Ins.cells ⟨10, 0, ⟨3, 0, 8, -1, -1, 1⟩, ⟨2, 0, v, 0, 0, 0⟩, false, 10⟩)] w fun e w' => e = .returned (.tuple #[.agg (St.cells C), H.val, .bool k2]) ∧ Yj w' p pb M2 ∧ Upd [pb] w w')
  (hfin : (bits .and .i64 y 3 = 3 ∧ bits .and .i64 y 1 = 1 ∧ k1 = true ∧ k2 = true ∧ ∀ i, i < 8 → C.R i = s.R i) ∨
   (bits .and .i64 y 3 = 1 ∧ bits .and .i64 y 1 = 1 ∧ k1 = false ∧ k2 = true ∧ s = S1 ∧ F1 = ⟨1, s.pc, 8, 2⟩ ∧ ∀ i, i < 8 → C.R i = s.R i) ∨
   (∃ b, bits .and .i64 y 3 = b ∧ bits .and .i64 y 1 = 0 ∧ (b == 3) = false ∧ k1 = false ∧ k2 = false ∧ s = S1 ∧ s = C ∧ F1 = ⟨1, s.pc, 8, 1⟩ ∧ H = ⟨1, s.pc, 8, 1⟩)) :
  Calls Tryz.prog 9 #[.agg s.cells, .int .u8 r0, .int .u8 o0, .int .u32 v] w fun e w' => e = .returned (.bool true) ∧ Upd [] w w' := by
 have e3 : r0.tmod 7 = z := by rw [Int.tmod_eq_emod_of_nonneg hr]; exact hz
 have e4 : o0.tmod 8 = x := by rw [Int.tmod_eq_emod_of_nonneg ho0]; exact hx
 have e5 : v.tmod 200 = v2 := by rw [Int.tmod_eq_emod_of_nonneg hv]; exact hv2
 have e6 : wrap64 z = z := by unfold wrap64; omega
 have e7 : wrap64 (z + 1) = y := by unfold wrap64; omega
 have e10 : x.toNat = k := by omega
 have b1 : 0 ≤ x ∧ x < 8 := by omega
 have HY := Yh_ (And.intro (Yja y (by omega)) trivial)
 have HO := Yh_ ho
 have HD1 := Yh_ D1
 have HD2 := Yh_ D2
 have HF := Yh_ hfin
 have q12 : (o == 12) = false := by simp; omega
 have q14 : (o == 14) = false := by simp; omega
 have q15 : (o == 15) = false := by simp; omega
 clear h12 h14 h15
 clear hr ho0 hv hz hy hx hk hv2 ho D1 D2 hfin
 have tok : True := trivial
 go_enter Tryz.func9, Tryz.ntmps9
 go_upto_region 8 with (first | (have _t := tok; clear _t; go_at_call 12; refine (Ye2 _).mono ?_; rintro e w0 ⟨rfl, hu0⟩; clear tok) | (have _t := hu0; clear _t; go_at_call 13; refine (Ygs _).mono ?_; rintro e w1 ⟨p, pb, rfl, ha, hp, hM1, hu1⟩; have K0 := Yh_ (show Kn w p pb Mem.zero [(w.heap.size, .cells (St.cells s) 28 (0, 0))] w1 from Kn.start1 hu0 ha hp hM1 hu1); clear hu0 hu1 ha hp hM1) | (have _t := K0; clear _t; go_at_call 14; refine (Ygr Mem.zero p pb 0 1 y _ K0.out.m (by decide)).mono ?_; rintro e w11 ⟨rfl, hm, hu⟩; rw [show Mem.zero.mapB 0 1 y = true from HY.out.1, Yeu]; have K1 := Yh_ (show Kn w p pb (Ybk y) [(w.heap.size, .cells (St.cells s) 28 (0, 0))] w11 from K0.out.step hm hu); clear hm hu K0 ))
 have Q0 := Yh_ (((Kq.of K1.out).quiet ((Upd.refl [] w11).alloc (.cells #[.int .i64 3, .int .i64 8, .int .i64 12, .int .i64 15, .int .i64 23, .int .i64 9, .int .i64 14, .int .i64 5] 55))).add K1.out.u.size ⟨fun q hq => Nat.ne_of_lt ((Kq.of K1.out).lts.1 q hq), Nat.ne_of_gt (Kq.of K1.out).lts.2.2, Nat.ne_of_gt (Kq.of K1.out).lts.2.1⟩ (heap_alloc_new w11 (.cells #[.int .i64 3, .int .i64 8, .int .i64 12, .int .i64 15, .int .i64 23, .int .i64 9, .int .i64 14, .int .i64 5] 55)))
 clear K1 
 refine Yaz 10 (Kx w p pb (Ybk y) [(w11.heap.size, .cells #[.int .i64 3, .int .i64 8, .int .i64 12, .int .i64 15, .int .i64 23, .int .i64 9, .int .i64 14, .int .i64 5] 55 (0, 0)), (w.heap.size, .cells (St.cells s) 28 (0, 0))] _ 9) (fun _ _ => False) (by kernel_rfl) (by decide +kernel) (fun r0 => Kx.start Q0.out 9 r0) (fun _ _ _ h => h.elim) ?_
 simp only [List.take_succ_cons, List.take_zero, List.drop_succ_cons, List.drop_zero]
 apply Yd rfl rfl
 ·intro dn r0 K hd hdep hK w5 hB1
  have HB := Yh_ hB1
  clear hB1 hdep
  skip
  go_wp2_with fail
  first
  |exact hK _ (HB.out.same 0 (by decide))
  |exact (HB.out.same 0 (by decide))
 ·exact ⟨_, rfl⟩
 apply Yd rfl rfl
 ·intro dn r0 K hd hdep hK w5 hB1
  have HB := Yh_ hB1
  clear hB1 hdep
  skip
  go_wp2_with fail
  first
  |exact hK _ (HB.out.same 1 (by decide))
  |exact (HB.out.same 1 (by decide))
 ·exact ⟨_, rfl⟩
 apply Yd rfl rfl
 ·intro dn r0 K hd hdep hK w5 hB1
  have HB := Yh_ hB1
  clear hB1 hdep
  have dk : w5.cell? ⟨w11.heap.size, k, none⟩ = some (.int .i64 o) := (Ya (HB.out.k.get 0 rfl) k).trans HO.out
  go_wp2_with fail
  first
  |exact hK _ (HB.out.same 2 (by decide))
  |exact (HB.out.same 2 (by decide))
 ·exact ⟨_, rfl⟩
 apply Yd rfl rfl
 ·intro dn r0 K hd hdep hK w5 hB1
  have HB := Yh_ hB1
  clear hB1 hdep
  have dk : w5.cell? ⟨w11.heap.size, k, none⟩ = some (.int .i64 o) := (Ya (HB.out.k.get 0 rfl) k).trans HO.out
  go_wp2_with fail
  first
  |exact hK _ (HB.out.same 3 (by decide))
  |exact (HB.out.same 3 (by decide))
 ·exact ⟨_, rfl⟩
 apply Yd rfl rfl
 ·intro dn r0 K hd hdep hK w5 hB1
  have HB := Yh_ hB1
  clear hB1 hdep
  skip
  go_wp2_with (go_at_call 17; refine (Ydt _ _).mono ?_; rintro e w6 ⟨rfl, hu⟩)
  first
  |exact hK _ (HB.out.quiet hu 4 (by decide))
  |exact (HB.out.quiet hu 4 (by decide))
 ·exact ⟨_, rfl⟩
 apply Yd rfl rfl
 ·intro dn r0 K hd hdep hK w5 hB1
  have HB := Yh_ hB1
  clear hB1 hdep
  skip
  go_wp2_with fail
  first
  |exact hK _ (HB.out.same 5 (by decide))
  |exact (HB.out.same 5 (by decide))
 ·exact ⟨_, rfl⟩
 apply Yd rfl rfl
 ·intro dn r0 K hd hdep hK w5 hB1
  have HB := Yh_ hB1
  clear hB1 hdep
  skip
  go_wp2_with fail
  first
  |exact hK _ (HB.out.same 6 (by decide))
  |exact (HB.out.same 6 (by decide))
 ·exact ⟨_, rfl⟩
 apply Yd rfl rfl
 ·intro dn r0 K hd hdep hK w5 hB1
  have HB := Yh_ hB1
  clear hB1 hdep
  skip
  go_wp2_with (go_at_call 18; refine (Ydz _ _).mono ?_; rintro e w6 ⟨rfl, hu⟩)
  first
  |exact hK _ (HB.out.quiet hu 7 (by decide))
  |exact (HB.out.quiet hu 7 (by decide))
 ·exact ⟨_, rfl⟩
 apply Yd rfl rfl
 ·intro dn r0 K hd hdep hK w5 hB1
  have HB := Yh_ hB1
  clear hB1 hdep
  skip
  go_wp2_with fail
  first
  |exact hK _ (HB.out.same 8 (by decide))
  |exact (HB.out.same 8 (by decide))
 ·exact ⟨_, rfl⟩
 refine Yak rfl (fun _ => rfl) 12 rfl (by simp [Act.put]) ?_ ?_
 ·intro dn r0 K hd w5 hB1 hK
  have HB := Yh_ hB1
  clear hB1
  simp only [Yn]
  go_wp2_with fail
  first
  |exact hK (.pointer (some ⟨w5.heap.size, 0, none⟩)) _ HB.out.lay
  |exact HB.out.lay
 refine Yar (fun _ r0 w13 dn hall hB2 => ?_)
 obtain ⟨g12, e1, hK⟩ := hB2.fin (hall 9 (by decide))
 have Q1 := Yh_ hK
 show wpList _ _ _ _ (Act.put (Yn _ _ [] _) (some 12) (r0 9)) _
 rw [e1]
 simp only [Yn]
 clear e1 hK hall hB2 Q0
 have ts : True := trivial
 go_upto_region 9 with (have _t := ts; clear _t; refine Ye 41 rfl ?_; refine Yc (boI o ⟨2, 0, v2, 0, 0, 0⟩) g12 rfl _ _ rfl rfl rfl (Q1.out.get 0 rfl) rfl ?_; intro w14 hw; have Q2 := Yh_ (show Kq w p pb (Ybk y) [(g12, .cells (boI o ⟨2, 0, v2, 0, 0, 0⟩).cells 41 (0, 0)), (w11.heap.size, .cells #[.int .i64 3, .int .i64 8, .int .i64 12, .int .i64 15, .int .i64 23, .int .i64 9, .int .i64 14, .int .i64 5] 55 (0, 0)), (w.heap.size, .cells (St.cells s) 28 (0, 0))] w14 from Q1.out.putI 0 rfl rfl hw); clear hw Q1 ts)
 have dI : w14.cell? ⟨g12, 0, none⟩ = some (.int .i64 o) := Ya (Q2.out.get 0 rfl) 0
 go_upto_region 11 with fail
 clear dI
 have tl : True := trivial
 have ti : True := trivial
 have td : True := trivial
 go_upto_region 12 with (first | (have _t := tl; clear _t tl; refine Yr 28 rfl ?_; refine Yy s w.heap.size rfl _ rfl rfl (Q2.out.get 2 rfl) ?_) | (have _t := ti; clear _t ti; refine Yr 41 rfl ?_; refine Yan (boI o ⟨2, 0, v2, 0, 0, 0⟩) g12 rfl _ rfl rfl (Q2.out.get 0 rfl) ?_) | (have _t := td; clear _t td; go_at_call 15; refine (HD1.out _ p pb Q2.out.m).mono ?_; rintro e w20 ⟨rfl, hm, hu⟩; unfold Flt.val; have Q4 := Yh_ (show Kq w p pb M2 [(g12, .cells (boI o ⟨2, 0, v2, 0, 0, 0⟩).cells 41 (0, 0)), (w11.heap.size, .cells #[.int .i64 3, .int .i64 8, .int .i64 12, .int .i64 15, .int .i64 23, .int .i64 9, .int .i64 14, .int .i64 5] 55 (0, 0)), (w.heap.size, .cells (St.cells s) 28 (0, 0))] w20 from Q2.out.step hm hu); clear hm hu Q2) | (have _t := Q4; clear _t; refine Ye 28 rfl ?_; refine Yap S1 w20.heap.size rfl _ _ rfl rfl rfl (heap_alloc2_old w20 (.cells St.zero.cells 28) (.cells #[.int .i64 0, .int .u32 0, .int .u32 0, .int .i64 0] 35)) rfl ?_; intro w21 hw; have h2 := Ye9 hw; have h3 := Q4.out.two (F := F1) h2; have ft := Yg h2.2.1; have ct := Ya h2.2.1; have Q5 := Yh_ h3; clear hw h2 h3 Q4))
 try clear ft ct
 refine Yaz 16 (Kd w p pb M2 M2 [((w20.heap.size + 1), .cells (Ys F1) 35 (0, 0)), (w20.heap.size, .cells (St.cells S1) 28 (0, 0)), (g12, .cells (boI o ⟨2, 0, v2, 0, 0, 0⟩).cells 41 (0, 0)), (w11.heap.size, .cells #[.int .i64 3, .int .i64 8, .int .i64 12, .int .i64 15, .int .i64 23, .int .i64 9, .int .i64 14, .int .i64 5] 55 (0, 0)), (w.heap.size, .cells (St.cells s) 28 (0, 0))] _ C H 6 11 12 13 14) (fun _ _ => False) (by kernel_rfl) (by decide +kernel) (fun r0 => Kd.start Q5.out M2 C H 6 11 12 13 14 r0) (fun _ _ _ h => h.elim) ?_
 simp only [List.take_succ_cons, List.take_zero, List.drop_succ_cons, List.drop_zero]
 apply Yd rfl rfl
 ·intro dn r0 K hd hdep hK w5 hB1
  skip
  skip
  have HB := Yh_ hB1
  clear hB1 hdep
  go_wp2_with fail
  first
  |exact hK _ (HB.out.same _ (by decide) (by decide) (by decide) (by decide) (by decide))
  |exact (HB.out.same _ (by decide) (by decide) (by decide) (by decide) (by decide))
 ·exact ⟨_, rfl⟩
 apply Yd rfl rfl
 ·intro dn r0 K hd hdep hK w5 hB1
  refine Ybr s _ _ rfl rfl (hB1.k.get 4 rfl) ?_
  exact hK _ (hB1.same _ (by decide) (by decide) (by decide) (by decide) (by decide))
 ·exact ⟨_, rfl⟩
 apply Yd rfl rfl
 ·intro dn r0 K hd hdep hK w5 hB1
  skip
  skip
  have HB := Yh_ hB1
  clear hB1 hdep
  go_wp2_with (go_at_call 17; refine (Ydt _ _).mono ?_; rintro e w6 ⟨rfl, hu⟩)
  first
  |exact hK _ (HB.out.quiet hu _ (by decide) (by decide) (by decide) (by decide) (by decide))
  |exact (HB.out.quiet hu _ (by decide) (by decide) (by decide) (by decide) (by decide))
 ·exact ⟨_, rfl⟩
 apply Yd rfl rfl
 ·intro dn r0 K hd hdep hK w5 hB1
  skip
  skip
  have HB := Yh_ hB1
  clear hB1 hdep
  go_wp2_with fail
  first
  |exact hK _ (HB.out.same _ (by decide) (by decide) (by decide) (by decide) (by decide))
  |exact (HB.out.same _ (by decide) (by decide) (by decide) (by decide) (by decide))
 ·exact ⟨_, rfl⟩
 apply Yd rfl rfl
 ·intro dn r0 K hd hdep hK w5 hB1
  skip
  skip
  have HB := Yh_ hB1
  clear hB1 hdep
  go_wp2_with (go_at_call 18; refine (Ydz _ _).mono ?_; rintro e w6 ⟨rfl, hu⟩)
  first
  |exact hK _ (HB.out.quiet hu _ (by decide) (by decide) (by decide) (by decide) (by decide))
  |exact (HB.out.quiet hu _ (by decide) (by decide) (by decide) (by decide) (by decide))
 ·exact ⟨_, rfl⟩
 apply Yd rfl rfl
 ·intro dn r0 K hd hdep hK w5 hB1
  skip
  skip
  have HB := Yh_ hB1
  clear hB1 hdep
  go_wp2_with fail
  first
  |exact hK _ (HB.out.same _ (by decide) (by decide) (by decide) (by decide) (by decide))
  |exact (HB.out.same _ (by decide) (by decide) (by decide) (by decide) (by decide))
 ·exact ⟨_, rfl⟩
 apply Yd rfl rfl
 ·intro dn r0 K hd hdep hK w5 hB1
  have HD := Yh_ hd
  skip
  have HB := Yh_ hB1
  clear hB1 hdep
  go_wp2_with (go_at_call 15; have hm0 := HB.out.k.m; rw [HD.out] at hm0; refine (HD2.out _ p pb hm0).mono ?_; rintro e w6 ⟨rfl, hm6, hu6⟩; unfold Flt.val)
  first
  |exact hK _ (HB.out.call hm6 hu6 (by decide) (by decide) (by decide) (by decide))
  |exact (HB.out.call hm6 hu6 (by decide) (by decide) (by decide) (by decide))
 ·exact ⟨_, rfl⟩
 apply Yd rfl rfl
 ·intro dn r0 K hd hdep hK w5 hB1
  skip
  skip
  have HB := Yh_ hB1
  clear hB1 hdep
  go_wp2_with fail
  first
  |exact hK _ (HB.out.same _ (by decide) (by decide) (by decide) (by decide) (by decide))
  |exact (HB.out.same _ (by decide) (by decide) (by decide) (by decide) (by decide))
 ·exact ⟨_, rfl⟩
 apply Yd rfl rfl
 ·intro dn r0 K hd hdep hK w5 hB1
  skip
  skip
  have HB := Yh_ hB1
  clear hB1 hdep
  go_wp2_with fail
  first
  |exact hK _ (HB.out.same _ (by decide) (by decide) (by decide) (by decide) (by decide))
  |exact (HB.out.same _ (by decide) (by decide) (by decide) (by decide) (by decide))
 ·exact ⟨_, rfl⟩
 apply Yd rfl rfl
 ·intro dn r0 K hd hdep hK w5 hB1
  skip
  skip
  have HB := Yh_ hB1
  clear hB1 hdep
  go_wp2_with fail
  first
  |exact hK _ (HB.out.same _ (by decide) (by decide) (by decide) (by decide) (by decide))
  |exact (HB.out.same _ (by decide) (by decide) (by decide) (by decide) (by decide))
 ·exact ⟨_, rfl⟩
 apply Yd rfl rfl
 ·intro dn r0 K hd hdep hK w5 hB1
  skip
  skip
  have HB := Yh_ hB1
  clear hB1 hdep
  go_wp2_with fail
  first
  |exact hK _ (HB.out.same _ (by decide) (by decide) (by decide) (by decide) (by decide))
  |exact (HB.out.same _ (by decide) (by decide) (by decide) (by decide) (by decide))
 ·exact ⟨_, rfl⟩
 refine Yak rfl (fun _ => rfl) 16 rfl (by simp [Act.put]) ?_ ?_
 ·intro dn r0 K hd w5 hB1 hK
  have HB := Yh_ hB1
  clear hB1
  simp only [Yn]
  go_wp2_with fail
  first
  |exact hK (.pointer (some ⟨w5.heap.size, 0, none⟩)) _ (HB.out.layS hd (by decide) (by decide) (by decide) (by decide))
  |exact HB.out.layS hd (by decide) (by decide) (by decide) (by decide)
 refine Yak rfl (fun _ => rfl) 17 rfl (by simp [Act.put]) ?_ ?_
 ·intro dn r0 K hd w5 hB1 hK
  have HB := Yh_ hB1
  clear hB1
  simp only [Yn]
  go_wp2_with fail
  first
  |exact hK (.pointer (some ⟨w5.heap.size, 0, none⟩)) _ (HB.out.layF hd (by decide) (by decide) (by decide) (by decide))
  |exact HB.out.layF hd (by decide) (by decide) (by decide) (by decide)
 apply Ya4 rfl (fun _ => rfl)
 ·intro dn r0 K hd hdep hK w5 hB1
  have h8 : dn 11 = true := hdep ⟨11, .data⟩ (by simp) rfl
  obtain ⟨g0, e1, e2, e3⟩ := hB1.x h8
  refine Yb2 C g0 _ _ rfl (by show r0 11 = _; exact e1) rfl e3 (by cases dn 13 <;> rfl) ?_
  intro w6 hw; rw [← hw]
  exact hK _ (hB1.putS h8 e1 (by decide) (by decide) (by decide) (by decide))
 ·exact ⟨undef, fun _ => rfl, Eq.symm (by go_simp; exact rfl)⟩
 apply Ya4 rfl (fun _ => rfl)
 ·intro dn r0 K hd hdep hK w5 hB1
  have h8 : dn 12 = true := hdep ⟨12, .data⟩ (by simp) rfl
  obtain ⟨g0, e1, e2, e3⟩ := hB1.y h8
  refine Yby H (cond (dn 14) H Flt.zero) g0 _ _ rfl (by show r0 12 = _; exact e1) rfl (by rw [e3]; cases dn 14 <;> rfl) ?_
  skip
  exact hK _ (hB1.putF h8 e1 (by decide) (by decide) (by decide) (by decide))
 ·exact ⟨undef, fun _ => rfl, Eq.symm (by go_simp; exact rfl)⟩
 apply Ya4 rfl (fun _ => rfl)
 ·intro dn r0 K hd hdep hK w5 hB1
  skip
  skip
  have HB := Yh_ hB1
  clear hB1 hdep
  simp only [Yn]
  go_wp2_with fail
  first
  |exact hK _ (HB.out.same _ (by decide) (by decide) (by decide) (by decide) (by decide))
  |exact (HB.out.same _ (by decide) (by decide) (by decide) (by decide) (by decide))
 ·exact ⟨_, fun _ => rfl, Eq.symm (by go_simp; exact rfl)⟩
 refine Yar (fun _ r0 w30 dn hall hB2 => ?_)
 obtain ⟨ga, gb, e1, e2, hK⟩ := hB2.fin (hall 6 (by decide)) (hall 11 (by decide)) (hall 12 (by decide)) (hall 13 (by decide)) (hall 14 (by decide))
 have Q6 := Yh_ hK
 show wpList _ _ _ _ (Act.put (Act.put (Yn _ _ [] _) (some 16) (r0 11)) (some 17) (r0 12)) _
 rw [e1, e2]
 simp only [Yn]
 clear e1 e2 hK hall hB2 Q5
 have dP : w30.cell? ⟨w.heap.size, 8, none⟩ = some (.int .u32 s.pc) := Ya (Q6.out.get 6 rfl) 8
 have dR0 : w30.cell? ⟨w.heap.size, 0, none⟩ = some (.int .u32 (s.R 0)) := Ya (Q6.out.get 6 rfl) 0
 have dR1 : w30.cell? ⟨w.heap.size, 1, none⟩ = some (.int .u32 (s.R 1)) := Ya (Q6.out.get 6 rfl) 1
 have dR2 : w30.cell? ⟨w.heap.size, 2, none⟩ = some (.int .u32 (s.R 2)) := Ya (Q6.out.get 6 rfl) 2
 have dR3 : w30.cell? ⟨w.heap.size, 3, none⟩ = some (.int .u32 (s.R 3)) := Ya (Q6.out.get 6 rfl) 3
 have dR4 : w30.cell? ⟨w.heap.size, 4, none⟩ = some (.int .u32 (s.R 4)) := Ya (Q6.out.get 6 rfl) 4
 have dR5 : w30.cell? ⟨w.heap.size, 5, none⟩ = some (.int .u32 (s.R 5)) := Ya (Q6.out.get 6 rfl) 5
 have dR6 : w30.cell? ⟨w.heap.size, 6, none⟩ = some (.int .u32 (s.R 6)) := Ya (Q6.out.get 6 rfl) 6
 have dR7 : w30.cell? ⟨w.heap.size, 7, none⟩ = some (.int .u32 (s.R 7)) := Ya (Q6.out.get 6 rfl) 7
 have hq := Yge s
 have he := Yga s
 have hER := Ygj s
 rcases HF.out with ⟨m1, m2, rfl, rfl, hC⟩ | ⟨m1, m2, rfl, rfl, rfl, rfl, hC⟩ | ⟨b3, m1, m2, m3, rfl, rfl, rfl, rfl, rfl, rfl⟩
 ·have dC0 : w30.cell? ⟨ga, 0, none⟩ = some (.int .u32 (s.R 0)) := ((Ya (Q6.out.get 1 rfl) 0).trans (St.cR _ 0 (by decide))).trans (by rw [hC 0 (by decide)])
  have dC1 : w30.cell? ⟨ga, 1, none⟩ = some (.int .u32 (s.R 1)) := ((Ya (Q6.out.get 1 rfl) 1).trans (St.cR _ 1 (by decide))).trans (by rw [hC 1 (by decide)])
  have dC2 : w30.cell? ⟨ga, 2, none⟩ = some (.int .u32 (s.R 2)) := ((Ya (Q6.out.get 1 rfl) 2).trans (St.cR _ 2 (by decide))).trans (by rw [hC 2 (by decide)])
  have dC3 : w30.cell? ⟨ga, 3, none⟩ = some (.int .u32 (s.R 3)) := ((Ya (Q6.out.get 1 rfl) 3).trans (St.cR _ 3 (by decide))).trans (by rw [hC 3 (by decide)])
  have dC4 : w30.cell? ⟨ga, 4, none⟩ = some (.int .u32 (s.R 4)) := ((Ya (Q6.out.get 1 rfl) 4).trans (St.cR _ 4 (by decide))).trans (by rw [hC 4 (by decide)])
  have dC5 : w30.cell? ⟨ga, 5, none⟩ = some (.int .u32 (s.R 5)) := ((Ya (Q6.out.get 1 rfl) 5).trans (St.cR _ 5 (by decide))).trans (by rw [hC 5 (by decide)])
  have dC6 : w30.cell? ⟨ga, 6, none⟩ = some (.int .u32 (s.R 6)) := ((Ya (Q6.out.get 1 rfl) 6).trans (St.cR _ 6 (by decide))).trans (by rw [hC 6 (by decide)])
  have dC7 : w30.cell? ⟨ga, 7, none⟩ = some (.int .u32 (s.R 7)) := ((Ya (Q6.out.get 1 rfl) 7).trans (St.cR _ 7 (by decide))).trans (by rw [hC 7 (by decide)])
  clear hC
  go_wp2_with fail
  go_ret
  exact ⟨rfl, Q6.out.u⟩
 ·have dC0 : w30.cell? ⟨ga, 0, none⟩ = some (.int .u32 (s.R 0)) := ((Ya (Q6.out.get 1 rfl) 0).trans (St.cR _ 0 (by decide))).trans (by rw [hC 0 (by decide)])
  have dC1 : w30.cell? ⟨ga, 1, none⟩ = some (.int .u32 (s.R 1)) := ((Ya (Q6.out.get 1 rfl) 1).trans (St.cR _ 1 (by decide))).trans (by rw [hC 1 (by decide)])
  have dC2 : w30.cell? ⟨ga, 2, none⟩ = some (.int .u32 (s.R 2)) := ((Ya (Q6.out.get 1 rfl) 2).trans (St.cR _ 2 (by decide))).trans (by rw [hC 2 (by decide)])
  have dC3 : w30.cell? ⟨ga, 3, none⟩ = some (.int .u32 (s.R 3)) := ((Ya (Q6.out.get 1 rfl) 3).trans (St.cR _ 3 (by decide))).trans (by rw [hC 3 (by decide)])
  have dC4 : w30.cell? ⟨ga, 4, none⟩ = some (.int .u32 (s.R 4)) := ((Ya (Q6.out.get 1 rfl) 4).trans (St.cR _ 4 (by decide))).trans (by rw [hC 4 (by decide)])
  have dC5 : w30.cell? ⟨ga, 5, none⟩ = some (.int .u32 (s.R 5)) := ((Ya (Q6.out.get 1 rfl) 5).trans (St.cR _ 5 (by decide))).trans (by rw [hC 5 (by decide)])
  have dC6 : w30.cell? ⟨ga, 6, none⟩ = some (.int .u32 (s.R 6)) := ((Ya (Q6.out.get 1 rfl) 6).trans (St.cR _ 6 (by decide))).trans (by rw [hC 6 (by decide)])
  have dC7 : w30.cell? ⟨ga, 7, none⟩ = some (.int .u32 (s.R 7)) := ((Ya (Q6.out.get 1 rfl) 7).trans (St.cR _ 7 (by decide))).trans (by rw [hC 7 (by decide)])
  clear hC
  have dF1 := Ya (Q6.out.get 2 rfl)
  unfold Ys at dF1
  dsimp only at dF1
  have t1 : True := trivial
  have t2 : True := trivial
  go_wp2_with (first | (have _t := t1; clear _t t1; refine Yr 28 rfl ?_; refine Yv s w20.heap.size rfl _ rfl rfl (Q6.out.get 3 rfl) ?_) | (have _t := t2; clear _t t2; refine Yr 28 rfl ?_; refine Yv s w.heap.size rfl _ rfl rfl (Q6.out.get 6 rfl) ?_))
  go_ret
  exact ⟨rfl, Q6.out.u⟩
 ·have dF1 := Ya (Q6.out.get 2 rfl)
  unfold Ys at dF1
  dsimp only at dF1
  have dH := Ya (Q6.out.get 0 rfl)
  unfold Ys at dH
  dsimp only at dH
  have t1 : True := trivial
  have t2 : True := trivial
  have t3 : True := trivial
  have t4 : True := trivial
  go_wp2_with (first | (have _t := t1; clear _t t1; refine Yr 28 rfl ?_; refine Yv s w20.heap.size rfl _ rfl rfl (Q6.out.get 3 rfl) ?_) | (have _t := t2; clear _t t2; refine Yr 28 rfl ?_; refine Yv s w.heap.size rfl _ rfl rfl (Q6.out.get 6 rfl) ?_) | (have _t := t3; clear _t t3; refine Yr 28 rfl ?_; refine Yv s ga rfl _ rfl rfl (Q6.out.get 1 rfl) ?_) | (have _t := t4; clear _t t4; refine Yr 28 rfl ?_; refine Yv s w.heap.size rfl _ rfl rfl (Q6.out.get 6 rfl) ?_))
  go_ret
  exact ⟨rfl, Q6.out.u⟩
theorem bow_inc (s : St) (r0 o0 v : Int) (w : World) (x y z v2 : Int) (k : Nat) (hr : 0 ≤ r0) (ho0 : 0 ≤ o0) (hv : 0 ≤ v) (hz : r0 % 7 = z) (hy : z + 1 = y) (hx : o0 % 8 = x) (hk : x = k) (hv2 : v % 200 = v2) (ho : #[.int .i64 3, .int .i64 8, .int .i64 12, .int .i64 15, .int .i64 23, .int .i64 9, .int .i64 14, .int .i64 5][k]? = some (Value.int .i64 12)) (S1 C : St) (F1 H : Flt) (k1 k2 : Bool) (M2 : Mem)
  (D1 : ∀ (w : World) (p pb : Nat), Yj w p pb (Ybk y) → Calls Tryz.prog 15 #[.pointer (some ⟨p, 0, none⟩), .agg s.cells, .agg (boI 12 Opd.none).cells] w fun e w' => e = .returned (.tuple #[.agg (St.cells S1), F1.val, .bool k1]) ∧ Yj w' p pb M2 ∧ Upd [pb] w w')
  (D2 : ∀ (w : World) (p pb : Nat), Yj w p pb M2 → Calls Tryz.prog 15 #[.pointer (some ⟨p, 0, none⟩), .agg s.cells, .agg (Ins.cells ⟨10, 0, ⟨3, 0, 8, -1, -1, 1⟩, ⟨2, 0, v, 0, 0, 0⟩, false, 10⟩)] w fun e w' => e = .returned (.tuple #[.agg (St.cells C), H.val, .bool k2]) ∧ Yj w' p pb M2 ∧ Upd [pb] w w')
  (hfin : (bits .and .i64 y 3 = 3 ∧ bits .and .i64 y 1 = 1 ∧ k1 = true ∧ k2 = true ∧ ∀ i, i < 8 → C.R i = s.R i) ∨
   (bits .and .i64 y 3 = 1 ∧ bits .and .i64 y 1 = 1 ∧ k1 = false ∧ k2 = true ∧ s = S1 ∧ F1 = ⟨1, s.pc, 8, 2⟩ ∧ ∀ i, i < 8 → C.R i = s.R i) ∨
   (∃ b, bits .and .i64 y 3 = b ∧ bits .and .i64 y 1 = 0 ∧ (b == 3) = false ∧ k1 = false ∧ k2 = false ∧ s = S1 ∧ s = C ∧ F1 = ⟨1, s.pc, 8, 1⟩ ∧ H = ⟨1, s.pc, 8, 1⟩)) :
  Calls Tryz.prog 9 #[.agg s.cells, .int .u8 r0, .int .u8 o0, .int .u32 v] w fun e w' => e = .returned (.bool true) ∧ Upd [] w w' := by
 have e3 : r0.tmod 7 = z := by rw [Int.tmod_eq_emod_of_nonneg hr]; exact hz
 have e4 : o0.tmod 8 = x := by rw [Int.tmod_eq_emod_of_nonneg ho0]; exact hx
 have e5 : v.tmod 200 = v2 := by rw [Int.tmod_eq_emod_of_nonneg hv]; exact hv2
 have e6 : wrap64 z = z := by unfold wrap64; omega
 have e7 : wrap64 (z + 1) = y := by unfold wrap64; omega
 have e10 : x.toNat = k := by omega
 have b1 : 0 ≤ x ∧ x < 8 := by omega
 have HY := Yh_ (And.intro (Yja y (by omega)) trivial)
 have HO := Yh_ ho
 have HD1 := Yh_ D1
 have HD2 := Yh_ D2
 have HF := Yh_ hfin
 clear hr ho0 hv hz hy hx hk hv2 ho D1 D2 hfin
 have tok : True := trivial
 go_enter Tryz.func9, Tryz.ntmps9
 go_upto_region 8 with (first | (have _t := tok; clear _t; go_at_call 12; refine (Ye2 _).mono ?_; rintro e w0 ⟨rfl, hu0⟩; clear tok) | (have _t := hu0; clear _t; go_at_call 13; refine (Ygs _).mono ?_; rintro e w1 ⟨p, pb, rfl, ha, hp, hM1, hu1⟩; have K0 := Yh_ (show Kn w p pb Mem.zero [(w.heap.size, .cells (St.cells s) 28 (0, 0))] w1 from Kn.start1 hu0 ha hp hM1 hu1); clear hu0 hu1 ha hp hM1) | (have _t := K0; clear _t; go_at_call 14; refine (Ygr Mem.zero p pb 0 1 y _ K0.out.m (by decide)).mono ?_; rintro e w11 ⟨rfl, hm, hu⟩; rw [show Mem.zero.mapB 0 1 y = true from HY.out.1, Yeu]; have K1 := Yh_ (show Kn w p pb (Ybk y) [(w.heap.size, .cells (St.cells s) 28 (0, 0))] w11 from K0.out.step hm hu); clear hm hu K0 ))
 have Q0 := Yh_ (((Kq.of K1.out).quiet ((Upd.refl [] w11).alloc (.cells #[.int .i64 3, .int .i64 8, .int .i64 12, .int .i64 15, .int .i64 23, .int .i64 9, .int .i64 14, .int .i64 5] 55))).add K1.out.u.size ⟨fun q hq => Nat.ne_of_lt ((Kq.of K1.out).lts.1 q hq), Nat.ne_of_gt (Kq.of K1.out).lts.2.2, Nat.ne_of_gt (Kq.of K1.out).lts.2.1⟩ (heap_alloc_new w11 (.cells #[.int .i64 3, .int .i64 8, .int .i64 12, .int .i64 15, .int .i64 23, .int .i64 9, .int .i64 14, .int .i64 5] 55)))
 clear K1 
 refine Yaz 10 (Kx w p pb (Ybk y) [(w11.heap.size, .cells #[.int .i64 3, .int .i64 8, .int .i64 12, .int .i64 15, .int .i64 23, .int .i64 9, .int .i64 14, .int .i64 5] 55 (0, 0)), (w.heap.size, .cells (St.cells s) 28 (0, 0))] _ 9) (fun _ _ => False) (by kernel_rfl) (by decide +kernel) (fun r0 => Kx.start Q0.out 9 r0) (fun _ _ _ h => h.elim) ?_
 simp only [List.take_succ_cons, List.take_zero, List.drop_succ_cons, List.drop_zero]
 apply Yd rfl rfl
 ·intro dn r0 K hd hdep hK w5 hB1
  have HB := Yh_ hB1
  clear hB1 hdep
  skip
  go_wp2_with fail
  first
  |exact hK _ (HB.out.same 0 (by decide))
  |exact (HB.out.same 0 (by decide))
 ·exact ⟨_, rfl⟩
 apply Yd rfl rfl
 ·intro dn r0 K hd hdep hK w5 hB1
  have HB := Yh_ hB1
  clear hB1 hdep
  skip
  go_wp2_with fail
  first
  |exact hK _ (HB.out.same 1 (by decide))
  |exact (HB.out.same 1 (by decide))
 ·exact ⟨_, rfl⟩
 apply Yd rfl rfl
 ·intro dn r0 K hd hdep hK w5 hB1
  have HB := Yh_ hB1
  clear hB1 hdep
  have dk : w5.cell? ⟨w11.heap.size, k, none⟩ = some (.int .i64 12) := (Ya (HB.out.k.get 0 rfl) k).trans HO.out
  go_wp2_with fail
  first
  |exact hK _ (HB.out.same 2 (by decide))
  |exact (HB.out.same 2 (by decide))
 ·exact ⟨_, rfl⟩
 apply Yd rfl rfl
 ·intro dn r0 K hd hdep hK w5 hB1
  have HB := Yh_ hB1
  clear hB1 hdep
  have dk : w5.cell? ⟨w11.heap.size, k, none⟩ = some (.int .i64 12) := (Ya (HB.out.k.get 0 rfl) k).trans HO.out
  go_wp2_with fail
  first
  |exact hK _ (HB.out.same 3 (by decide))
  |exact (HB.out.same 3 (by decide))
 ·exact ⟨_, rfl⟩
 apply Yd rfl rfl
 ·intro dn r0 K hd hdep hK w5 hB1
  have HB := Yh_ hB1
  clear hB1 hdep
  skip
  go_wp2_with (go_at_call 17; refine (Ydt _ _).mono ?_; rintro e w6 ⟨rfl, hu⟩)
  first
  |exact hK _ (HB.out.quiet hu 4 (by decide))
  |exact (HB.out.quiet hu 4 (by decide))
 ·exact ⟨_, rfl⟩
 apply Yd rfl rfl
 ·intro dn r0 K hd hdep hK w5 hB1
  have HB := Yh_ hB1
  clear hB1 hdep
  skip
  go_wp2_with fail
  first
  |exact hK _ (HB.out.same 5 (by decide))
  |exact (HB.out.same 5 (by decide))
 ·exact ⟨_, rfl⟩
 apply Yd rfl rfl
 ·intro dn r0 K hd hdep hK w5 hB1
  have HB := Yh_ hB1
  clear hB1 hdep
  skip
  go_wp2_with fail
  first
  |exact hK _ (HB.out.same 6 (by decide))
  |exact (HB.out.same 6 (by decide))
 ·exact ⟨_, rfl⟩
 apply Yd rfl rfl
 ·intro dn r0 K hd hdep hK w5 hB1
  have HB := Yh_ hB1
  clear hB1 hdep
  skip
  go_wp2_with (go_at_call 18; refine (Ydz _ _).mono ?_; rintro e w6 ⟨rfl, hu⟩)
  first
  |exact hK _ (HB.out.quiet hu 7 (by decide))
  |exact (HB.out.quiet hu 7 (by decide))
 ·exact ⟨_, rfl⟩
 apply Yd rfl rfl
 ·intro dn r0 K hd hdep hK w5 hB1
  have HB := Yh_ hB1
  clear hB1 hdep
  skip
  go_wp2_with fail
  first
  |exact hK _ (HB.out.same 8 (by decide))
  |exact (HB.out.same 8 (by decide))
 ·exact ⟨_, rfl⟩
 refine Yak rfl (fun _ => rfl) 12 rfl (by simp [Act.put]) ?_ ?_
 ·intro dn r0 K hd w5 hB1 hK
  have HB := Yh_ hB1
  clear hB1
  simp only [Yn]
  go_wp2_with fail
  first
  |exact hK (.pointer (some ⟨w5.heap.size, 0, none⟩)) _ HB.out.lay
  |exact HB.out.lay
 refine Yar (fun _ r0 w13 dn hall hB2 => ?_)
 obtain ⟨g12, e1, hK⟩ := hB2.fin (hall 9 (by decide))
 have Q1 := Yh_ hK
 show wpList _ _ _ _ (Act.put (Yn _ _ [] _) (some 12) (r0 9)) _
 rw [e1]
 simp only [Yn]
 clear e1 hK hall hB2 Q0
 have ts : True := trivial
 go_upto_region 9 with (have _t := ts; clear _t; refine Ye 41 rfl ?_; refine Yc (boI 12 ⟨2, 0, v2, 0, 0, 0⟩) g12 rfl _ _ rfl rfl rfl (Q1.out.get 0 rfl) rfl ?_; intro w14 hw; have Q2 := Yh_ (show Kq w p pb (Ybk y) [(g12, .cells (boI 12 ⟨2, 0, v2, 0, 0, 0⟩).cells 41 (0, 0)), (w11.heap.size, .cells #[.int .i64 3, .int .i64 8, .int .i64 12, .int .i64 15, .int .i64 23, .int .i64 9, .int .i64 14, .int .i64 5] 55 (0, 0)), (w.heap.size, .cells (St.cells s) 28 (0, 0))] w14 from Q1.out.putI 0 rfl rfl hw); clear hw Q1 ts)
 have dI : w14.cell? ⟨g12, 0, none⟩ = some (.int .i64 12) := Ya (Q2.out.get 0 rfl) 0
 have dF := Yg (Q2.out.get 0 rfl)
 go_upto_region 11 with (have _t := Q2; clear _t; refine Ye 39 rfl ?_; refine Yu Opd.none g12 8 rfl _ _ rfl rfl rfl (Q2.out.get 0 rfl) (by show 8 + 6 ≤ 16; decide) ?_; intro w15 hw; have Q3 := Yh_ (show Kq w p pb (Ybk y) [(g12, .cells (boI 12 Opd.none).cells 41 (0, 0)), (w11.heap.size, .cells #[.int .i64 3, .int .i64 8, .int .i64 12, .int .i64 15, .int .i64 23, .int .i64 9, .int .i64 14, .int .i64 5] 55 (0, 0)), (w.heap.size, .cells (St.cells s) 28 (0, 0))] w15 from Q2.out.putB 0 rfl hw); clear hw Q2)
 clear dI dF
 have tl : True := trivial
 have ti : True := trivial
 have td : True := trivial
 go_upto_region 12 with (first | (have _t := tl; clear _t tl; refine Yr 28 rfl ?_; refine Yy s w.heap.size rfl _ rfl rfl (Q3.out.get 2 rfl) ?_) | (have _t := ti; clear _t ti; refine Yr 41 rfl ?_; refine Yan (boI 12 Opd.none) g12 rfl _ rfl rfl (Q3.out.get 0 rfl) ?_) | (have _t := td; clear _t td; go_at_call 15; refine (HD1.out _ p pb Q3.out.m).mono ?_; rintro e w20 ⟨rfl, hm, hu⟩; unfold Flt.val; have Q4 := Yh_ (show Kq w p pb M2 [(g12, .cells (boI 12 Opd.none).cells 41 (0, 0)), (w11.heap.size, .cells #[.int .i64 3, .int .i64 8, .int .i64 12, .int .i64 15, .int .i64 23, .int .i64 9, .int .i64 14, .int .i64 5] 55 (0, 0)), (w.heap.size, .cells (St.cells s) 28 (0, 0))] w20 from Q3.out.step hm hu); clear hm hu Q3) | (have _t := Q4; clear _t; refine Ye 28 rfl ?_; refine Yap S1 w20.heap.size rfl _ _ rfl rfl rfl (heap_alloc2_old w20 (.cells St.zero.cells 28) (.cells #[.int .i64 0, .int .u32 0, .int .u32 0, .int .i64 0] 35)) rfl ?_; intro w21 hw; have h2 := Ye9 hw; have h3 := Q4.out.two (F := F1) h2; have ft := Yg h2.2.1; have ct := Ya h2.2.1; have Q5 := Yh_ h3; clear hw h2 h3 Q4))
 try clear ft ct
 refine Yaz 16 (Kd w p pb M2 M2 [((w20.heap.size + 1), .cells (Ys F1) 35 (0, 0)), (w20.heap.size, .cells (St.cells S1) 28 (0, 0)), (g12, .cells (boI 12 Opd.none).cells 41 (0, 0)), (w11.heap.size, .cells #[.int .i64 3, .int .i64 8, .int .i64 12, .int .i64 15, .int .i64 23, .int .i64 9, .int .i64 14, .int .i64 5] 55 (0, 0)), (w.heap.size, .cells (St.cells s) 28 (0, 0))] _ C H 6 11 12 13 14) (fun _ _ => False) (by kernel_rfl) (by decide +kernel) (fun r0 => Kd.start Q5.out M2 C H 6 11 12 13 14 r0) (fun _ _ _ h => h.elim) ?_
 simp only [List.take_succ_cons, List.take_zero, List.drop_succ_cons, List.drop_zero]
 apply Yd rfl rfl
 ·intro dn r0 K hd hdep hK w5 hB1
  skip
  skip
  have HB := Yh_ hB1
  clear hB1 hdep
  go_wp2_with fail
  first
  |exact hK _ (HB.out.same _ (by decide) (by decide) (by decide) (by decide) (by decide))
  |exact (HB.out.same _ (by decide) (by decide) (by decide) (by decide) (by decide))
 ·exact ⟨_, rfl⟩
 apply Yd rfl rfl
 ·intro dn r0 K hd hdep hK w5 hB1
  refine Ybr s _ _ rfl rfl (hB1.k.get 4 rfl) ?_
  exact hK _ (hB1.same _ (by decide) (by decide) (by decide) (by decide) (by decide))
 ·exact ⟨_, rfl⟩
 apply Yd rfl rfl
 ·intro dn r0 K hd hdep hK w5 hB1
  skip
  skip
  have HB := Yh_ hB1
  clear hB1 hdep
  go_wp2_with (go_at_call 17; refine (Ydt _ _).mono ?_; rintro e w6 ⟨rfl, hu⟩)
  first
  |exact hK _ (HB.out.quiet hu _ (by decide) (by decide) (by decide) (by decide) (by decide))
  |exact (HB.out.quiet hu _ (by decide) (by decide) (by decide) (by decide) (by decide))
 ·exact ⟨_, rfl⟩
 apply Yd rfl rfl
 ·intro dn r0 K hd hdep hK w5 hB1
  skip
  skip
  have HB := Yh_ hB1
  clear hB1 hdep
  go_wp2_with fail
  first
  |exact hK _ (HB.out.same _ (by decide) (by decide) (by decide) (by decide) (by decide))
  |exact (HB.out.same _ (by decide) (by decide) (by decide) (by decide) (by decide))
 ·exact ⟨_, rfl⟩
 apply Yd rfl rfl
 ·intro dn r0 K hd hdep hK w5 hB1
  skip
  skip
  have HB := Yh_ hB1
  clear hB1 hdep
  go_wp2_with (go_at_call 18; refine (Ydz _ _).mono ?_; rintro e w6 ⟨rfl, hu⟩)
  first
  |exact hK _ (HB.out.quiet hu _ (by decide) (by decide) (by decide) (by decide) (by decide))
  |exact (HB.out.quiet hu _ (by decide) (by decide) (by decide) (by decide) (by decide))
 ·exact ⟨_, rfl⟩
 apply Yd rfl rfl
 ·intro dn r0 K hd hdep hK w5 hB1
  skip
  skip
  have HB := Yh_ hB1
  clear hB1 hdep
  go_wp2_with fail
  first
  |exact hK _ (HB.out.same _ (by decide) (by decide) (by decide) (by decide) (by decide))
  |exact (HB.out.same _ (by decide) (by decide) (by decide) (by decide) (by decide))
 ·exact ⟨_, rfl⟩
 apply Yd rfl rfl
 ·intro dn r0 K hd hdep hK w5 hB1
  have HD := Yh_ hd
  skip
  have HB := Yh_ hB1
  clear hB1 hdep
  go_wp2_with (go_at_call 15; have hm0 := HB.out.k.m; rw [HD.out] at hm0; refine (HD2.out _ p pb hm0).mono ?_; rintro e w6 ⟨rfl, hm6, hu6⟩; unfold Flt.val)
  first
  |exact hK _ (HB.out.call hm6 hu6 (by decide) (by decide) (by decide) (by decide))
  |exact (HB.out.call hm6 hu6 (by decide) (by decide) (by decide) (by decide))
 ·exact ⟨_, rfl⟩
 apply Yd rfl rfl
 ·intro dn r0 K hd hdep hK w5 hB1
  skip
  skip
  have HB := Yh_ hB1
  clear hB1 hdep
  go_wp2_with fail
  first
  |exact hK _ (HB.out.same _ (by decide) (by decide) (by decide) (by decide) (by decide))
  |exact (HB.out.same _ (by decide) (by decide) (by decide) (by decide) (by decide))
 ·exact ⟨_, rfl⟩
 apply Yd rfl rfl
 ·intro dn r0 K hd hdep hK w5 hB1
  skip
  skip
  have HB := Yh_ hB1
  clear hB1 hdep
  go_wp2_with fail
  first
  |exact hK _ (HB.out.same _ (by decide) (by decide) (by decide) (by decide) (by decide))
  |exact (HB.out.same _ (by decide) (by decide) (by decide) (by decide) (by decide))
 ·exact ⟨_, rfl⟩
 apply Yd rfl rfl
 ·intro dn r0 K hd hdep hK w5 hB1
  skip
  skip
  have HB := Yh_ hB1
  clear hB1 hdep
  go_wp2_with fail
  first
  |exact hK _ (HB.out.same _ (by decide) (by decide) (by decide) (by decide) (by decide))
  |exact (HB.out.same _ (by decide) (by decide) (by decide) (by decide) (by decide))
 ·exact ⟨_, rfl⟩
 apply Yd rfl rfl
 ·intro dn r0 K hd hdep hK w5 hB1
  skip
  skip
  have HB := Yh_ hB1
  clear hB1 hdep
  go_wp2_with fail
  first
  |exact hK _ (HB.out.same _ (by decide) (by decide) (by decide) (by decide) (by decide))
  |exact (HB.out.same _ (by decide) (by decide) (by decide) (by decide) (by decide))
 ·exact ⟨_, rfl⟩
 refine Yak rfl (fun _ => rfl) 16 rfl (by simp [Act.put]) ?_ ?_
 ·intro dn r0 K hd w5 hB1 hK
  have HB := Yh_ hB1
  clear hB1
  simp only [Yn]
  go_wp2_with fail
  first
  |exact hK (.pointer (some ⟨w5.heap.size, 0, none⟩)) _ (HB.out.layS hd (by decide) (by decide) (by decide) (by decide))
  |exact HB.out.layS hd (by decide) (by decide) (by decide) (by decide)
 refine Yak rfl (fun _ => rfl) 17 rfl (by simp [Act.put]) ?_ ?_
 ·intro dn r0 K hd w5 hB1 hK
  have HB := Yh_ hB1
  clear hB1
  simp only [Yn]
  go_wp2_with fail
  first
  |exact hK (.pointer (some ⟨w5.heap.size, 0, none⟩)) _ (HB.out.layF hd (by decide) (by decide) (by decide) (by decide))
  |exact HB.out.layF hd (by decide) (by decide) (by decide) (by decide)
 apply Ya4 rfl (fun _ => rfl)
 ·intro dn r0 K hd hdep hK w5 hB1
  have h8 : dn 11 = true := hdep ⟨11, .data⟩ (by simp) rfl
  obtain ⟨g0, e1, e2, e3⟩ := hB1.x h8
  refine Yb2 C g0 _ _ rfl (by show r0 11 = _; exact e1) rfl e3 (by cases dn 13 <;> rfl) ?_
  intro w6 hw; rw [← hw]
  exact hK _ (hB1.putS h8 e1 (by decide) (by decide) (by decide) (by decide))
 ·exact ⟨undef, fun _ => rfl, Eq.symm (by go_simp; exact rfl)⟩
 apply Ya4 rfl (fun _ => rfl)
 ·intro dn r0 K hd hdep hK w5 hB1
  have h8 : dn 12 = true := hdep ⟨12, .data⟩ (by simp) rfl
  obtain ⟨g0, e1, e2, e3⟩ := hB1.y h8
  refine Yby H (cond (dn 14) H Flt.zero) g0 _ _ rfl (by show r0 12 = _; exact e1) rfl (by rw [e3]; cases dn 14 <;> rfl) ?_
  skip
  exact hK _ (hB1.putF h8 e1 (by decide) (by decide) (by decide) (by decide))
 ·exact ⟨undef, fun _ => rfl, Eq.symm (by go_simp; exact rfl)⟩
 apply Ya4 rfl (fun _ => rfl)
 ·intro dn r0 K hd hdep hK w5 hB1
  skip
  skip
  have HB := Yh_ hB1
  clear hB1 hdep
  simp only [Yn]
  go_wp2_with fail
  first
  |exact hK _ (HB.out.same _ (by decide) (by decide) (by decide) (by decide) (by decide))
  |exact (HB.out.same _ (by decide) (by decide) (by decide) (by decide) (by decide))
 ·exact ⟨_, fun _ => rfl, Eq.symm (by go_simp; exact rfl)⟩
 refine Yar (fun _ r0 w30 dn hall hB2 => ?_)
 obtain ⟨ga, gb, e1, e2, hK⟩ := hB2.fin (hall 6 (by decide)) (hall 11 (by decide)) (hall 12 (by decide)) (hall 13 (by decide)) (hall 14 (by decide))
 have Q6 := Yh_ hK
 show wpList _ _ _ _ (Act.put (Act.put (Yn _ _ [] _) (some 16) (r0 11)) (some 17) (r0 12)) _
 rw [e1, e2]
 simp only [Yn]
 clear e1 e2 hK hall hB2 Q5
 have dP : w30.cell? ⟨w.heap.size, 8, none⟩ = some (.int .u32 s.pc) := Ya (Q6.out.get 6 rfl) 8
 have dR0 : w30.cell? ⟨w.heap.size, 0, none⟩ = some (.int .u32 (s.R 0)) := Ya (Q6.out.get 6 rfl) 0
 have dR1 : w30.cell? ⟨w.heap.size, 1, none⟩ = some (.int .u32 (s.R 1)) := Ya (Q6.out.get 6 rfl) 1
 have dR2 : w30.cell? ⟨w.heap.size, 2, none⟩ = some (.int .u32 (s.R 2)) := Ya (Q6.out.get 6 rfl) 2
 have dR3 : w30.cell? ⟨w.heap.size, 3, none⟩ = some (.int .u32 (s.R 3)) := Ya (Q6.out.get 6 rfl) 3
 have dR4 : w30.cell? ⟨w.heap.size, 4, none⟩ = some (.int .u32 (s.R 4)) := Ya (Q6.out.get 6 rfl) 4
 have dR5 : w30.cell? ⟨w.heap.size, 5, none⟩ = some (.int .u32 (s.R 5)) := Ya (Q6.out.get 6 rfl) 5
 have dR6 : w30.cell? ⟨w.heap.size, 6, none⟩ = some (.int .u32 (s.R 6)) := Ya (Q6.out.get 6 rfl) 6
 have dR7 : w30.cell? ⟨w.heap.size, 7, none⟩ = some (.int .u32 (s.R 7)) := Ya (Q6.out.get 6 rfl) 7
 have hq := Yge s
 have he := Yga s
 have hER := Ygj s
 rcases HF.out with ⟨m1, m2, rfl, rfl, hC⟩ | ⟨m1, m2, rfl, rfl, rfl, rfl, hC⟩ | ⟨b3, m1, m2, m3, rfl, rfl, rfl, rfl, rfl, rfl⟩
 ·have dC0 : w30.cell? ⟨ga, 0, none⟩ = some (.int .u32 (s.R 0)) := ((Ya (Q6.out.get 1 rfl) 0).trans (St.cR _ 0 (by decide))).trans (by rw [hC 0 (by decide)])
  have dC1 : w30.cell? ⟨ga, 1, none⟩ = some (.int .u32 (s.R 1)) := ((Ya (Q6.out.get 1 rfl) 1).trans (St.cR _ 1 (by decide))).trans (by rw [hC 1 (by decide)])
  have dC2 : w30.cell? ⟨ga, 2, none⟩ = some (.int .u32 (s.R 2)) := ((Ya (Q6.out.get 1 rfl) 2).trans (St.cR _ 2 (by decide))).trans (by rw [hC 2 (by decide)])
  have dC3 : w30.cell? ⟨ga, 3, none⟩ = some (.int .u32 (s.R 3)) := ((Ya (Q6.out.get 1 rfl) 3).trans (St.cR _ 3 (by decide))).trans (by rw [hC 3 (by decide)])
  have dC4 : w30.cell? ⟨ga, 4, none⟩ = some (.int .u32 (s.R 4)) := ((Ya (Q6.out.get 1 rfl) 4).trans (St.cR _ 4 (by decide))).trans (by rw [hC 4 (by decide)])
  have dC5 : w30.cell? ⟨ga, 5, none⟩ = some (.int .u32 (s.R 5)) := ((Ya (Q6.out.get 1 rfl) 5).trans (St.cR _ 5 (by decide))).trans (by rw [hC 5 (by decide)])
  have dC6 : w30.cell? ⟨ga, 6, none⟩ = some (.int .u32 (s.R 6)) := ((Ya (Q6.out.get 1 rfl) 6).trans (St.cR _ 6 (by decide))).trans (by rw [hC 6 (by decide)])
  have dC7 : w30.cell? ⟨ga, 7, none⟩ = some (.int .u32 (s.R 7)) := ((Ya (Q6.out.get 1 rfl) 7).trans (St.cR _ 7 (by decide))).trans (by rw [hC 7 (by decide)])
  clear hC
  go_wp2_with fail
  go_ret
  exact ⟨rfl, Q6.out.u⟩
 ·have dC0 : w30.cell? ⟨ga, 0, none⟩ = some (.int .u32 (s.R 0)) := ((Ya (Q6.out.get 1 rfl) 0).trans (St.cR _ 0 (by decide))).trans (by rw [hC 0 (by decide)])
  have dC1 : w30.cell? ⟨ga, 1, none⟩ = some (.int .u32 (s.R 1)) := ((Ya (Q6.out.get 1 rfl) 1).trans (St.cR _ 1 (by decide))).trans (by rw [hC 1 (by decide)])
  have dC2 : w30.cell? ⟨ga, 2, none⟩ = some (.int .u32 (s.R 2)) := ((Ya (Q6.out.get 1 rfl) 2).trans (St.cR _ 2 (by decide))).trans (by rw [hC 2 (by decide)])
  have dC3 : w30.cell? ⟨ga, 3, none⟩ = some (.int .u32 (s.R 3)) := ((Ya (Q6.out.get 1 rfl) 3).trans (St.cR _ 3 (by decide))).trans (by rw [hC 3 (by decide)])
  have dC4 : w30.cell? ⟨ga, 4, none⟩ = some (.int .u32 (s.R 4)) := ((Ya (Q6.out.get 1 rfl) 4).trans (St.cR _ 4 (by decide))).trans (by rw [hC 4 (by decide)])
  have dC5 : w30.cell? ⟨ga, 5, none⟩ = some (.int .u32 (s.R 5)) := ((Ya (Q6.out.get 1 rfl) 5).trans (St.cR _ 5 (by decide))).trans (by rw [hC 5 (by decide)])
  have dC6 : w30.cell? ⟨ga, 6, none⟩ = some (.int .u32 (s.R 6)) := ((Ya (Q6.out.get 1 rfl) 6).trans (St.cR _ 6 (by decide))).trans (by rw [hC 6 (by decide)])
  have dC7 : w30.cell? ⟨ga, 7, none⟩ = some (.int .u32 (s.R 7)) := ((Ya (Q6.out.get 1 rfl) 7).trans (St.cR _ 7 (by decide))).trans (by rw [hC 7 (by decide)])
  clear hC
  have dF1 := Ya (Q6.out.get 2 rfl)
  unfold Ys at dF1
  dsimp only at dF1
  have t1 : True := trivial
  have t2 : True := trivial
  go_wp2_with (first | (have _t := t1; clear _t t1; refine Yr 28 rfl ?_; refine Yv s w20.heap.size rfl _ rfl rfl (Q6.out.get 3 rfl) ?_) | (have _t := t2; clear _t t2; refine Yr 28 rfl ?_; refine Yv s w.heap.size rfl _ rfl rfl (Q6.out.get 6 rfl) ?_))
  go_ret
  exact ⟨rfl, Q6.out.u⟩
 ·have dF1 := Ya (Q6.out.get 2 rfl)
  unfold Ys at dF1
  dsimp only at dF1
  have dH := Ya (Q6.out.get 0 rfl)
  unfold Ys at dH
  dsimp only at dH
  have t1 : True := trivial
  have t2 : True := trivial
  have t3 : True := trivial
  have t4 : True := trivial
  go_wp2_with (first | (have _t := t1; clear _t t1; refine Yr 28 rfl ?_; refine Yv s w20.heap.size rfl _ rfl rfl (Q6.out.get 3 rfl) ?_) | (have _t := t2; clear _t t2; refine Yr 28 rfl ?_; refine Yv s w.heap.size rfl _ rfl rfl (Q6.out.get 6 rfl) ?_) | (have _t := t3; clear _t t3; refine Yr 28 rfl ?_; refine Yv s ga rfl _ rfl rfl (Q6.out.get 1 rfl) ?_) | (have _t := t4; clear _t t4; refine Yr 28 rfl ?_; refine Yv s w.heap.size rfl _ rfl rfl (Q6.out.get 6 rfl) ?_))
  go_ret
  exact ⟨rfl, Q6.out.u⟩
theorem bow_neg (s : St) (r0 o0 v : Int) (w : World) (x y z v2 : Int) (k : Nat) (hr : 0 ≤ r0) (ho0 : 0 ≤ o0) (hv : 0 ≤ v) (hz : r0 % 7 = z) (hy : z + 1 = y) (hx : o0 % 8 = x) (hk : x = k) (hv2 : v % 200 = v2) (ho : #[.int .i64 3, .int .i64 8, .int .i64 12, .int .i64 15, .int .i64 23, .int .i64 9, .int .i64 14, .int .i64 5][k]? = some (Value.int .i64 15)) (S1 C : St) (F1 H : Flt) (k1 k2 : Bool) (M2 : Mem)
  (D1 : ∀ (w : World) (p pb : Nat), Yj w p pb (Ybk y) → Calls Tryz.prog 15 #[.pointer (some ⟨p, 0, none⟩), .agg s.cells, .agg (boI 15 Opd.none).cells] w fun e w' => e = .returned (.tuple #[.agg (St.cells S1), F1.val, .bool k1]) ∧ Yj w' p pb M2 ∧ Upd [pb] w w')
  (D2 : ∀ (w : World) (p pb : Nat), Yj w p pb M2 → Calls Tryz.prog 15 #[.pointer (some ⟨p, 0, none⟩), .agg s.cells, .agg (Ins.cells ⟨10, 0, ⟨3, 0, 8, -1, -1, 1⟩, ⟨2, 0, v, 0, 0, 0⟩, false, 10⟩)] w fun e w' => e = .returned (.tuple #[.agg (St.cells C), H.val, .bool k2]) ∧ Yj w' p pb M2 ∧ Upd [pb] w w')
  (hfin : (bits .and .i64 y 3 = 3 ∧ bits .and .i64 y 1 = 1 ∧ k1 = true ∧ k2 = true ∧ ∀ i, i < 8 → C.R i = s.R i) ∨
   (bits .and .i64 y 3 = 1 ∧ bits .and .i64 y 1 = 1 ∧ k1 = false ∧ k2 = true ∧ s = S1 ∧ F1 = ⟨1, s.pc, 8, 2⟩ ∧ ∀ i, i < 8 → C.R i = s.R i) ∨
   (∃ b, bits .and .i64 y 3 = b ∧ bits .and .i64 y 1 = 0 ∧ (b == 3) = false ∧ k1 = false ∧ k2 = false ∧ s = S1 ∧ s = C ∧ F1 = ⟨1, s.pc, 8, 1⟩ ∧ H = ⟨1, s.pc, 8, 1⟩)) :
  Calls Tryz.prog 9 #[.agg s.cells, .int .u8 r0, .int .u8 o0, .int .u32 v] w fun e w' => e = .returned (.bool true) ∧ Upd [] w w' := by
 have e3 : r0.tmod 7 = z := by rw [Int.tmod_eq_emod_of_nonneg hr]; exact hz
 have e4 : o0.tmod 8 = x := by rw [Int.tmod_eq_emod_of_nonneg ho0]; exact hx
 have e5 : v.tmod 200 = v2 := by rw [Int.tmod_eq_emod_of_nonneg hv]; exact hv2
 have e6 : wrap64 z = z := by unfold wrap64; omega
 have e7 : wrap64 (z + 1) = y := by unfold wrap64; omega
 have e10 : x.toNat = k := by omega
 have b1 : 0 ≤ x ∧ x < 8 := by omega
 have HY := Yh_ (And.intro (Yja y (by omega)) trivial)
 have HO := Yh_ ho
 have HD1 := Yh_ D1
 have HD2 := Yh_ D2
 have HF := Yh_ hfin
 clear hr ho0 hv hz hy hx hk hv2 ho D1 D2 hfin
 have tok : True := trivial
 go_enter Tryz.func9, Tryz.ntmps9
 go_upto_region 8 with (first | (have _t := tok; clear _t; go_at_call 12; refine (Ye2 _).mono ?_; rintro e w0 ⟨rfl, hu0⟩; clear tok) | (have _t := hu0; clear _t; go_at_call 13; refine (Ygs _).mono ?_; rintro e w1 ⟨p, pb, rfl, ha, hp, hM1, hu1⟩; have K0 := Yh_ (show Kn w p pb Mem.zero [(w.heap.size, .cells (St.cells s) 28 (0, 0))] w1 from Kn.start1 hu0 ha hp hM1 hu1); clear hu0 hu1 ha hp hM1) | (have _t := K0; clear _t; go_at_call 14; refine (Ygr Mem.zero p pb 0 1 y _ K0.out.m (by decide)).mono ?_; rintro e w11 ⟨rfl, hm, hu⟩; rw [show Mem.zero.mapB 0 1 y = true from HY.out.1, Yeu]; have K1 := Yh_ (show Kn w p pb (Ybk y) [(w.heap.size, .cells (St.cells s) 28 (0, 0))] w11 from K0.out.step hm hu); clear hm hu K0 ))
 have Q0 := Yh_ (((Kq.of K1.out).quiet ((Upd.refl [] w11).alloc (.cells #[.int .i64 3, .int .i64 8, .int .i64 12, .int .i64 15, .int .i64 23, .int .i64 9, .int .i64 14, .int .i64 5] 55))).add K1.out.u.size ⟨fun q hq => Nat.ne_of_lt ((Kq.of K1.out).lts.1 q hq), Nat.ne_of_gt (Kq.of K1.out).lts.2.2, Nat.ne_of_gt (Kq.of K1.out).lts.2.1⟩ (heap_alloc_new w11 (.cells #[.int .i64 3, .int .i64 8, .int .i64 12, .int .i64 15, .int .i64 23, .int .i64 9, .int .i64 14, .int .i64 5] 55)))
 clear K1 
 refine Yaz 10 (Kx w p pb (Ybk y) [(w11.heap.size, .cells #[.int .i64 3, .int .i64 8, .int .i64 12, .int .i64 15, .int .i64 23, .int .i64 9, .int .i64 14, .int .i64 5] 55 (0, 0)), (w.heap.size, .cells (St.cells s) 28 (0, 0))] _ 9) (fun _ _ => False) (by kernel_rfl) (by decide +kernel) (fun r0 => Kx.start Q0.out 9 r0) (fun _ _ _ h => h.elim) ?_
 simp only [List.take_succ_cons, List.take_zero, List.drop_succ_cons, List.drop_zero]
 apply Yd rfl rfl
 ·intro dn r0 K hd hdep hK w5 hB1
  have HB := Yh_ hB1
  clear hB1 hdep
  skip
  go_wp2_with fail
  first
  |exact hK _ (HB.out.same 0 (by decide))
  |exact (HB.out.same 0 (by decide))
 ·exact ⟨_, rfl⟩
 apply Yd rfl rfl
 ·intro dn r0 K hd hdep hK w5 hB1
  have HB := Yh_ hB1
  clear hB1 hdep
  skip
  go_wp2_with fail
  first
  |exact hK _ (HB.out.same 1 (by decide))
  |exact (HB.out.same 1 (by decide))
 ·exact ⟨_, rfl⟩
 apply Yd rfl rfl
 ·intro dn r0 K hd hdep hK w5 hB1
  have HB := Yh_ hB1
  clear hB1 hdep
  have dk : w5.cell? ⟨w11.heap.size, k, none⟩ = some (.int .i64 15) := (Ya (HB.out.k.get 0 rfl) k).trans HO.out
  go_wp2_with fail
  first
  |exact hK _ (HB.out.same 2 (by decide))
  |exact (HB.out.same 2 (by decide))
 ·exact ⟨_, rfl⟩
 apply Yd rfl rfl
 ·intro dn r0 K hd hdep hK w5 hB1
  have HB := Yh_ hB1
  clear hB1 hdep
  have dk : w5.cell? ⟨w11.heap.size, k, none⟩ = some (.int .i64 15) := (Ya (HB.out.k.get 0 rfl) k).trans HO.out
  go_wp2_with fail
  first
  |exact hK _ (HB.out.same 3 (by decide))
  |exact (HB.out.same 3 (by decide))
 ·exact ⟨_, rfl⟩
 apply Yd rfl rfl
 ·intro dn r0 K hd hdep hK w5 hB1
  have HB := Yh_ hB1
  clear hB1 hdep
  skip
  go_wp2_with (go_at_call 17; refine (Ydt _ _).mono ?_; rintro e w6 ⟨rfl, hu⟩)
  first
  |exact hK _ (HB.out.quiet hu 4 (by decide))
  |exact (HB.out.quiet hu 4 (by decide))
 ·exact ⟨_, rfl⟩
 apply Yd rfl rfl
 ·intro dn r0 K hd hdep hK w5 hB1
  have HB := Yh_ hB1
  clear hB1 hdep
  skip
  go_wp2_with fail
  first
  |exact hK _ (HB.out.same 5 (by decide))
  |exact (HB.out.same 5 (by decide))
 ·exact ⟨_, rfl⟩
 apply Yd rfl rfl
 ·intro dn r0 K hd hdep hK w5 hB1
  have HB := Yh_ hB1
  clear hB1 hdep
  skip
  go_wp2_with fail
  first
  |exact hK _ (HB.out.same 6 (by decide))
  |exact (HB.out.same 6 (by decide))
 ·exact ⟨_, rfl⟩
 apply Yd rfl rfl
 ·intro dn r0 K hd hdep hK w5 hB1
  have HB := Yh_ hB1
  clear hB1 hdep
  skip
  go_wp2_with (go_at_call 18; refine (Ydz _ _).mono ?_; rintro e w6 ⟨rfl, hu⟩)
  first
  |exact hK _ (HB.out.quiet hu 7 (by decide))
  |exact (HB.out.quiet hu 7 (by decide))
 ·exact ⟨_, rfl⟩
 apply Yd rfl rfl
 ·intro dn r0 K hd hdep hK w5 hB1
  have HB := Yh_ hB1
  clear hB1 hdep
  skip
  go_wp2_with fail
  first
  |exact hK _ (HB.out.same 8 (by decide))
  |exact (HB.out.same 8 (by decide))
 ·exact ⟨_, rfl⟩
 refine Yak rfl (fun _ => rfl) 12 rfl (by simp [Act.put]) ?_ ?_
 ·intro dn r0 K hd w5 hB1 hK
  have HB := Yh_ hB1
  clear hB1
  simp only [Yn]
  go_wp2_with fail
  first
  |exact hK (.pointer (some ⟨w5.heap.size, 0, none⟩)) _ HB.out.lay
  |exact HB.out.lay
 refine Yar (fun _ r0 w13 dn hall hB2 => ?_)
 obtain ⟨g12, e1, hK⟩ := hB2.fin (hall 9 (by decide))
 have Q1 := Yh_ hK
 show wpList _ _ _ _ (Act.put (Yn _ _ [] _) (some 12) (r0 9)) _
 rw [e1]
 simp only [Yn]
 clear e1 hK hall hB2 Q0
 have ts : True := trivial
 go_upto_region 9 with (have _t := ts; clear _t; refine Ye 41 rfl ?_; refine Yc (boI 15 ⟨2, 0, v2, 0, 0, 0⟩) g12 rfl _ _ rfl rfl rfl (Q1.out.get 0 rfl) rfl ?_; intro w14 hw; have Q2 := Yh_ (show Kq w p pb (Ybk y) [(g12, .cells (boI 15 ⟨2, 0, v2, 0, 0, 0⟩).cells 41 (0, 0)), (w11.heap.size, .cells #[.int .i64 3, .int .i64 8, .int .i64 12, .int .i64 15, .int .i64 23, .int .i64 9, .int .i64 14, .int .i64 5] 55 (0, 0)), (w.heap.size, .cells (St.cells s) 28 (0, 0))] w14 from Q1.out.putI 0 rfl rfl hw); clear hw Q1 ts)
 have dI : w14.cell? ⟨g12, 0, none⟩ = some (.int .i64 15) := Ya (Q2.out.get 0 rfl) 0
 have dF := Yg (Q2.out.get 0 rfl)
 go_upto_region 11 with (have _t := Q2; clear _t; refine Ye 39 rfl ?_; refine Yu Opd.none g12 8 rfl _ _ rfl rfl rfl (Q2.out.get 0 rfl) (by show 8 + 6 ≤ 16; decide) ?_; intro w15 hw; have Q3 := Yh_ (show Kq w p pb (Ybk y) [(g12, .cells (boI 15 Opd.none).cells 41 (0, 0)), (w11.heap.size, .cells #[.int .i64 3, .int .i64 8, .int .i64 12, .int .i64 15, .int .i64 23, .int .i64 9, .int .i64 14, .int .i64 5] 55 (0, 0)), (w.heap.size, .cells (St.cells s) 28 (0, 0))] w15 from Q2.out.putB 0 rfl hw); clear hw Q2)
 clear dI dF
 have tl : True := trivial
 have ti : True := trivial
 have td : True := trivial
 go_upto_region 12 with (first | (have _t := tl; clear _t tl; refine Yr 28 rfl ?_; refine Yy s w.heap.size rfl _ rfl rfl (Q3.out.get 2 rfl) ?_) | (have _t := ti; clear _t ti; refine Yr 41 rfl ?_; refine Yan (boI 15 Opd.none) g12 rfl _ rfl rfl (Q3.out.get 0 rfl) ?_) | (have _t := td; clear _t td; go_at_call 15; refine (HD1.out _ p pb Q3.out.m).mono ?_; rintro e w20 ⟨rfl, hm, hu⟩; unfold Flt.val; have Q4 := Yh_ (show Kq w p pb M2 [(g12, .cells (boI 15 Opd.none).cells 41 (0, 0)), (w11.heap.size, .cells #[.int .i64 3, .int .i64 8, .int .i64 12, .int .i64 15, .int .i64 23, .int .i64 9, .int .i64 14, .int .i64 5] 55 (0, 0)), (w.heap.size, .cells (St.cells s) 28 (0, 0))] w20 from Q3.out.step hm hu); clear hm hu Q3) | (have _t := Q4; clear _t; refine Ye 28 rfl ?_; refine Yap S1 w20.heap.size rfl _ _ rfl rfl rfl (heap_alloc2_old w20 (.cells St.zero.cells 28) (.cells #[.int .i64 0, .int .u32 0, .int .u32 0, .int .i64 0] 35)) rfl ?_; intro w21 hw; have h2 := Ye9 hw; have h3 := Q4.out.two (F := F1) h2; have ft := Yg h2.2.1; have ct := Ya h2.2.1; have Q5 := Yh_ h3; clear hw h2 h3 Q4))
 try clear ft ct
 refine Yaz 16 (Kd w p pb M2 M2 [((w20.heap.size + 1), .cells (Ys F1) 35 (0, 0)), (w20.heap.size, .cells (St.cells S1) 28 (0, 0)), (g12, .cells (boI 15 Opd.none).cells 41 (0, 0)), (w11.heap.size, .cells #[.int .i64 3, .int .i64 8, .int .i64 12, .int .i64 15, .int .i64 23, .int .i64 9, .int .i64 14, .int .i64 5] 55 (0, 0)), (w.heap.size, .cells (St.cells s) 28 (0, 0))] _ C H 6 11 12 13 14) (fun _ _ => False) (by kernel_rfl) (by decide +kernel) (fun r0 => Kd.start Q5.out M2 C H 6 11 12 13 14 r0) (fun _ _ _ h => h.elim) ?_
 simp only [List.take_succ_cons, List.take_zero, List.drop_succ_cons, List.drop_zero]
 apply Yd rfl rfl
 ·intro dn r0 K hd hdep hK w5 hB1
  skip
  skip
  have HB := Yh_ hB1
  clear hB1 hdep
  go_wp2_with fail
  first
  |exact hK _ (HB.out.same _ (by decide) (by decide) (by decide) (by decide) (by decide))
  |exact (HB.out.same _ (by decide) (by decide) (by decide) (by decide) (by decide))
 ·exact ⟨_, rfl⟩
 apply Yd rfl rfl
 ·intro dn r0 K hd hdep hK w5 hB1
  refine Ybr s _ _ rfl rfl (hB1.k.get 4 rfl) ?_
  exact hK _ (hB1.same _ (by decide) (by decide) (by decide) (by decide) (by decide))
 ·exact ⟨_, rfl⟩
 apply Yd rfl rfl
 ·intro dn r0 K hd hdep hK w5 hB1
  skip
  skip
  have HB := Yh_ hB1
  clear hB1 hdep
  go_wp2_with (go_at_call 17; refine (Ydt _ _).mono ?_; rintro e w6 ⟨rfl, hu⟩)
  first
  |exact hK _ (HB.out.quiet hu _ (by decide) (by decide) (by decide) (by decide) (by decide))
  |exact (HB.out.quiet hu _ (by decide) (by decide) (by decide) (by decide) (by decide))
 ·exact ⟨_, rfl⟩
 apply Yd rfl rfl
 ·intro dn r0 K hd hdep hK w5 hB1
  skip
  skip
  have HB := Yh_ hB1
  clear hB1 hdep
  go_wp2_with fail
  first
  |exact hK _ (HB.out.same _ (by decide) (by decide) (by decide) (by decide) (by decide))
  |exact (HB.out.same _ (by decide) (by decide) (by decide) (by decide) (by decide))
 ·exact ⟨_, rfl⟩
 apply Yd rfl rfl
 ·intro dn r0 K hd hdep hK w5 hB1
  skip
  skip
  have HB := Yh_ hB1
  clear hB1 hdep
  go_wp2_with (go_at_call 18; refine (Ydz _ _).mono ?_; rintro e w6 ⟨rfl, hu⟩)
  first
  |exact hK _ (HB.out.quiet hu _ (by decide) (by decide) (by decide) (by decide) (by decide))
  |exact (HB.out.quiet hu _ (by decide) (by decide) (by decide) (by decide) (by decide))
 ·exact ⟨_, rfl⟩
 apply Yd rfl rfl
 ·intro dn r0 K hd hdep hK w5 hB1
  skip
  skip
  have HB := Yh_ hB1
  clear hB1 hdep
  go_wp2_with fail
  first
  |exact hK _ (HB.out.same _ (by decide) (by decide) (by decide) (by decide) (by decide))
  |exact (HB.out.same _ (by decide) (by decide) (by decide) (by decide) (by decide))
 ·exact ⟨_, rfl⟩
 apply Yd rfl rfl
 ·intro dn r0 K hd hdep hK w5 hB1
  have HD := Yh_ hd
  skip
  have HB := Yh_ hB1
  clear hB1 hdep
  go_wp2_with (go_at_call 15; have hm0 := HB.out.k.m; rw [HD.out] at hm0; refine (HD2.out _ p pb hm0).mono ?_; rintro e w6 ⟨rfl, hm6, hu6⟩; unfold Flt.val)
  first
  |exact hK _ (HB.out.call hm6 hu6 (by decide) (by decide) (by decide) (by decide))
  |exact (HB.out.call hm6 hu6 (by decide) (by decide) (by decide) (by decide))
 ·exact ⟨_, rfl⟩
 apply Yd rfl rfl
 ·intro dn r0 K hd hdep hK w5 hB1
  skip
  skip
  have HB := Yh_ hB1
  clear hB1 hdep
  go_wp2_with fail
  first
  |exact hK _ (HB.out.same _ (by decide) (by decide) (by decide) (by decide) (by decide))
  |exact (HB.out.same _ (by decide) (by decide) (by decide) (by decide) (by decide))
 ·exact ⟨_, rfl⟩
 apply Yd rfl rfl
 ·intro dn r0 K hd hdep hK w5 hB1
  skip
  skip
  have HB := Yh_ hB1
  clear hB1 hdep
  go_wp2_with fail
  first
  |exact hK _ (HB.out.same _ (by decide) (by decide) (by decide) (by decide) (by decide))
  |exact (HB.out.same _ (by decide) (by decide) (by decide) (by decide) (by decide))
 ·exact ⟨_, rfl⟩
 apply Yd rfl rfl
 ·intro dn r0 K hd hdep hK w5 hB1
  skip
  skip
  have HB := Yh_ hB1
  clear hB1 hdep
  go_wp2_with fail
  first
  |exact hK _ (HB.out.same _ (by decide) (by decide) (by decide) (by decide) (by decide))
  |exact (HB.out.same _ (by decide) (by decide) (by decide) (by decide) (by decide))
 ·exact ⟨_, rfl⟩
 apply Yd rfl rfl
 ·intro dn r0 K hd hdep hK w5 hB1
  skip
  skip
  have HB := Yh_ hB1
  clear hB1 hdep
  go_wp2_with fail
  first
  |exact hK _ (HB.out.same _ (by decide) (by decide) (by decide) (by decide) (by decide))
  |exact (HB.out.same _ (by decide) (by decide) (by decide) (by decide) (by decide))
 ·exact ⟨_, rfl⟩
 refine Yak rfl (fun _ => rfl) 16 rfl (by simp [Act.put]) ?_ ?_
 ·intro dn r0 K hd w5 hB1 hK
  have HB := Yh_ hB1
  clear hB1
  simp only [Yn]
  go_wp2_with fail
  first
  |exact hK (.pointer (some ⟨w5.heap.size, 0, none⟩)) _ (HB.out.layS hd (by decide) (by decide) (by decide) (by decide))
  |exact HB.out.layS hd (by decide) (by decide) (by decide) (by decide)
 refine Yak rfl (fun _ => rfl) 17 rfl (by simp [Act.put]) ?_ ?_
 ·intro dn r0 K hd w5 hB1 hK
  have HB := Yh_ hB1
  clear hB1
  simp only [Yn]
  go_wp2_with fail
  first
  |exact hK (.pointer (some ⟨w5.heap.size, 0, none⟩)) _ (HB.out.layF hd (by decide) (by decide) (by decide) (by decide))
  |exact HB.out.layF hd (by decide) (by decide) (by decide) (by decide)
 apply Ya4 rfl (fun _ => rfl)
 ·intro dn r0 K hd hdep hK w5 hB1
  have h8 : dn 11 = true := hdep ⟨11, .data⟩ (by simp) rfl
  obtain ⟨g0, e1, e2, e3⟩ := hB1.x h8
  refine Yb2 C g0 _ _ rfl (by show r0 11 = _; exact e1) rfl e3 (by cases dn 13 <;> rfl) ?_
  intro w6 hw; rw [← hw]
  exact hK _ (hB1.putS h8 e1 (by decide) (by decide) (by decide) (by decide))
 ·exact ⟨undef, fun _ => rfl, Eq.symm (by go_simp; exact rfl)⟩
 apply Ya4 rfl (fun _ => rfl)
 ·intro dn r0 K hd hdep hK w5 hB1
  have h8 : dn 12 = true := hdep ⟨12, .data⟩ (by simp) rfl
  obtain ⟨g0, e1, e2, e3⟩ := hB1.y h8
  refine Yby H (cond (dn 14) H Flt.zero) g0 _ _ rfl (by show r0 12 = _; exact e1) rfl (by rw [e3]; cases dn 14 <;> rfl) ?_
  skip
  exact hK _ (hB1.putF h8 e1 (by decide) (by decide) (by decide) (by decide))
 ·exact ⟨undef, fun _ => rfl, Eq.symm (by go_simp; exact rfl)⟩
 apply Ya4 rfl (fun _ => rfl)
 ·intro dn r0 K hd hdep hK w5 hB1
  skip
  skip
  have HB := Yh_ hB1
  clear hB1 hdep
  simp only [Yn]
  go_wp2_with fail
  first
  |exact hK _ (HB.out.same _ (by decide) (by decide) (by decide) (by decide) (by decide))
  |exact (HB.out.same _ (by decide) (by decide) (by decide) (by decide) (by decide))
 ·exact ⟨_, fun _ => rfl, Eq.symm (by go_simp; exact rfl)⟩
 refine Yar (fun _ r0 w30 dn hall hB2 => ?_)
 obtain ⟨ga, gb, e1, e2, hK⟩ := hB2.fin (hall 6 (by decide)) (hall 11 (by decide)) (hall 12 (by decide)) (hall 13 (by decide)) (hall 14 (by decide))
 have Q6 := Yh_ hK
 show wpList _ _ _ _ (Act.put (Act.put (Yn _ _ [] _) (some 16) (r0 11)) (some 17) (r0 12)) _
 rw [e1, e2]
 simp only [Yn]
 clear e1 e2 hK hall hB2 Q5
 have dP : w30.cell? ⟨w.heap.size, 8, none⟩ = some (.int .u32 s.pc) := Ya (Q6.out.get 6 rfl) 8
 have dR0 : w30.cell? ⟨w.heap.size, 0, none⟩ = some (.int .u32 (s.R 0)) := Ya (Q6.out.get 6 rfl) 0
 have dR1 : w30.cell? ⟨w.heap.size, 1, none⟩ = some (.int .u32 (s.R 1)) := Ya (Q6.out.get 6 rfl) 1
 have dR2 : w30.cell? ⟨w.heap.size, 2, none⟩ = some (.int .u32 (s.R 2)) := Ya (Q6.out.get 6 rfl) 2
 have dR3 : w30.cell? ⟨w.heap.size, 3, none⟩ = some (.int .u32 (s.R 3)) := Ya (Q6.out.get 6 rfl) 3
 have dR4 : w30.cell? ⟨w.heap.size, 4, none⟩ = some (.int .u32 (s.R 4)) := Ya (Q6.out.get 6 rfl) 4
 have dR5 : w30.cell? ⟨w.heap.size, 5, none⟩ = some (.int .u32 (s.R 5)) := Ya (Q6.out.get 6 rfl) 5
 have dR6 : w30.cell? ⟨w.heap.size, 6, none⟩ = some (.int .u32 (s.R 6)) := Ya (Q6.out.get 6 rfl) 6
 have dR7 : w30.cell? ⟨w.heap.size, 7, none⟩ = some (.int .u32 (s.R 7)) := Ya (Q6.out.get 6 rfl) 7
 have hq := Yge s
 have he := Yga s
 have hER := Ygj s
 rcases HF.out with ⟨m1, m2, rfl, rfl, hC⟩ | ⟨m1, m2, rfl, rfl, rfl, rfl, hC⟩ | ⟨b3, m1, m2, m3, rfl, rfl, rfl, rfl, rfl, rfl⟩
 ·have dC0 : w30.cell? ⟨ga, 0, none⟩ = some (.int .u32 (s.R 0)) := ((Ya (Q6.out.get 1 rfl) 0).trans (St.cR _ 0 (by decide))).trans (by rw [hC 0 (by decide)])
  have dC1 : w30.cell? ⟨ga, 1, none⟩ = some (.int .u32 (s.R 1)) := ((Ya (Q6.out.get 1 rfl) 1).trans (St.cR _ 1 (by decide))).trans (by rw [hC 1 (by decide)])
  have dC2 : w30.cell? ⟨ga, 2, none⟩ = some (.int .u32 (s.R 2)) := ((Ya (Q6.out.get 1 rfl) 2).trans (St.cR _ 2 (by decide))).trans (by rw [hC 2 (by decide)])
  have dC3 : w30.cell? ⟨ga, 3, none⟩ = some (.int .u32 (s.R 3)) := ((Ya (Q6.out.get 1 rfl) 3).trans (St.cR _ 3 (by decide))).trans (by rw [hC 3 (by decide)])
  have dC4 : w30.cell? ⟨ga, 4, none⟩ = some (.int .u32 (s.R 4)) := ((Ya (Q6.out.get 1 rfl) 4).trans (St.cR _ 4 (by decide))).trans (by rw [hC 4 (by decide)])
  have dC5 : w30.cell? ⟨ga, 5, none⟩ = some (.int .u32 (s.R 5)) := ((Ya (Q6.out.get 1 rfl) 5).trans (St.cR _ 5 (by decide))).trans (by rw [hC 5 (by decide)])
  have dC6 : w30.cell? ⟨ga, 6, none⟩ = some (.int .u32 (s.R 6)) := ((Ya (Q6.out.get 1 rfl) 6).trans (St.cR _ 6 (by decide))).trans (by rw [hC 6 (by decide)])
  have dC7 : w30.cell? ⟨ga, 7, none⟩ = some (.int .u32 (s.R 7)) := ((Ya (Q6.out.get 1 rfl) 7).trans (St.cR _ 7 (by decide))).trans (by rw [hC 7 (by decide)])
  clear hC
  go_wp2_with fail
  go_ret
  exact ⟨rfl, Q6.out.u⟩
 ·have dC0 : w30.cell? ⟨ga, 0, none⟩ = some (.int .u32 (s.R 0)) := ((Ya (Q6.out.get 1 rfl) 0).trans (St.cR _ 0 (by decide))).trans (by rw [hC 0 (by decide)])
  have dC1 : w30.cell? ⟨ga, 1, none⟩ = some (.int .u32 (s.R 1)) := ((Ya (Q6.out.get 1 rfl) 1).trans (St.cR _ 1 (by decide))).trans (by rw [hC 1 (by decide)])
  have dC2 : w30.cell? ⟨ga, 2, none⟩ = some (.int .u32 (s.R 2)) := ((Ya (Q6.out.get 1 rfl) 2).trans (St.cR _ 2 (by decide))).trans (by rw [hC 2 (by decide)])
  have dC3 : w30.cell? ⟨ga, 3, none⟩ = some (.int .u32 (s.R 3)) := ((Ya (Q6.out.get 1 rfl) 3).trans (St.cR _ 3 (by decide))).trans (by rw [hC 3 (by decide)])
  have dC4 : w30.cell? ⟨ga, 4, none⟩ = some (.int .u32 (s.R 4)) := ((Ya (Q6.out.get 1 rfl) 4).trans (St.cR _ 4 (by decide))).trans (by rw [hC 4 (by decide)])
  have dC5 : w30.cell? ⟨ga, 5, none⟩ = some (.int .u32 (s.R 5)) := ((Ya (Q6.out.get 1 rfl) 5).trans (St.cR _ 5 (by decide))).trans (by rw [hC 5 (by decide)])
  have dC6 : w30.cell? ⟨ga, 6, none⟩ = some (.int .u32 (s.R 6)) := ((Ya (Q6.out.get 1 rfl) 6).trans (St.cR _ 6 (by decide))).trans (by rw [hC 6 (by decide)])
  have dC7 : w30.cell? ⟨ga, 7, none⟩ = some (.int .u32 (s.R 7)) := ((Ya (Q6.out.get 1 rfl) 7).trans (St.cR _ 7 (by decide))).trans (by rw [hC 7 (by decide)])
  clear hC
  have dF1 := Ya (Q6.out.get 2 rfl)
  unfold Ys at dF1
  dsimp only at dF1
  have t1 : True := trivial
  have t2 : True := trivial
  go_wp2_with (first | (have _t := t1; clear _t t1; refine Yr 28 rfl ?_; refine Yv s w20.heap.size rfl _ rfl rfl (Q6.out.get 3 rfl) ?_) | (have _t := t2; clear _t t2; refine Yr 28 rfl ?_; refine Yv s w.heap.size rfl _ rfl rfl (Q6.out.get 6 rfl) ?_))
  go_ret
  exact ⟨rfl, Q6.out.u⟩
 ·have dF1 := Ya (Q6.out.get 2 rfl)
  unfold Ys at dF1
  dsimp only at dF1
  have dH := Ya (Q6.out.get 0 rfl)
  unfold Ys at dH
  dsimp only at dH
  have t1 : True := trivial
  have t2 : True := trivial
  have t3 : True := trivial
  have t4 : True := trivial
  go_wp2_with (first | (have _t := t1; clear _t t1; refine Yr 28 rfl ?_; refine Yv s w20.heap.size rfl _ rfl rfl (Q6.out.get 3 rfl) ?_) | (have _t := t2; clear _t t2; refine Yr 28 rfl ?_; refine Yv s w.heap.size rfl _ rfl rfl (Q6.out.get 6 rfl) ?_) | (have _t := t3; clear _t t3; refine Yr 28 rfl ?_; refine Yv s ga rfl _ rfl rfl (Q6.out.get 1 rfl) ?_) | (have _t := t4; clear _t t4; refine Yr 28 rfl ?_; refine Yv s w.heap.size rfl _ rfl rfl (Q6.out.get 6 rfl) ?_))
  go_ret
  exact ⟨rfl, Q6.out.u⟩
theorem bow_not (s : St) (r0 o0 v : Int) (w : World) (x y z v2 : Int) (k : Nat) (hr : 0 ≤ r0) (ho0 : 0 ≤ o0) (hv : 0 ≤ v) (hz : r0 % 7 = z) (hy : z + 1 = y) (hx : o0 % 8 = x) (hk : x = k) (hv2 : v % 200 = v2) (ho : #[.int .i64 3, .int .i64 8, .int .i64 12, .int .i64 15, .int .i64 23, .int .i64 9, .int .i64 14, .int .i64 5][k]? = some (Value.int .i64 14)) (S1 C : St) (F1 H : Flt) (k1 k2 : Bool) (M2 : Mem)
  (D1 : ∀ (w : World) (p pb : Nat), Yj w p pb (Ybk y) → Calls Tryz.prog 15 #[.pointer (some ⟨p, 0, none⟩), .agg s.cells, .agg (boI 14 Opd.none).cells] w fun e w' => e = .returned (.tuple #[.agg (St.cells S1), F1.val, .bool k1]) ∧ Yj w' p pb M2 ∧ Upd [pb] w w')
  (D2 : ∀ (w : World) (p pb : Nat), Yj w p pb M2 → Calls Tryz.prog 15 #[.pointer (some ⟨p, 0, none⟩), .agg s.cells, .agg (Ins.cells ⟨10, 0, ⟨3, 0, 8, -1, -1, 1⟩, ⟨2, 0, v, 0, 0, 0⟩, false, 10⟩)] w fun e w' => e = .returned (.tuple #[.agg (St.cells C), H.val, .bool k2]) ∧ Yj w' p pb M2 ∧ Upd [pb] w w')
  (hfin : (bits .and .i64 y 3 = 3 ∧ bits .and .i64 y 1 = 1 ∧ k1 = true ∧ k2 = true ∧ ∀ i, i < 8 → C.R i = s.R i) ∨
   (bits .and .i64 y 3 = 1 ∧ bits .and .i64 y 1 = 1 ∧ k1 = false ∧ k2 = true ∧ s = S1 ∧ F1 = ⟨1, s.pc, 8, 2⟩ ∧ ∀ i, i < 8 → C.R i = s.R i) ∨
   (∃ b, bits .and .i64 y 3 = b ∧ bits .and .i64 y 1 = 0 ∧ (b == 3) = false ∧ k1 = false ∧ k2 = false ∧ s = S1 ∧ s = C ∧ F1 = ⟨1, s.pc, 8, 1⟩ ∧ H = ⟨1, s.pc, 8, 1⟩)) :
  Calls Tryz.prog 9 #[.agg s.cells, .int .u8 r0, .int .u8 o0, .int .u32 v] w fun e w' => e = .returned (.bool true) ∧ Upd [] w w' := by
 have e3 : r0.tmod 7 = z := by rw [Int.tmod_eq_emod_of_nonneg hr]; exact hz
 have e4 : o0.tmod 8 = x := by rw [Int.tmod_eq_emod_of_nonneg ho0]; exact hx
 have e5 : v.tmod 200 = v2 := by rw [Int.tmod_eq_emod_of_nonneg hv]; exact hv2
 have e6 : wrap64 z = z := by unfold wrap64; omega
 have e7 : wrap64 (z + 1) = y := by unfold wrap64; omega
 have e10 : x.toNat = k := by omega
 have b1 : 0 ≤ x ∧ x < 8 := by omega
 have HY := Yh_ (And.intro (Yja y (by omega)) trivial)
 have HO := Yh_ ho
 have HD1 := Yh_ D1
 have HD2 := Yh_ D2
 have HF := Yh_ hfin
 clear hr ho0 hv hz hy hx hk hv2 ho D1 D2 hfin
 have tok : True := trivial
 go_enter Tryz.func9, Tryz.ntmps9
 go_upto_region 8 with (first | (have _t := tok; clear _t; go_at_call 12; refine (Ye2 _).mono ?_; rintro e w0 ⟨rfl, hu0⟩; clear tok) | (have _t := hu0; clear _t; go_at_call 13; refine (Ygs _).mono ?_; rintro e w1 ⟨p, pb, rfl, ha, hp, hM1, hu1⟩; have K0 := Yh_ (show Kn w p pb Mem.zero [(w.heap.size, .cells (St.cells s) 28 (0, 0))] w1 from Kn.start1 hu0 ha hp hM1 hu1); clear hu0 hu1 ha hp hM1) | (have _t := K0; clear _t; go_at_call 14; refine (Ygr Mem.zero p pb 0 1 y _ K0.out.m (by decide)).mono ?_; rintro e w11 ⟨rfl, hm, hu⟩; rw [show Mem.zero.mapB 0 1 y = true from HY.out.1, Yeu]; have K1 := Yh_ (show Kn w p pb (Ybk y) [(w.heap.size, .cells (St.cells s) 28 (0, 0))] w11 from K0.out.step hm hu); clear hm hu K0 ))
 have Q0 := Yh_ (((Kq.of K1.out).quiet ((Upd.refl [] w11).alloc (.cells #[.int .i64 3, .int .i64 8, .int .i64 12, .int .i64 15, .int .i64 23, .int .i64 9, .int .i64 14, .int .i64 5] 55))).add K1.out.u.size ⟨fun q hq => Nat.ne_of_lt ((Kq.of K1.out).lts.1 q hq), Nat.ne_of_gt (Kq.of K1.out).lts.2.2, Nat.ne_of_gt (Kq.of K1.out).lts.2.1⟩ (heap_alloc_new w11 (.cells #[.int .i64 3, .int .i64 8, .int .i64 12, .int .i64 15, .int .i64 23, .int .i64 9, .int .i64 14, .int .i64 5] 55)))
 clear K1 
 refine Yaz 10 (Kx w p pb (Ybk y) [(w11.heap.size, .cells #[.int .i64 3, .int .i64 8, .int .i64 12, .int .i64 15, .int .i64 23, .int .i64 9, .int .i64 14, .int .i64 5] 55 (0, 0)), (w.heap.size, .cells (St.cells s) 28 (0, 0))] _ 9) (fun _ _ => False) (by kernel_rfl) (by decide +kernel) (fun r0 => Kx.start Q0.out 9 r0) (fun _ _ _ h => h.elim) ?_
 simp only [List.take_succ_cons, List.take_zero, List.drop_succ_cons, List.drop_zero]
 apply Yd rfl rfl
 ·intro dn r0 K hd hdep hK w5 hB1
  have HB := Yh_ hB1
  clear hB1 hdep
  skip
  go_wp2_with fail
  first
  |exact hK _ (HB.out.same 0 (by decide))
  |exact (HB.out.same 0 (by decide))
 ·exact ⟨_, rfl⟩
 apply Yd rfl rfl
 ·intro dn r0 K hd hdep hK w5 hB1
  have HB := Yh_ hB1
  clear hB1 hdep
  skip
  go_wp2_with fail
  first
  |exact hK _ (HB.out.same 1 (by decide))
  |exact (HB.out.same 1 (by decide))
 ·exact ⟨_, rfl⟩
 apply Yd rfl rfl
 ·intro dn r0 K hd hdep hK w5 hB1
  have HB := Yh_ hB1
  clear hB1 hdep
  have dk : w5.cell? ⟨w11.heap.size, k, none⟩ = some (.int .i64 14) := (Ya (HB.out.k.get 0 rfl) k).trans HO.out
  go_wp2_with fail
  first
  |exact hK _ (HB.out.same 2 (by decide))
  |exact (HB.out.same 2 (by decide))
 ·exact ⟨_, rfl⟩
 apply Yd rfl rfl
 ·intro dn r0 K hd hdep hK w5 hB1
  have HB := Yh_ hB1
  clear hB1 hdep
  have dk : w5.cell? ⟨w11.heap.size, k, none⟩ = some (.int .i64 14) := (Ya (HB.out.k.get 0 rfl) k).trans HO.out
  go_wp2_with fail
  first
  |exact hK _ (HB.out.same 3 (by decide))
  |exact (HB.out.same 3 (by decide))
 ·exact ⟨_, rfl⟩
 apply Yd rfl rfl
 ·intro dn r0 K hd hdep hK w5 hB1
  have HB := Yh_ hB1
  clear hB1 hdep
  skip
  go_wp2_with (go_at_call 17; refine (Ydt _ _).mono ?_; rintro e w6 ⟨rfl, hu⟩)
  first
  |exact hK _ (HB.out.quiet hu 4 (by decide))
  |exact (HB.out.quiet hu 4 (by decide))
 ·exact ⟨_, rfl⟩
 apply Yd rfl rfl
 ·intro dn r0 K hd hdep hK w5 hB1
  have HB := Yh_ hB1
  clear hB1 hdep
  skip
  go_wp2_with fail
  first
  |exact hK _ (HB.out.same 5 (by decide))
  |exact (HB.out.same 5 (by decide))
 ·exact ⟨_, rfl⟩
 apply Yd rfl rfl
 ·intro dn r0 K hd hdep hK w5 hB1
  have HB := Yh_ hB1
  clear hB1 hdep
  skip
  go_wp2_with fail
  first
  |exact hK _ (HB.out.same 6 (by decide))
  |exact (HB.out.same 6 (by decide))
 ·exact ⟨_, rfl⟩
 apply Yd rfl rfl
 ·intro dn r0 K hd hdep hK w5 hB1
  have HB := Yh_ hB1
  clear hB1 hdep
  skip
  go_wp2_with (go_at_call 18; refine (Ydz _ _).mono ?_; rintro e w6 ⟨rfl, hu⟩)
  first
  |exact hK _ (HB.out.quiet hu 7 (by decide))
  |exact (HB.out.quiet hu 7 (by decide))
 ·exact ⟨_, rfl⟩
 apply Yd rfl rfl
 ·intro dn r0 K hd hdep hK w5 hB1
  have HB := Yh_ hB1
  clear hB1 hdep
  skip
  go_wp2_with fail
  first
  |exact hK _ (HB.out.same 8 (by decide))
  |exact (HB.out.same 8 (by decide))
 ·exact ⟨_, rfl⟩
 refine Yak rfl (fun _ => rfl) 12 rfl (by simp [Act.put]) ?_ ?_
 ·intro dn r0 K hd w5 hB1 hK
  have HB := Yh_ hB1
  clear hB1
  simp only [Yn]
  go_wp2_with fail
  first
  |exact hK (.pointer (some ⟨w5.heap.size, 0, none⟩)) _ HB.out.lay
  |exact HB.out.lay
 refine Yar (fun _ r0 w13 dn hall hB2 => ?_)
 obtain ⟨g12, e1, hK⟩ := hB2.fin (hall 9 (by decide))
 have Q1 := Yh_ hK
 show wpList _ _ _ _ (Act.put (Yn _ _ [] _) (some 12) (r0 9)) _
 rw [e1]
 simp only [Yn]
 clear e1 hK hall hB2 Q0
 have ts : True := trivial
 go_upto_region 9 with (have _t := ts; clear _t; refine Ye 41 rfl ?_; refine Yc (boI 14 ⟨2, 0, v2, 0, 0, 0⟩) g12 rfl _ _ rfl rfl rfl (Q1.out.get 0 rfl) rfl ?_; intro w14 hw; have Q2 := Yh_ (show Kq w p pb (Ybk y) [(g12, .cells (boI 14 ⟨2, 0, v2, 0, 0, 0⟩).cells 41 (0, 0)), (w11.heap.size, .cells #[.int .i64 3, .int .i64 8, .int .i64 12, .int .i64 15, .int .i64 23, .int .i64 9, .int .i64 14, .int .i64 5] 55 (0, 0)), (w.heap.size, .cells (St.cells s) 28 (0, 0))] w14 from Q1.out.putI 0 rfl rfl hw); clear hw Q1 ts)
 have dI : w14.cell? ⟨g12, 0, none⟩ = some (.int .i64 14) := Ya (Q2.out.get 0 rfl) 0
 have dF := Yg (Q2.out.get 0 rfl)
 go_upto_region 11 with (have _t := Q2; clear _t; refine Ye 39 rfl ?_; refine Yu Opd.none g12 8 rfl _ _ rfl rfl rfl (Q2.out.get 0 rfl) (by show 8 + 6 ≤ 16; decide) ?_; intro w15 hw; have Q3 := Yh_ (show Kq w p pb (Ybk y) [(g12, .cells (boI 14 Opd.none).cells 41 (0, 0)), (w11.heap.size, .cells #[.int .i64 3, .int .i64 8, .int .i64 12, .int .i64 15, .int .i64 23, .int .i64 9, .int .i64 14, .int .i64 5] 55 (0, 0)), (w.heap.size, .cells (St.cells s) 28 (0, 0))] w15 from Q2.out.putB 0 rfl hw); clear hw Q2)
 clear dI dF
 have tl : True := trivial
 have ti : True := trivial
 have td : True := trivial
 go_upto_region 12 with (first | (have _t := tl; clear _t tl; refine Yr 28 rfl ?_; refine Yy s w.heap.size rfl _ rfl rfl (Q3.out.get 2 rfl) ?_) | (have _t := ti; clear _t ti; refine Yr 41 rfl ?_; refine Yan (boI 14 Opd.none) g12 rfl _ rfl rfl (Q3.out.get 0 rfl) ?_) | (have _t := td; clear _t td; go_at_call 15; refine (HD1.out _ p pb Q3.out.m).mono ?_; rintro e w20 ⟨rfl, hm, hu⟩; unfold Flt.val; have Q4 := Yh_ (show Kq w p pb M2 [(g12, .cells (boI 14 Opd.none).cells 41 (0, 0)), (w11.heap.size, .cells #[.int .i64 3, .int .i64 8, .int .i64 12, .int .i64 15, .int .i64 23, .int .i64 9, .int .i64 14, .int .i64 5] 55 (0, 0)), (w.heap.size, .cells (St.cells s) 28 (0, 0))] w20 from Q3.out.step hm hu); clear hm hu Q3) | (have _t := Q4; clear _t; refine Ye 28 rfl ?_; refine Yap S1 w20.heap.size rfl _ _ rfl rfl rfl (heap_alloc2_old w20 (.cells St.zero.cells 28) (.cells #[.int .i64 0, .int .u32 0, .int .u32 0, .int .i64 0] 35)) rfl ?_; intro w21 hw; have h2 := Ye9 hw; have h3 := Q4.out.two (F := F1) h2; have ft := Yg h2.2.1; have ct := Ya h2.2.1; have Q5 := Yh_ h3; clear hw h2 h3 Q4))
 try clear ft ct
 refine Yaz 16 (Kd w p pb M2 M2 [((w20.heap.size + 1), .cells (Ys F1) 35 (0, 0)), (w20.heap.size, .cells (St.cells S1) 28 (0, 0)), (g12, .cells (boI 14 Opd.none).cells 41 (0, 0)), (w11.heap.size, .cells #[.int .i64 3, .int .i64 8, .int .i64 12, .int .i64 15, .int .i64 23, .int .i64 9, .int .i64 14, .int .i64 5] 55 (0, 0)), (w.heap.size, .cells (St.cells s) 28 (0, 0))] _ C H 6 11 12 13 14) (fun _ _ => False) (by kernel_rfl) (by decide +kernel) (fun r0 => Kd.start Q5.out M2 C H 6 11 12 13 14 r0) (fun _ _ _ h => h.elim) ?_
 simp only [List.take_succ_cons, List.take_zero, List.drop_succ_cons, List.drop_zero]
 apply Yd rfl rfl
 ·intro dn r0 K hd hdep hK w5 hB1
  skip
  skip
  have HB := Yh_ hB1
  clear hB1 hdep
  go_wp2_with fail
  first
  |exact hK _ (HB.out.same _ (by decide) (by decide) (by decide) (by decide) (by decide))
  |exact (HB.out.same _ (by decide) (by decide) (by decide) (by decide) (by decide))
 ·exact ⟨_, rfl⟩
 apply Yd rfl rfl
 ·intro dn r0 K hd hdep hK w5 hB1
  refine Ybr s _ _ rfl rfl (hB1.k.get 4 rfl) ?_
  exact hK _ (hB1.same _ (by decide) (by decide) (by decide) (by decide) (by decide))
 ·exact ⟨_, rfl⟩
 apply Yd rfl rfl
 ·intro dn r0 K hd hdep hK w5 hB1
  skip
  skip
  have HB := Yh_ hB1
  clear hB1 hdep
  go_wp2_with (go_at_call 17; refine (Ydt _ _).mono ?_; rintro e w6 ⟨rfl, hu⟩)
  first
  |exact hK _ (HB.out.quiet hu _ (by decide) (by decide) (by decide) (by decide) (by decide))
  |exact (HB.out.quiet hu _ (by decide) (by decide) (by decide) (by decide) (by decide))
 ·exact ⟨_, rfl⟩
 apply Yd rfl rfl
 ·intro dn r0 K hd hdep hK w5 hB1
  skip
  skip
  have HB := Yh_ hB1
  clear hB1 hdep
  go_wp2_with fail
  first
  |exact hK _ (HB.out.same _ (by decide) (by decide) (by decide) (by decide) (by decide))
  |exact (HB.out.same _ (by decide) (by decide) (by decide) (by decide) (by decide))
 ·exact ⟨_, rfl⟩
 apply Yd rfl rfl
 ·intro dn r0 K hd hdep hK w5 hB1
  skip
  skip
  have HB := Yh_ hB1
  clear hB1 hdep
  go_wp2_with (go_at_call 18; refine (Ydz _ _).mono ?_; rintro e w6 ⟨rfl, hu⟩)
  first
  |exact hK _ (HB.out.quiet hu _ (by decide) (by decide) (by decide) (by decide) (by decide))
  |exact (HB.out.quiet hu _ (by decide) (by decide) (by decide) (by decide) (by decide))
 ·exact ⟨_, rfl⟩
 apply Yd rfl rfl
 ·intro dn r0 K hd hdep hK w5 hB1
  skip
  skip
  have HB := Yh_ hB1
  clear hB1 hdep
  go_wp2_with fail
  first
  |exact hK _ (HB.out.same _ (by decide) (by decide) (by decide) (by decide) (by decide))
  |exact (HB.out.same _ (by decide) (by decide) (by decide) (by decide) (by decide))
 ·exact ⟨_, rfl⟩
 apply Yd rfl rfl
 ·intro dn r0 K hd hdep hK w5 hB1
  have HD := Yh_ hd
  skip
  have HB := Yh_ hB1
  clear hB1 hdep
  go_wp2_with (go_at_call 15; have hm0 := HB.out.k.m; rw [HD.out] at hm0; refine (HD2.out _ p pb hm0).mono ?_; rintro e w6 ⟨rfl, hm6, hu6⟩; unfold Flt.val)
  first
  |exact hK _ (HB.out.call hm6 hu6 (by decide) (by decide) (by decide) (by decide))
  |exact (HB.out.call hm6 hu6 (by decide) (by decide) (by decide) (by decide))
 ·exact ⟨_, rfl⟩
 apply Yd rfl rfl
 ·intro dn r0 K hd hdep hK w5 hB1
  skip
  skip
  have HB := Yh_ hB1
  clear hB1 hdep
  go_wp2_with fail
  first
  |exact hK _ (HB.out.same _ (by decide) (by decide) (by decide) (by decide) (by decide))
  |exact (HB.out.same _ (by decide) (by decide) (by decide) (by decide) (by decide))
 ·exact ⟨_, rfl⟩
 apply Yd rfl rfl
 ·intro dn r0 K hd hdep hK w5 hB1
  skip
  skip
  have HB := Yh_ hB1
  clear hB1 hdep
  go_wp2_with fail
  first
  |exact hK _ (HB.out.same _ (by decide) (by decide) (by decide) (by decide) (by decide))
  |exact (HB.out.same _ (by decide) (by decide) (by decide) (by decide) (by decide))
 ·exact ⟨_, rfl⟩
 apply Yd rfl rfl
 ·intro dn r0 K hd hdep hK w5 hB1
  skip
  skip
  have HB := Yh_ hB1
  clear hB1 hdep
  go_wp2_with fail
  first
  |exact hK _ (HB.out.same _ (by decide) (by decide) (by decide) (by decide) (by decide))
  |exact (HB.out.same _ (by decide) (by decide) (by decide) (by decide) (by decide))
 ·exact ⟨_, rfl⟩
 apply Yd rfl rfl
 ·intro dn r0 K hd hdep hK w5 hB1
  skip
  skip
  have HB := Yh_ hB1
  clear hB1 hdep
  go_wp2_with fail
  first
  |exact hK _ (HB.out.same _ (by decide) (by decide) (by decide) (by decide) (by decide))
  |exact (HB.out.same _ (by decide) (by decide) (by decide) (by decide) (by decide))
 ·exact ⟨_, rfl⟩
 refine Yak rfl (fun _ => rfl) 16 rfl (by simp [Act.put]) ?_ ?_
 ·intro dn r0 K hd w5 hB1 hK
  have HB := Yh_ hB1
  clear hB1
  simp only [Yn]
  go_wp2_with fail
  first
  |exact hK (.pointer (some ⟨w5.heap.size, 0, none⟩)) _ (HB.out.layS hd (by decide) (by decide) (by decide) (by decide))
  |exact HB.out.layS hd (by decide) (by decide) (by decide) (by decide)
 refine Yak rfl (fun _ => rfl) 17 rfl (by simp [Act.put]) ?_ ?_
 ·intro dn r0 K hd w5 hB1 hK
  have HB := Yh_ hB1
  clear hB1
  simp only [Yn]
  go_wp2_with fail
  first
  |exact hK (.pointer (some ⟨w5.heap.size, 0, none⟩)) _ (HB.out.layF hd (by decide) (by decide) (by decide) (by decide))
  |exact HB.out.layF hd (by decide) (by decide) (by decide) (by decide)
 apply Ya4 rfl (fun _ => rfl)
 ·intro dn r0 K hd hdep hK w5 hB1
  have h8 : dn 11 = true := hdep ⟨11, .data⟩ (by simp) rfl
  obtain ⟨g0, e1, e2, e3⟩ := hB1.x h8
  refine Yb2 C g0 _ _ rfl (by show r0 11 = _; exact e1) rfl e3 (by cases dn 13 <;> rfl) ?_
  intro w6 hw; rw [← hw]
  exact hK _ (hB1.putS h8 e1 (by decide) (by decide) (by decide) (by decide))
 ·exact ⟨undef, fun _ => rfl, Eq.symm (by go_simp; exact rfl)⟩
 apply Ya4 rfl (fun _ => rfl)
 ·intro dn r0 K hd hdep hK w5 hB1
  have h8 : dn 12 = true := hdep ⟨12, .data⟩ (by simp) rfl
  obtain ⟨g0, e1, e2, e3⟩ := hB1.y h8
  refine Yby H (cond (dn 14) H Flt.zero) g0 _ _ rfl (by show r0 12 = _; exact e1) rfl (by rw [e3]; cases dn 14 <;> rfl) ?_
  skip
  exact hK _ (hB1.putF h8 e1 (by decide) (by decide) (by decide) (by decide))
 ·exact ⟨undef, fun _ => rfl, Eq.symm (by go_simp; exact rfl)⟩
 apply Ya4 rfl (fun _ => rfl)
 ·intro dn r0 K hd hdep hK w5 hB1
  skip
  skip
  have HB := Yh_ hB1
  clear hB1 hdep
  simp only [Yn]
  go_wp2_with fail
  first
  |exact hK _ (HB.out.same _ (by decide) (by decide) (by decide) (by decide) (by decide))
  |exact (HB.out.same _ (by decide) (by decide) (by decide) (by decide) (by decide))
 ·exact ⟨_, fun _ => rfl, Eq.symm (by go_simp; exact rfl)⟩
 refine Yar (fun _ r0 w30 dn hall hB2 => ?_)
 obtain ⟨ga, gb, e1, e2, hK⟩ := hB2.fin (hall 6 (by decide)) (hall 11 (by decide)) (hall 12 (by decide)) (hall 13 (by decide)) (hall 14 (by decide))
 have Q6 := Yh_ hK
 show wpList _ _ _ _ (Act.put (Act.put (Yn _ _ [] _) (some 16) (r0 11)) (some 17) (r0 12)) _
 rw [e1, e2]
 simp only [Yn]
 clear e1 e2 hK hall hB2 Q5
 have dP : w30.cell? ⟨w.heap.size, 8, none⟩ = some (.int .u32 s.pc) := Ya (Q6.out.get 6 rfl) 8
 have dR0 : w30.cell? ⟨w.heap.size, 0, none⟩ = some (.int .u32 (s.R 0)) := Ya (Q6.out.get 6 rfl) 0
 have dR1 : w30.cell? ⟨w.heap.size, 1, none⟩ = some (.int .u32 (s.R 1)) := Ya (Q6.out.get 6 rfl) 1
 have dR2 : w30.cell? ⟨w.heap.size, 2, none⟩ = some (.int .u32 (s.R 2)) := Ya (Q6.out.get 6 rfl) 2
 have dR3 : w30.cell? ⟨w.heap.size, 3, none⟩ = some (.int .u32 (s.R 3)) := Ya (Q6.out.get 6 rfl) 3
 have dR4 : w30.cell? ⟨w.heap.size, 4, none⟩ = some (.int .u32 (s.R 4)) := Ya (Q6.out.get 6 rfl) 4
 have dR5 : w30.cell? ⟨w.heap.size, 5, none⟩ = some (.int .u32 (s.R 5)) := Ya (Q6.out.get 6 rfl) 5
 have dR6 : w30.cell? ⟨w.heap.size, 6, none⟩ = some (.int .u32 (s.R 6)) := Ya (Q6.out.get 6 rfl) 6
 have dR7 : w30.cell? ⟨w.heap.size, 7, none⟩ = some (.int .u32 (s.R 7)) := Ya (Q6.out.get 6 rfl) 7
 have hq := Yge s
 have he := Yga s
 have hER := Ygj s
 rcases HF.out with ⟨m1, m2, rfl, rfl, hC⟩ | ⟨m1, m2, rfl, rfl, rfl, rfl, hC⟩ | ⟨b3, m1, m2, m3, rfl, rfl, rfl, rfl, rfl, rfl⟩
 ·have dC0 : w30.cell? ⟨ga, 0, none⟩ = some (.int .u32 (s.R 0)) := ((Ya (Q6.out.get 1 rfl) 0).trans (St.cR _ 0 (by decide))).trans (by rw [hC 0 (by decide)])
  have dC1 : w30.cell? ⟨ga, 1, none⟩ = some (.int .u32 (s.R 1)) := ((Ya (Q6.out.get 1 rfl) 1).trans (St.cR _ 1 (by decide))).trans (by rw [hC 1 (by decide)])
  have dC2 : w30.cell? ⟨ga, 2, none⟩ = some (.int .u32 (s.R 2)) := ((Ya (Q6.out.get 1 rfl) 2).trans (St.cR _ 2 (by decide))).trans (by rw [hC 2 (by decide)])
  have dC3 : w30.cell? ⟨ga, 3, none⟩ = some (.int .u32 (s.R 3)) := ((Ya (Q6.out.get 1 rfl) 3).trans (St.cR _ 3 (by decide))).trans (by rw [hC 3 (by decide)])
  have dC4 : w30.cell? ⟨ga, 4, none⟩ = some (.int .u32 (s.R 4)) := ((Ya (Q6.out.get 1 rfl) 4).trans (St.cR _ 4 (by decide))).trans (by rw [hC 4 (by decide)])
  have dC5 : w30.cell? ⟨ga, 5, none⟩ = some (.int .u32 (s.R 5)) := ((Ya (Q6.out.get 1 rfl) 5).trans (St.cR _ 5 (by decide))).trans (by rw [hC 5 (by decide)])
  have dC6 : w30.cell? ⟨ga, 6, none⟩ = some (.int .u32 (s.R 6)) := ((Ya (Q6.out.get 1 rfl) 6).trans (St.cR _ 6 (by decide))).trans (by rw [hC 6 (by decide)])
  have dC7 : w30.cell? ⟨ga, 7, none⟩ = some (.int .u32 (s.R 7)) := ((Ya (Q6.out.get 1 rfl) 7).trans (St.cR _ 7 (by decide))).trans (by rw [hC 7 (by decide)])
  clear hC
  go_wp2_with fail
  go_ret
  exact ⟨rfl, Q6.out.u⟩
 ·have dC0 : w30.cell? ⟨ga, 0, none⟩ = some (.int .u32 (s.R 0)) := ((Ya (Q6.out.get 1 rfl) 0).trans (St.cR _ 0 (by decide))).trans (by rw [hC 0 (by decide)])
  have dC1 : w30.cell? ⟨ga, 1, none⟩ = some (.int .u32 (s.R 1)) := ((Ya (Q6.out.get 1 rfl) 1).trans (St.cR _ 1 (by decide))).trans (by rw [hC 1 (by decide)])
  have dC2 : w30.cell? ⟨ga, 2, none⟩ = some (.int .u32 (s.R 2)) := ((Ya (Q6.out.get 1 rfl) 2).trans (St.cR _ 2 (by decide))).trans (by rw [hC 2 (by decide)])
  have dC3 : w30.cell? ⟨ga, 3, none⟩ = some (.int .u32 (s.R 3)) := ((Ya (Q6.out.get 1 rfl) 3).trans (St.cR _ 3 (by decide))).trans (by rw [hC 3 (by decide)])
  have dC4 : w30.cell? ⟨ga, 4, none⟩ = some (.int .u32 (s.R 4)) := ((Ya (Q6.out.get 1 rfl) 4).trans (St.cR _ 4 (by decide))).trans (by rw [hC 4 (by decide)])
  have dC5 : w30.cell? ⟨ga, 5, none⟩ = some (.int .u32 (s.R 5)) := ((Ya (Q6.out.get 1 rfl) 5).trans (St.cR _ 5 (by decide))).trans (by rw [hC 5 (by decide)])
  have dC6 : w30.cell? ⟨ga, 6, none⟩ = some (.int .u32 (s.R 6)) := ((Ya (Q6.out.get 1 rfl) 6).trans (St.cR _ 6 (by decide))).trans (by rw [hC 6 (by decide)])
  have dC7 : w30.cell? ⟨ga, 7, none⟩ = some (.int .u32 (s.R 7)) := ((Ya (Q6.out.get 1 rfl) 7).trans (St.cR _ 7 (by decide))).trans (by rw [hC 7 (by decide)])
  clear hC
  have dF1 := Ya (Q6.out.get 2 rfl)
  unfold Ys at dF1
  dsimp only at dF1
  have t1 : True := trivial
  have t2 : True := trivial
  go_wp2_with (first | (have _t := t1; clear _t t1; refine Yr 28 rfl ?_; refine Yv s w20.heap.size rfl _ rfl rfl (Q6.out.get 3 rfl) ?_) | (have _t := t2; clear _t t2; refine Yr 28 rfl ?_; refine Yv s w.heap.size rfl _ rfl rfl (Q6.out.get 6 rfl) ?_))
  go_ret
  exact ⟨rfl, Q6.out.u⟩
 ·have dF1 := Ya (Q6.out.get 2 rfl)
  unfold Ys at dF1
  dsimp only at dF1
  have dH := Ya (Q6.out.get 0 rfl)
  unfold Ys at dH
  dsimp only at dH
  have t1 : True := trivial
  have t2 : True := trivial
  have t3 : True := trivial
  have t4 : True := trivial
  go_wp2_with (first | (have _t := t1; clear _t t1; refine Yr 28 rfl ?_; refine Yv s w20.heap.size rfl _ rfl rfl (Q6.out.get 3 rfl) ?_) | (have _t := t2; clear _t t2; refine Yr 28 rfl ?_; refine Yv s w.heap.size rfl _ rfl rfl (Q6.out.get 6 rfl) ?_) | (have _t := t3; clear _t t3; refine Yr 28 rfl ?_; refine Yv s ga rfl _ rfl rfl (Q6.out.get 1 rfl) ?_) | (have _t := t4; clear _t t4; refine Yr 28 rfl ?_; refine Yv s w.heap.size rfl _ rfl rfl (Q6.out.get 6 rfl) ?_))
  go_ret
  exact ⟨rfl, Q6.out.u⟩
end Go.Proofs.YthakgjpejhjaoaaGreat
