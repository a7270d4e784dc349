/-
  Parts of the proof (their names shortened by a program). No condition.
-/
import Derived.Test.YthakgjpejhjaoaaGreatMg01
import Derived.Test.YthakgjpejhjaoaaGreatMg23
namespace Go.Proofs.YthakgjpejhjaoaaGreat
open Go Go.RowKit
set_option linter.unusedVariables false
set_option linter.unusedSimpArgs false
set_option maxRecDepth 100000
set_option maxHeartbeats 16000000
theorem sw_none (s : St) (a r : Int) (w : World) (hs : s.Ok) (ha : 0 ≤ a ∧ a < 4294967296) (hr : 0 ≤ r ∧ r < 4294967296) :
  Calls Tryz.prog 8 #[.agg s.cells, .int .u32 a, .int .u32 0, .int .u32 r] w fun e w' => e = .returned (.bool true) ∧ Upd [] w w' := by
 have hb' : 0 ≤ (0 : Int) ∧ (0 : Int) < 4294967296 := by omega
 have HS := Yh_ (And.intro hs (And.intro ha hb'))
 have hm := mul_u a 0 ha hb'
 obtain ⟨P, hP⟩ : ∃ P, a * 0 = P := ⟨_, rfl⟩
 rw [hP] at hm
 obtain ⟨lo, hlo⟩ : ∃ lo, Yd3 16 a 0 = lo := ⟨_, rfl⟩
 obtain ⟨hi, hhi⟩ : ∃ hi, Ydx 16 a 0 = hi := ⟨_, rfl⟩
 have hlo2 : lo = P % 4294967296 := by rw [← hlo, ← hP]; rfl
 have hhi2 : hi = P / 4294967296 % 4294967296 := by rw [← hhi, ← hP]; rfl
 have HL := Yh_ (And.intro (show (swM s a 0).R 0 = lo from hlo) (show (swM s a 0).R 2 = hi from hhi))
 have e1 : IntKind.u64.wrap a = a := by rw [Yb0]; omega
 have e2 : IntKind.u64.wrap 0 = 0 := by rw [Yb0]; omega
 have e3 : IntKind.u64.wrap P = P := by rw [Yb0]; omega
 have e4 : IntKind.u64.wrap lo = lo := by rw [Yb0]; omega
 have e5 : IntKind.u64.wrap hi = hi := by rw [Yb0]; omega
 have e6 : IntKind.u64.wrap (hi * 4294967296) = hi * 4294967296 := by rw [Yb0]; omega
 have e7 : bits .or .u64 (hi * 4294967296) lo = P := by rw [Yhh lo hi (by omega) (by omega) (by omega) (by omega)]; omega
 clear hs ha hb' hm hr hlo hhi hlo2 hhi2
 have tok : True := trivial
 go_enter Tryz.func8, Tryz.ntmps8
 go_wp2_with (first | (have _t := tok; clear _t; go_at_call 12; refine (Yhw _).mono ?_; rintro e w0 ⟨rfl, hu0⟩; clear tok) | (have _t := hu0; clear _t; go_at_call 13; refine (Yjb _).mono ?_; rintro e w1 ⟨p, pb, rfl, ha, hp, hM1, hu1⟩; have K0 := Yh_ (show Kn w p pb Mem.zero [(w.heap.size, .cells (St.cells s) 28 (0, 0))] w1 from Kn.start1 hu0 ha hp hM1 hu1); clear hu0 hu1 ha hp hM1; have c0_r0_0 : w1.cell? ⟨w.heap.size, 0, none⟩ = some (.int .u32 (((s) : St).R 0)) := (Ya (K0.out.get 0 rfl) 0).trans (St.cR _ 0 (by decide)); have c1_r3_0 : w1.cell? ⟨w.heap.size, 3, none⟩ = some (.int .u32 (((s) : St).R 3)) := (Ya (K0.out.get 0 rfl) 3).trans (St.cR _ 3 (by decide)); have c2_free_0 := Yj (K0.out.get 0 rfl)))
 have hk := (K0.out.putR 0 rfl 0 (by decide) a).putR 0 rfl 3 (by decide) 0
 dsimp only [List.set] at hk
 have Q0 := Yh_ (show Kq w p pb Mem.zero [(w.heap.size, .cells (St.cells (swT s a 0)) 28 (0, 0))] _ from Kq.of hk)
 clear hk K0 c0_r0_0 c1_r3_0 c2_free_0
 refine Ya8 14 (Kd w p pb Mem.zero Mem.zero [(w.heap.size, .cells (St.cells (swT s a 0)) 28 (0, 0))] _ (swM s a 0) Flt.zero 4 9 10 11 12) (fun _ _ => False) (by kernel_rfl) (by decide +kernel) (fun r0 => Kd.start Q0.out Mem.zero (swM s a 0) Flt.zero 4 9 10 11 12 r0) (fun _ _ _ h => h.elim) ?_
 simp only [List.take_succ_cons, List.take_zero, List.drop_succ_cons, List.drop_zero]
 apply Yd rfl rfl
 ·intro dn r0 K hd hdep hK w5 hB1
  skip
  skip
  have HB := Yh_ hB1
  clear hB1 hdep
  go_wp2_with fail
  first
  |exact hK _ (HB.out.same _ (by decide) (by decide) (by decide) (by decide) (by decide))
  |exact (HB.out.same _ (by decide) (by decide) (by decide) (by decide) (by decide))
 ·exact ⟨_, rfl⟩
 apply Yd rfl rfl
 ·intro dn r0 K hd hdep hK w5 hB1
  refine Ybj (swT s a 0) _ _ rfl rfl (hB1.k.get 0 rfl) ?_
  exact hK _ (hB1.same _ (by decide) (by decide) (by decide) (by decide) (by decide))
 ·exact ⟨_, rfl⟩
 apply Yd rfl rfl
 ·intro dn r0 K hd hdep hK w5 hB1
  skip
  skip
  have HB := Yh_ hB1
  clear hB1 hdep
  go_wp2_with (go_at_call 19; refine (Ygi _ _).mono ?_; rintro e w6 ⟨rfl, hu⟩)
  first
  |exact hK _ (HB.out.quiet hu _ (by decide) (by decide) (by decide) (by decide) (by decide))
  |exact (HB.out.quiet hu _ (by decide) (by decide) (by decide) (by decide) (by decide))
 ·exact ⟨_, rfl⟩
 apply Yd rfl rfl
 ·intro dn r0 K hd hdep hK w5 hB1
  skip
  skip
  have HB := Yh_ hB1
  clear hB1 hdep
  go_wp2_with fail
  first
  |exact hK _ (HB.out.same _ (by decide) (by decide) (by decide) (by decide) (by decide))
  |exact (HB.out.same _ (by decide) (by decide) (by decide) (by decide) (by decide))
 ·exact ⟨_, rfl⟩
 apply Yd rfl rfl
 ·intro dn r0 K hd hdep hK w5 hB1
  have HD := Yh_ hd
  skip
  have HB := Yh_ hB1
  clear hB1 hdep
  go_wp2_with (go_at_call 15; have hm0 := HB.out.k.m; rw [HD.out] at hm0; refine (sw_mul hm0 HS.out.1 HS.out.2.1 HS.out.2.2).mono ?_; rintro e w6 ⟨rfl, hm6, hu6⟩; unfold Flt.val Flt.zero)
  first
  |exact hK _ (HB.out.call hm6 hu6 (by decide) (by decide) (by decide) (by decide))
  |exact (HB.out.call hm6 hu6 (by decide) (by decide) (by decide) (by decide))
 ·exact ⟨_, rfl⟩
 apply Yd rfl rfl
 ·intro dn r0 K hd hdep hK w5 hB1
  skip
  skip
  have HB := Yh_ hB1
  clear hB1 hdep
  go_wp2_with fail
  first
  |exact hK _ (HB.out.same _ (by decide) (by decide) (by decide) (by decide) (by decide))
  |exact (HB.out.same _ (by decide) (by decide) (by decide) (by decide) (by decide))
 ·exact ⟨_, rfl⟩
 apply Yd rfl rfl
 ·intro dn r0 K hd hdep hK w5 hB1
  skip
  skip
  have HB := Yh_ hB1
  clear hB1 hdep
  go_wp2_with fail
  first
  |exact hK _ (HB.out.same _ (by decide) (by decide) (by decide) (by decide) (by decide))
  |exact (HB.out.same _ (by decide) (by decide) (by decide) (by decide) (by decide))
 ·exact ⟨_, rfl⟩
 apply Yd rfl rfl
 ·intro dn r0 K hd hdep hK w5 hB1
  skip
  skip
  have HB := Yh_ hB1
  clear hB1 hdep
  go_wp2_with fail
  first
  |exact hK _ (HB.out.same _ (by decide) (by decide) (by decide) (by decide) (by decide))
  |exact (HB.out.same _ (by decide) (by decide) (by decide) (by decide) (by decide))
 ·exact ⟨_, rfl⟩
 apply Yd rfl rfl
 ·intro dn r0 K hd hdep hK w5 hB1
  skip
  skip
  have HB := Yh_ hB1
  clear hB1 hdep
  go_wp2_with fail
  first
  |exact hK _ (HB.out.same _ (by decide) (by decide) (by decide) (by decide) (by decide))
  |exact (HB.out.same _ (by decide) (by decide) (by decide) (by decide) (by decide))
 ·exact ⟨_, rfl⟩
 refine Yar rfl (fun _ => rfl) 10 rfl (by simp [Act.put]) ?_ ?_
 ·intro dn r0 K hd w5 hB1 hK
  have HB := Yh_ hB1
  clear hB1
  simp only [Yo]
  go_wp2_with fail
  first
  |exact hK (.pointer (some ⟨w5.heap.size, 0, none⟩)) _ (HB.out.layS hd (by decide) (by decide) (by decide) (by decide))
  |exact HB.out.layS hd (by decide) (by decide) (by decide) (by decide)
 refine Yar rfl (fun _ => rfl) 11 rfl (by simp [Act.put]) ?_ ?_
 ·intro dn r0 K hd w5 hB1 hK
  have HB := Yh_ hB1
  clear hB1
  simp only [Yo]
  go_wp2_with fail
  first
  |exact hK (.pointer (some ⟨w5.heap.size, 0, none⟩)) _ (HB.out.layF hd (by decide) (by decide) (by decide) (by decide))
  |exact HB.out.layF hd (by decide) (by decide) (by decide) (by decide)
 apply Ya6 rfl (fun _ => rfl)
 ·intro dn r0 K hd hdep hK w5 hB1
  have h8 : dn 9 = true := hdep ⟨9, .data⟩ (by simp) rfl
  obtain ⟨g0, e1, e2, e3⟩ := hB1.x h8
  refine Ybs (swM s a 0) g0 _ _ rfl (by show r0 9 = _; exact e1) rfl e3 (by cases dn 11 <;> rfl) ?_
  intro w6 hw; rw [← hw]
  exact hK _ (hB1.putS h8 e1 (by decide) (by decide) (by decide) (by decide))
 ·exact ⟨undef, fun _ => rfl, Eq.symm (by go_simp; exact rfl)⟩
 apply Ya6 rfl (fun _ => rfl)
 ·intro dn r0 K hd hdep hK w5 hB1
  have h8 : dn 10 = true := hdep ⟨10, .data⟩ (by simp) rfl
  obtain ⟨g0, e1, e2, e3⟩ := hB1.y h8
  refine Ybz Flt.zero (cond (dn 12) Flt.zero Flt.zero) g0 _ _ rfl (by show r0 10 = _; exact e1) rfl (by rw [e3]; cases dn 12 <;> rfl) ?_
  skip
  exact hK _ (hB1.putF h8 e1 (by decide) (by decide) (by decide) (by decide))
 ·exact ⟨undef, fun _ => rfl, Eq.symm (by go_simp; exact rfl)⟩
 apply Ya6 rfl (fun _ => rfl)
 ·intro dn r0 K hd hdep hK w5 hB1
  skip
  skip
  have HB := Yh_ hB1
  clear hB1 hdep
  simp only [Yo]
  go_wp2_with fail
  first
  |exact hK _ (HB.out.same _ (by decide) (by decide) (by decide) (by decide) (by decide))
  |exact (HB.out.same _ (by decide) (by decide) (by decide) (by decide) (by decide))
 ·exact ⟨_, fun _ => rfl, Eq.symm (by go_simp; exact rfl)⟩
 refine Yaz (fun _ r0 w30 dn hall hB2 => ?_)
 obtain ⟨ga0, gb0, e1, e2, hK⟩ := hB2.fin (hall 4 (by decide)) (hall 9 (by decide)) (hall 10 (by decide)) (hall 11 (by decide)) (hall 12 (by decide))
 have Q1 := Yh_ hK
 show wpList _ _ _ _ (Act.put (Act.put (Yo _ _ [] _) (some 10) (r0 9)) (some 11) (r0 10)) _
 rw [e1, e2]
 simp only [Yo]
 clear e1 e2 hK hall hB2 Q0
 have d1 : w30.cell? ⟨ga0, 2, none⟩ = some (.int .u32 hi) := by rw [← HL.out.2]; exact (Ya (Q1.out.get 1 rfl) 2).trans (St.cR _ 2 (by decide))
 have d2 : w30.cell? ⟨ga0, 0, none⟩ = some (.int .u32 lo) := by rw [← HL.out.1]; exact (Ya (Q1.out.get 1 rfl) 0).trans (St.cR _ 0 (by decide))
 go_wp2_with fail
 refine Ya8 14 (Kd w p pb Mem.zero Mem.zero [(gb0, .cells (Yac Flt.zero) 35 (0, 0)), (ga0, .cells (St.cells (swM s a 0)) 28 (0, 0)), (w.heap.size, .cells (St.cells (swT s a 0)) 28 (0, 0))] _ (swM s a 0) (⟨2, (swM s a 0).pc, 0, 0⟩ : Flt) 4 9 10 11 12) (fun _ _ => False) (by kernel_rfl) (by decide +kernel) (fun r0 => Kd.start Q1.out Mem.zero (swM s a 0) (⟨2, (swM s a 0).pc, 0, 0⟩ : Flt) 4 9 10 11 12 r0) (fun _ _ _ h => h.elim) ?_
 simp only [List.take_succ_cons, List.take_zero, List.drop_succ_cons, List.drop_zero]
 apply Yd rfl rfl
 ·intro dn r0 K hd hdep hK w5 hB1
  skip
  skip
  have HB := Yh_ hB1
  clear hB1 hdep
  go_wp2_with fail
  first
  |exact hK _ (HB.out.same _ (by decide) (by decide) (by decide) (by decide) (by decide))
  |exact (HB.out.same _ (by decide) (by decide) (by decide) (by decide) (by decide))
 ·exact ⟨_, rfl⟩
 apply Yd rfl rfl
 ·intro dn r0 K hd hdep hK w5 hB1
  refine Ybj (swM s a 0) _ _ rfl rfl (hB1.k.get 1 rfl) ?_
  exact hK _ (hB1.same _ (by decide) (by decide) (by decide) (by decide) (by decide))
 ·exact ⟨_, rfl⟩
 apply Yd rfl rfl
 ·intro dn r0 K hd hdep hK w5 hB1
  skip
  skip
  have HB := Yh_ hB1
  clear hB1 hdep
  go_wp2_with (go_at_call 19; refine (Ygi _ _).mono ?_; rintro e w6 ⟨rfl, hu⟩)
  first
  |exact hK _ (HB.out.quiet hu _ (by decide) (by decide) (by decide) (by decide) (by decide))
  |exact (HB.out.quiet hu _ (by decide) (by decide) (by decide) (by decide) (by decide))
 ·exact ⟨_, rfl⟩
 apply Yd rfl rfl
 ·intro dn r0 K hd hdep hK w5 hB1
  skip
  skip
  have HB := Yh_ hB1
  clear hB1 hdep
  go_wp2_with fail
  first
  |exact hK _ (HB.out.same _ (by decide) (by decide) (by decide) (by decide) (by decide))
  |exact (HB.out.same _ (by decide) (by decide) (by decide) (by decide) (by decide))
 ·exact ⟨_, rfl⟩
 apply Yd rfl rfl
 ·intro dn r0 K hd hdep hK w5 hB1
  have HD := Yh_ hd
  skip
  have HB := Yh_ hB1
  clear hB1 hdep
  go_wp2_with (go_at_call 15; have hm0 := HB.out.k.m; rw [HD.out] at hm0; refine (sw_no hm0 HS.out.1 HS.out.2.1).mono ?_; rintro e w6 ⟨rfl, hm6, hu6⟩; unfold Flt.val)
  first
  |exact hK _ (HB.out.call hm6 hu6 (by decide) (by decide) (by decide) (by decide))
  |exact (HB.out.call hm6 hu6 (by decide) (by decide) (by decide) (by decide))
 ·exact ⟨_, rfl⟩
 apply Yd rfl rfl
 ·intro dn r0 K hd hdep hK w5 hB1
  skip
  skip
  have HB := Yh_ hB1
  clear hB1 hdep
  go_wp2_with fail
  first
  |exact hK _ (HB.out.same _ (by decide) (by decide) (by decide) (by decide) (by decide))
  |exact (HB.out.same _ (by decide) (by decide) (by decide) (by decide) (by decide))
 ·exact ⟨_, rfl⟩
 apply Yd rfl rfl
 ·intro dn r0 K hd hdep hK w5 hB1
  skip
  skip
  have HB := Yh_ hB1
  clear hB1 hdep
  go_wp2_with fail
  first
  |exact hK _ (HB.out.same _ (by decide) (by decide) (by decide) (by decide) (by decide))
  |exact (HB.out.same _ (by decide) (by decide) (by decide) (by decide) (by decide))
 ·exact ⟨_, rfl⟩
 apply Yd rfl rfl
 ·intro dn r0 K hd hdep hK w5 hB1
  skip
  skip
  have HB := Yh_ hB1
  clear hB1 hdep
  go_wp2_with fail
  first
  |exact hK _ (HB.out.same _ (by decide) (by decide) (by decide) (by decide) (by decide))
  |exact (HB.out.same _ (by decide) (by decide) (by decide) (by decide) (by decide))
 ·exact ⟨_, rfl⟩
 apply Yd rfl rfl
 ·intro dn r0 K hd hdep hK w5 hB1
  skip
  skip
  have HB := Yh_ hB1
  clear hB1 hdep
  go_wp2_with fail
  first
  |exact hK _ (HB.out.same _ (by decide) (by decide) (by decide) (by decide) (by decide))
  |exact (HB.out.same _ (by decide) (by decide) (by decide) (by decide) (by decide))
 ·exact ⟨_, rfl⟩
 refine Yar rfl (fun _ => rfl) 14 rfl (by simp [Act.put]) ?_ ?_
 ·intro dn r0 K hd w5 hB1 hK
  have HB := Yh_ hB1
  clear hB1
  simp only [Yo]
  go_wp2_with fail
  first
  |exact hK (.pointer (some ⟨w5.heap.size, 0, none⟩)) _ (HB.out.layS hd (by decide) (by decide) (by decide) (by decide))
  |exact HB.out.layS hd (by decide) (by decide) (by decide) (by decide)
 refine Yar rfl (fun _ => rfl) 15 rfl (by simp [Act.put]) ?_ ?_
 ·intro dn r0 K hd w5 hB1 hK
  have HB := Yh_ hB1
  clear hB1
  simp only [Yo]
  go_wp2_with fail
  first
  |exact hK (.pointer (some ⟨w5.heap.size, 0, none⟩)) _ (HB.out.layF hd (by decide) (by decide) (by decide) (by decide))
  |exact HB.out.layF hd (by decide) (by decide) (by decide) (by decide)
 apply Ya6 rfl (fun _ => rfl)
 ·intro dn r0 K hd hdep hK w5 hB1
  have h8 : dn 9 = true := hdep ⟨9, .data⟩ (by simp) rfl
  obtain ⟨g0, e1, e2, e3⟩ := hB1.x h8
  refine Ybs (swM s a 0) g0 _ _ rfl (by show r0 9 = _; exact e1) rfl e3 (by cases dn 11 <;> rfl) ?_
  intro w6 hw; rw [← hw]
  exact hK _ (hB1.putS h8 e1 (by decide) (by decide) (by decide) (by decide))
 ·exact ⟨undef, fun _ => rfl, Eq.symm (by go_simp; exact rfl)⟩
 apply Ya6 rfl (fun _ => rfl)
 ·intro dn r0 K hd hdep hK w5 hB1
  have h8 : dn 10 = true := hdep ⟨10, .data⟩ (by simp) rfl
  obtain ⟨g0, e1, e2, e3⟩ := hB1.y h8
  refine Ybz (⟨2, (swM s a 0).pc, 0, 0⟩ : Flt) (cond (dn 12) (⟨2, (swM s a 0).pc, 0, 0⟩ : Flt) Flt.zero) g0 _ _ rfl (by show r0 10 = _; exact e1) rfl (by rw [e3]; cases dn 12 <;> rfl) ?_
  skip
  exact hK _ (hB1.putF h8 e1 (by decide) (by decide) (by decide) (by decide))
 ·exact ⟨undef, fun _ => rfl, Eq.symm (by go_simp; exact rfl)⟩
 apply Ya6 rfl (fun _ => rfl)
 ·intro dn r0 K hd hdep hK w5 hB1
  skip
  skip
  have HB := Yh_ hB1
  clear hB1 hdep
  simp only [Yo]
  go_wp2_with fail
  first
  |exact hK _ (HB.out.same _ (by decide) (by decide) (by decide) (by decide) (by decide))
  |exact (HB.out.same _ (by decide) (by decide) (by decide) (by decide) (by decide))
 ·exact ⟨_, fun _ => rfl, Eq.symm (by go_simp; exact rfl)⟩
 refine Yaz (fun _ r0 w31 dn hall hB2 => ?_)
 obtain ⟨ga1, gb1, e1, e2, hK⟩ := hB2.fin (hall 4 (by decide)) (hall 9 (by decide)) (hall 10 (by decide)) (hall 11 (by decide)) (hall 12 (by decide))
 have Q2 := Yh_ hK
 show wpList _ _ _ _ (Act.put (Act.put (Yo _ _ [] _) (some 14) (r0 9)) (some 15) (r0 10)) _
 rw [e1, e2]
 simp only [Yo]
 clear e1 e2 hK hall hB2 Q1
 have dF := Ya (Q2.out.get 0 rfl)
 unfold Yac at dF
 dsimp only at dF
 have dP : w31.cell? ⟨ga0, 8, none⟩ = some (.int .u32 ((swM s a 0).pc)) := Ya (Q2.out.get 3 rfl) 8
 have hE := Yoy (swM s a 0)
 have ta : True := trivial
 have tb : True := trivial
 go_wp2_with (first | (have _t := ta; clear _t ta; refine Yal 28 rfl ?_; refine Yei (swM s a 0) ga1 rfl _ rfl rfl (Q2.out.get 1 rfl) ?_) | (have _t := tb; clear _t tb; refine Yal 28 rfl ?_; refine Yei (swM s a 0) ga0 rfl _ rfl rfl (Q2.out.get 3 rfl) ?_))
 go_ret
 exact ⟨rfl, Q2.out.u⟩
theorem sw_some (s : St) (a b r : Int) (w : World) (hs : s.Ok) (ha : 0 ≤ a ∧ a < 4294967296) (hb : 0 < b ∧ b < 4294967296) (hr : 0 ≤ r ∧ r < 4294967296) :
  Calls Tryz.prog 8 #[.agg s.cells, .int .u32 a, .int .u32 b, .int .u32 r] w fun e w' => e = .returned (.bool true) ∧ Upd [] w w' := by
 have hb' : 0 ≤ (b : Int) ∧ (b : Int) < 4294967296 := by omega
 have HS := Yh_ (And.intro hs (And.intro ha hb'))
 have hm := mul_u a b ha hb'
 obtain ⟨P, hP⟩ : ∃ P, a * b = P := ⟨_, rfl⟩
 rw [hP] at hm
 obtain ⟨lo, hlo⟩ : ∃ lo, Yd3 16 a b = lo := ⟨_, rfl⟩
 obtain ⟨hi, hhi⟩ : ∃ hi, Ydx 16 a b = hi := ⟨_, rfl⟩
 have hlo2 : lo = P % 4294967296 := by rw [← hlo, ← hP]; rfl
 have hhi2 : hi = P / 4294967296 % 4294967296 := by rw [← hhi, ← hP]; rfl
 have HL := Yh_ (And.intro (show (swM s a b).R 0 = lo from hlo) (show (swM s a b).R 2 = hi from hhi))
 have e1 : IntKind.u64.wrap a = a := by rw [Yb0]; omega
 have e2 : IntKind.u64.wrap b = b := by rw [Yb0]; omega
 have e3 : IntKind.u64.wrap P = P := by rw [Yb0]; omega
 have e4 : IntKind.u64.wrap lo = lo := by rw [Yb0]; omega
 have e5 : IntKind.u64.wrap hi = hi := by rw [Yb0]; omega
 have e6 : IntKind.u64.wrap (hi * 4294967296) = hi * 4294967296 := by rw [Yb0]; omega
 have e7 : bits .or .u64 (hi * 4294967296) lo = P := by rw [Yhh lo hi (by omega) (by omega) (by omega) (by omega)]; omega
 have hr1 := Int.emod_nonneg r (show b ≠ 0 by omega)
 have hr2 := Int.emod_lt_of_pos r hb.1
 have e8 : r.tmod b = r % b := Int.tmod_eq_emod_of_nonneg hr.1
 obtain ⟨r1, hr1'⟩ : ∃ r1, r % b = r1 := ⟨_, rfl⟩
 rw [hr1'] at hr1 hr2 e8
 have e8' : r % b = r1 := hr1'
 have e9 : IntKind.u64.wrap r1 = r1 := by rw [Yb0]; omega
 have hPb : P ≤ 4294967295 * b := by rw [← hP]; exact Int.mul_le_mul_of_nonneg_right (by omega) (by omega)
 have e10 : IntKind.u64.wrap (P + r1) = P + r1 := by rw [Yb0]; omega
 obtain ⟨x, hx⟩ : ∃ x, (P + r1) % 4294967296 = x := ⟨_, rfl⟩
 obtain ⟨y, hy⟩ : ∃ y, (P + r1) / 4294967296 = y := ⟨_, rfl⟩
 have e11 : y % 4294967296 = y := by omega
 have e12 : (b == 0) = false := by simp; omega
 have HBB := Yh_ (And.intro hb (And.intro (show 0 ≤ r1 ∧ r1 < b from ⟨hr1, hr2⟩) (And.intro (show (a * b + r1) % 4294967296 = x by rw [hP]; exact hx) (show (a * b + r1) / 4294967296 = y by rw [hP]; exact hy))))
 have HV := Yh_ (swV_ok (x := x) (y := y) (q := a) (r := r1) hs ha hb' (by omega) (by omega) ha (by omega))
 have e13 := Yik a ha
 have e14 : b ≠ 0 := by omega
 clear hr1 hr2 hr1' hPb hb
 clear hs ha hb' hm hr hlo hhi hlo2 hhi2
 have tok : True := trivial
 go_enter Tryz.func8, Tryz.ntmps8
 go_wp2_with (first | (have _t := tok; clear _t; go_at_call 12; refine (Yhw _).mono ?_; rintro e w0 ⟨rfl, hu0⟩; clear tok) | (have _t := hu0; clear _t; go_at_call 13; refine (Yjb _).mono ?_; rintro e w1 ⟨p, pb, rfl, ha, hp, hM1, hu1⟩; have K0 := Yh_ (show Kn w p pb Mem.zero [(w.heap.size, .cells (St.cells s) 28 (0, 0))] w1 from Kn.start1 hu0 ha hp hM1 hu1); clear hu0 hu1 ha hp hM1; have c0_r0_0 : w1.cell? ⟨w.heap.size, 0, none⟩ = some (.int .u32 (((s) : St).R 0)) := (Ya (K0.out.get 0 rfl) 0).trans (St.cR _ 0 (by decide)); have c1_r3_0 : w1.cell? ⟨w.heap.size, 3, none⟩ = some (.int .u32 (((s) : St).R 3)) := (Ya (K0.out.get 0 rfl) 3).trans (St.cR _ 3 (by decide)); have c2_free_0 := Yj (K0.out.get 0 rfl)))
 have hk := (K0.out.putR 0 rfl 0 (by decide) a).putR 0 rfl 3 (by decide) b
 dsimp only [List.set] at hk
 have Q0 := Yh_ (show Kq w p pb Mem.zero [(w.heap.size, .cells (St.cells (swT s a b)) 28 (0, 0))] _ from Kq.of hk)
 clear hk K0 c0_r0_0 c1_r3_0 c2_free_0
 refine Ya8 14 (Kd w p pb Mem.zero Mem.zero [(w.heap.size, .cells (St.cells (swT s a b)) 28 (0, 0))] _ (swM s a b) Flt.zero 4 9 10 11 12) (fun _ _ => False) (by kernel_rfl) (by decide +kernel) (fun r0 => Kd.start Q0.out Mem.zero (swM s a b) Flt.zero 4 9 10 11 12 r0) (fun _ _ _ h => h.elim) ?_
 simp only [List.take_succ_cons, List.take_zero, List.drop_succ_cons, List.drop_zero]
 apply Yd rfl rfl
 ·intro dn r0 K hd hdep hK w5 hB1
  skip
  skip
  have HB := Yh_ hB1
  clear hB1 hdep
  go_wp2_with fail
  first
  |exact hK _ (HB.out.same _ (by decide) (by decide) (by decide) (by decide) (by decide))
  |exact (HB.out.same _ (by decide) (by decide) (by decide) (by decide) (by decide))
 ·exact ⟨_, rfl⟩
 apply Yd rfl rfl
 ·intro dn r0 K hd hdep hK w5 hB1
  refine Ybj (swT s a b) _ _ rfl rfl (hB1.k.get 0 rfl) ?_
  exact hK _ (hB1.same _ (by decide) (by decide) (by decide) (by decide) (by decide))
 ·exact ⟨_, rfl⟩
 apply Yd rfl rfl
 ·intro dn r0 K hd hdep hK w5 hB1
  skip
  skip
  have HB := Yh_ hB1
  clear hB1 hdep
  go_wp2_with (go_at_call 19; refine (Ygi _ _).mono ?_; rintro e w6 ⟨rfl, hu⟩)
  first
  |exact hK _ (HB.out.quiet hu _ (by decide) (by decide) (by decide) (by decide) (by decide))
  |exact (HB.out.quiet hu _ (by decide) (by decide) (by decide) (by decide) (by decide))
 ·exact ⟨_, rfl⟩
 apply Yd rfl rfl
 ·intro dn r0 K hd hdep hK w5 hB1
  skip
  skip
  have HB := Yh_ hB1
  clear hB1 hdep
  go_wp2_with fail
  first
  |exact hK _ (HB.out.same _ (by decide) (by decide) (by decide) (by decide) (by decide))
  |exact (HB.out.same _ (by decide) (by decide) (by decide) (by decide) (by decide))
 ·exact ⟨_, rfl⟩
 apply Yd rfl rfl
 ·intro dn r0 K hd hdep hK w5 hB1
  have HD := Yh_ hd
  skip
  have HB := Yh_ hB1
  clear hB1 hdep
  go_wp2_with (go_at_call 15; have hm0 := HB.out.k.m; rw [HD.out] at hm0; refine (sw_mul hm0 HS.out.1 HS.out.2.1 HS.out.2.2).mono ?_; rintro e w6 ⟨rfl, hm6, hu6⟩; unfold Flt.val Flt.zero)
  first
  |exact hK _ (HB.out.call hm6 hu6 (by decide) (by decide) (by decide) (by decide))
  |exact (HB.out.call hm6 hu6 (by decide) (by decide) (by decide) (by decide))
 ·exact ⟨_, rfl⟩
 apply Yd rfl rfl
 ·intro dn r0 K hd hdep hK w5 hB1
  skip
  skip
  have HB := Yh_ hB1
  clear hB1 hdep
  go_wp2_with fail
  first
  |exact hK _ (HB.out.same _ (by decide) (by decide) (by decide) (by decide) (by decide))
  |exact (HB.out.same _ (by decide) (by decide) (by decide) (by decide) (by decide))
 ·exact ⟨_, rfl⟩
 apply Yd rfl rfl
 ·intro dn r0 K hd hdep hK w5 hB1
  skip
  skip
  have HB := Yh_ hB1
  clear hB1 hdep
  go_wp2_with fail
  first
  |exact hK _ (HB.out.same _ (by decide) (by decide) (by decide) (by decide) (by decide))
  |exact (HB.out.same _ (by decide) (by decide) (by decide) (by decide) (by decide))
 ·exact ⟨_, rfl⟩
 apply Yd rfl rfl
 ·intro dn r0 K hd hdep hK w5 hB1
  skip
  skip
  have HB := Yh_ hB1
  clear hB1 hdep
  go_wp2_with fail
  first
  |exact hK _ (HB.out.same _ (by decide) (by decide) (by decide) (by decide) (by decide))
  |exact (HB.out.same _ (by decide) (by decide) (by decide) (by decide) (by decide))
 ·exact ⟨_, rfl⟩
 apply Yd rfl rfl
 ·intro dn r0 K hd hdep hK w5 hB1
  skip
  skip
  have HB := Yh_ hB1
  clear hB1 hdep
  go_wp2_with fail
  first
  |exact hK _ (HB.out.same _ (by decide) (by decide) (by decide) (by decide) (by decide))
  |exact (HB.out.same _ (by decide) (by decide) (by decide) (by decide) (by decide))
 ·exact ⟨_, rfl⟩
 refine Yar rfl (fun _ => rfl) 10 rfl (by simp [Act.put]) ?_ ?_
 ·intro dn r0 K hd w5 hB1 hK
  have HB := Yh_ hB1
  clear hB1
  simp only [Yo]
  go_wp2_with fail
  first
  |exact hK (.pointer (some ⟨w5.heap.size, 0, none⟩)) _ (HB.out.layS hd (by decide) (by decide) (by decide) (by decide))
  |exact HB.out.layS hd (by decide) (by decide) (by decide) (by decide)
 refine Yar rfl (fun _ => rfl) 11 rfl (by simp [Act.put]) ?_ ?_
 ·intro dn r0 K hd w5 hB1 hK
  have HB := Yh_ hB1
  clear hB1
  simp only [Yo]
  go_wp2_with fail
  first
  |exact hK (.pointer (some ⟨w5.heap.size, 0, none⟩)) _ (HB.out.layF hd (by decide) (by decide) (by decide) (by decide))
  |exact HB.out.layF hd (by decide) (by decide) (by decide) (by decide)
 apply Ya6 rfl (fun _ => rfl)
 ·intro dn r0 K hd hdep hK w5 hB1
  have h8 : dn 9 = true := hdep ⟨9, .data⟩ (by simp) rfl
  obtain ⟨g0, e1, e2, e3⟩ := hB1.x h8
  refine Ybs (swM s a b) g0 _ _ rfl (by show r0 9 = _; exact e1) rfl e3 (by cases dn 11 <;> rfl) ?_
  intro w6 hw; rw [← hw]
  exact hK _ (hB1.putS h8 e1 (by decide) (by decide) (by decide) (by decide))
 ·exact ⟨undef, fun _ => rfl, Eq.symm (by go_simp; exact rfl)⟩
 apply Ya6 rfl (fun _ => rfl)
 ·intro dn r0 K hd hdep hK w5 hB1
  have h8 : dn 10 = true := hdep ⟨10, .data⟩ (by simp) rfl
  obtain ⟨g0, e1, e2, e3⟩ := hB1.y h8
  refine Ybz Flt.zero (cond (dn 12) Flt.zero Flt.zero) g0 _ _ rfl (by show r0 10 = _; exact e1) rfl (by rw [e3]; cases dn 12 <;> rfl) ?_
  skip
  exact hK _ (hB1.putF h8 e1 (by decide) (by decide) (by decide) (by decide))
 ·exact ⟨undef, fun _ => rfl, Eq.symm (by go_simp; exact rfl)⟩
 apply Ya6 rfl (fun _ => rfl)
 ·intro dn r0 K hd hdep hK w5 hB1
  skip
  skip
  have HB := Yh_ hB1
  clear hB1 hdep
  simp only [Yo]
  go_wp2_with fail
  first
  |exact hK _ (HB.out.same _ (by decide) (by decide) (by decide) (by decide) (by decide))
  |exact (HB.out.same _ (by decide) (by decide) (by decide) (by decide) (by decide))
 ·exact ⟨_, fun _ => rfl, Eq.symm (by go_simp; exact rfl)⟩
 refine Yaz (fun _ r0 w30 dn hall hB2 => ?_)
 obtain ⟨ga0, gb0, e1, e2, hK⟩ := hB2.fin (hall 4 (by decide)) (hall 9 (by decide)) (hall 10 (by decide)) (hall 11 (by decide)) (hall 12 (by decide))
 have Q1 := Yh_ hK
 show wpList _ _ _ _ (Act.put (Act.put (Yo _ _ [] _) (some 10) (r0 9)) (some 11) (r0 10)) _
 rw [e1, e2]
 simp only [Yo]
 clear e1 e2 hK hall hB2 Q0
 have d1 : w30.cell? ⟨ga0, 2, none⟩ = some (.int .u32 hi) := by rw [← HL.out.2]; exact (Ya (Q1.out.get 1 rfl) 2).trans (St.cR _ 2 (by decide))
 have d2 : w30.cell? ⟨ga0, 0, none⟩ = some (.int .u32 lo) := by rw [← HL.out.1]; exact (Ya (Q1.out.get 1 rfl) 0).trans (St.cR _ 0 (by decide))
 have f1 := Yj (Q1.out.get 1 rfl)
 go_wp2_with fail
 have hk := (Q1.out.putR 1 rfl 0 (by decide) x).putR 1 rfl 2 (by decide) y
 dsimp only [List.set] at hk
 have Q2 := Yh_ (show Kq w p pb Mem.zero [(gb0, .cells (Yac Flt.zero) 35 (0, 0)), (ga0, .cells (St.cells (swN s a b x y)) 28 (0, 0)), (w.heap.size, .cells (St.cells (swT s a b)) 28 (0, 0))] _ from hk)
 clear hk Q1 d1 d2 f1
 refine Ya8 14 (Kd w p pb Mem.zero Mem.zero [(gb0, .cells (Yac Flt.zero) 35 (0, 0)), (ga0, .cells (St.cells (swN s a b x y)) 28 (0, 0)), (w.heap.size, .cells (St.cells (swT s a b)) 28 (0, 0))] _ (swV s a b x y a r1) Flt.zero 4 9 10 11 12) (fun _ _ => False) (by kernel_rfl) (by decide +kernel) (fun r0 => Kd.start Q2.out Mem.zero (swV s a b x y a r1) Flt.zero 4 9 10 11 12 r0) (fun _ _ _ h => h.elim) ?_
 simp only [List.take_succ_cons, List.take_zero, List.drop_succ_cons, List.drop_zero]
 apply Yd rfl rfl
 ·intro dn r0 K hd hdep hK w5 hB1
  skip
  skip
  have HB := Yh_ hB1
  clear hB1 hdep
  go_wp2_with fail
  first
  |exact hK _ (HB.out.same _ (by decide) (by decide) (by decide) (by decide) (by decide))
  |exact (HB.out.same _ (by decide) (by decide) (by decide) (by decide) (by decide))
 ·exact ⟨_, rfl⟩
 apply Yd rfl rfl
 ·intro dn r0 K hd hdep hK w5 hB1
  refine Ybj (swN s a b x y) _ _ rfl rfl (hB1.k.get 1 rfl) ?_
  exact hK _ (hB1.same _ (by decide) (by decide) (by decide) (by decide) (by decide))
 ·exact ⟨_, rfl⟩
 apply Yd rfl rfl
 ·intro dn r0 K hd hdep hK w5 hB1
  skip
  skip
  have HB := Yh_ hB1
  clear hB1 hdep
  go_wp2_with (go_at_call 19; refine (Ygi _ _).mono ?_; rintro e w6 ⟨rfl, hu⟩)
  first
  |exact hK _ (HB.out.quiet hu _ (by decide) (by decide) (by decide) (by decide) (by decide))
  |exact (HB.out.quiet hu _ (by decide) (by decide) (by decide) (by decide) (by decide))
 ·exact ⟨_, rfl⟩
 apply Yd rfl rfl
 ·intro dn r0 K hd hdep hK w5 hB1
  skip
  skip
  have HB := Yh_ hB1
  clear hB1 hdep
  go_wp2_with fail
  first
  |exact hK _ (HB.out.same _ (by decide) (by decide) (by decide) (by decide) (by decide))
  |exact (HB.out.same _ (by decide) (by decide) (by decide) (by decide) (by decide))
 ·exact ⟨_, rfl⟩
 apply Yd rfl rfl
 ·intro dn r0 K hd hdep hK w5 hB1
  have HD := Yh_ hd
  skip
  have HB := Yh_ hB1
  clear hB1 hdep
  go_wp2_with (go_at_call 15; have hm0 := HB.out.k.m; rw [HD.out] at hm0; refine (sw_div hm0 HS.out.1 HS.out.2.1 HBB.out.1 HBB.out.2.1 HBB.out.2.2.1 HBB.out.2.2.2).mono ?_; rintro e w6 ⟨rfl, hm6, hu6⟩; unfold Flt.val Flt.zero)
  first
  |exact hK _ (HB.out.call hm6 hu6 (by decide) (by decide) (by decide) (by decide))
  |exact (HB.out.call hm6 hu6 (by decide) (by decide) (by decide) (by decide))
 ·exact ⟨_, rfl⟩
 apply Yd rfl rfl
 ·intro dn r0 K hd hdep hK w5 hB1
  skip
  skip
  have HB := Yh_ hB1
  clear hB1 hdep
  go_wp2_with fail
  first
  |exact hK _ (HB.out.same _ (by decide) (by decide) (by decide) (by decide) (by decide))
  |exact (HB.out.same _ (by decide) (by decide) (by decide) (by decide) (by decide))
 ·exact ⟨_, rfl⟩
 apply Yd rfl rfl
 ·intro dn r0 K hd hdep hK w5 hB1
  skip
  skip
  have HB := Yh_ hB1
  clear hB1 hdep
  go_wp2_with fail
  first
  |exact hK _ (HB.out.same _ (by decide) (by decide) (by decide) (by decide) (by decide))
  |exact (HB.out.same _ (by decide) (by decide) (by decide) (by decide) (by decide))
 ·exact ⟨_, rfl⟩
 apply Yd rfl rfl
 ·intro dn r0 K hd hdep hK w5 hB1
  skip
  skip
  have HB := Yh_ hB1
  clear hB1 hdep
  go_wp2_with fail
  first
  |exact hK _ (HB.out.same _ (by decide) (by decide) (by decide) (by decide) (by decide))
  |exact (HB.out.same _ (by decide) (by decide) (by decide) (by decide) (by decide))
 ·exact ⟨_, rfl⟩
 apply Yd rfl rfl
 ·intro dn r0 K hd hdep hK w5 hB1
  skip
  skip
  have HB := Yh_ hB1
  clear hB1 hdep
  go_wp2_with fail
  first
  |exact hK _ (HB.out.same _ (by decide) (by decide) (by decide) (by decide) (by decide))
  |exact (HB.out.same _ (by decide) (by decide) (by decide) (by decide) (by decide))
 ·exact ⟨_, rfl⟩
 refine Yar rfl (fun _ => rfl) 19 rfl (by simp [Act.put]) ?_ ?_
 ·intro dn r0 K hd w5 hB1 hK
  have HB := Yh_ hB1
  clear hB1
  simp only [Yo]
  go_wp2_with fail
  first
  |exact hK (.pointer (some ⟨w5.heap.size, 0, none⟩)) _ (HB.out.layS hd (by decide) (by decide) (by decide) (by decide))
  |exact HB.out.layS hd (by decide) (by decide) (by decide) (by decide)
 refine Yar rfl (fun _ => rfl) 20 rfl (by simp [Act.put]) ?_ ?_
 ·intro dn r0 K hd w5 hB1 hK
  have HB := Yh_ hB1
  clear hB1
  simp only [Yo]
  go_wp2_with fail
  first
  |exact hK (.pointer (some ⟨w5.heap.size, 0, none⟩)) _ (HB.out.layF hd (by decide) (by decide) (by decide) (by decide))
  |exact HB.out.layF hd (by decide) (by decide) (by decide) (by decide)
 apply Ya6 rfl (fun _ => rfl)
 ·intro dn r0 K hd hdep hK w5 hB1
  have h8 : dn 9 = true := hdep ⟨9, .data⟩ (by simp) rfl
  obtain ⟨g0, e1, e2, e3⟩ := hB1.x h8
  refine Ybs (swV s a b x y a r1) g0 _ _ rfl (by show r0 9 = _; exact e1) rfl e3 (by cases dn 11 <;> rfl) ?_
  intro w6 hw; rw [← hw]
  exact hK _ (hB1.putS h8 e1 (by decide) (by decide) (by decide) (by decide))
 ·exact ⟨undef, fun _ => rfl, Eq.symm (by go_simp; exact rfl)⟩
 apply Ya6 rfl (fun _ => rfl)
 ·intro dn r0 K hd hdep hK w5 hB1
  have h8 : dn 10 = true := hdep ⟨10, .data⟩ (by simp) rfl
  obtain ⟨g0, e1, e2, e3⟩ := hB1.y h8
  refine Ybz Flt.zero (cond (dn 12) Flt.zero Flt.zero) g0 _ _ rfl (by show r0 10 = _; exact e1) rfl (by rw [e3]; cases dn 12 <;> rfl) ?_
  skip
  exact hK _ (hB1.putF h8 e1 (by decide) (by decide) (by decide) (by decide))
 ·exact ⟨undef, fun _ => rfl, Eq.symm (by go_simp; exact rfl)⟩
 apply Ya6 rfl (fun _ => rfl)
 ·intro dn r0 K hd hdep hK w5 hB1
  skip
  skip
  have HB := Yh_ hB1
  clear hB1 hdep
  simp only [Yo]
  go_wp2_with fail
  first
  |exact hK _ (HB.out.same _ (by decide) (by decide) (by decide) (by decide) (by decide))
  |exact (HB.out.same _ (by decide) (by decide) (by decide) (by decide) (by decide))
 ·exact ⟨_, fun _ => rfl, Eq.symm (by go_simp; exact rfl)⟩
 refine Yaz (fun _ r0 w32 dn hall hB2 => ?_)
 obtain ⟨ga2, gb2, e1, e2, hK⟩ := hB2.fin (hall 4 (by decide)) (hall 9 (by decide)) (hall 10 (by decide)) (hall 11 (by decide)) (hall 12 (by decide))
 have Q3 := Yh_ hK
 show wpList _ _ _ _ (Act.put (Act.put (Yo _ _ [] _) (some 19) (r0 9)) (some 20) (r0 10)) _
 rw [e1, e2]
 simp only [Yo]
 clear e1 e2 hK hall hB2 Q2
 have tc : True := trivial
 go_upto_region 17 with (first | (have _t := tc; have _t2 := Q3; clear _t _t2 tc; refine Yal 28 rfl ?_; refine Yab (swV s a b x y a r1) ga2 rfl _ rfl rfl (Q3.out.get 1 rfl) ?_) | (have _t := Q3; clear _t; go_at_call 15; refine (sw_cdq Q3.out.m HV.out).mono ?_; rintro e w41 ⟨rfl, hm, hu⟩; unfold Flt.val Flt.zero; have Q4 := Yh_ (Q3.out.step hm hu); clear hm hu Q3) | (have _t := Q4; clear _t; refine Ye 28 rfl ?_; refine Yau (swC s a b x y a r1) w41.heap.size rfl _ _ rfl rfl rfl (heap_alloc2_old w41 (.cells St.zero.cells 28) (.cells #[.int .i64 0, .int .u32 0, .int .u32 0, .int .i64 0] 35)) rfl ?_; intro w42 hw; have h2 := Yhc hw; have h3 := Q4.out.two (F := Flt.zero) h2; dsimp only [Flt.zero] at h3; have ct := Ya h2.2.1; have ft := Yj h2.2.1; have Q5 := Yh_ h3; clear hw h2 h3 Q4))
 have dC : ((((w42.setCell ⟨w41.heap.size + 1, 0, none⟩ (.int .i64 0)).setCell ⟨w41.heap.size + 1, 1, none⟩ (.int .u32 0)).setCell ⟨w41.heap.size + 1, 2, none⟩ (.int .u32 0)).setCell ⟨w41.heap.size + 1, 3, none⟩ (.int .i64 0)).cell? ⟨w41.heap.size, 2, none⟩ = some (.int .u32 (Ye5 a)) := (Ya (Q5.out.get 1 rfl) 2).trans (St.cR _ 2 (by decide))
 have dV0 : ((((w42.setCell ⟨w41.heap.size + 1, 0, none⟩ (.int .i64 0)).setCell ⟨w41.heap.size + 1, 1, none⟩ (.int .u32 0)).setCell ⟨w41.heap.size + 1, 2, none⟩ (.int .u32 0)).setCell ⟨w41.heap.size + 1, 3, none⟩ (.int .i64 0)).cell? ⟨ga2, 0, none⟩ = some (.int .u32 a) := (Ya (Q5.out.get 3 rfl) 0).trans (St.cR _ 0 (by decide))
 have dV2 : ((((w42.setCell ⟨w41.heap.size + 1, 0, none⟩ (.int .i64 0)).setCell ⟨w41.heap.size + 1, 1, none⟩ (.int .u32 0)).setCell ⟨w41.heap.size + 1, 2, none⟩ (.int .u32 0)).setCell ⟨w41.heap.size + 1, 3, none⟩ (.int .i64 0)).cell? ⟨ga2, 2, none⟩ = some (.int .u32 r1) := (Ya (Q5.out.get 3 rfl) 2).trans (St.cR _ 2 (by decide))
 have dG0 : ((((w42.setCell ⟨w41.heap.size + 1, 0, none⟩ (.int .i64 0)).setCell ⟨w41.heap.size + 1, 1, none⟩ (.int .u32 0)).setCell ⟨w41.heap.size + 1, 2, none⟩ (.int .u32 0)).setCell ⟨w41.heap.size + 1, 3, none⟩ (.int .i64 0)).cell? ⟨ga2, 9, none⟩ = some (.bool (Yb6 16 a b s.fl).cf) := Ya (Q5.out.get 3 rfl) 9
 have dH0 : ((((w42.setCell ⟨w41.heap.size + 1, 0, none⟩ (.int .i64 0)).setCell ⟨w41.heap.size + 1, 1, none⟩ (.int .u32 0)).setCell ⟨w41.heap.size + 1, 2, none⟩ (.int .u32 0)).setCell ⟨w41.heap.size + 1, 3, none⟩ (.int .i64 0)).cell? ⟨ga0, 9, none⟩ = some (.bool (Yb6 16 a b s.fl).cf) := Ya (Q5.out.get 5 rfl) 9
 have dG1 : ((((w42.setCell ⟨w41.heap.size + 1, 0, none⟩ (.int .i64 0)).setCell ⟨w41.heap.size + 1, 1, none⟩ (.int .u32 0)).setCell ⟨w41.heap.size + 1, 2, none⟩ (.int .u32 0)).setCell ⟨w41.heap.size + 1, 3, none⟩ (.int .i64 0)).cell? ⟨ga2, 10, none⟩ = some (.bool (Yb6 16 a b s.fl).pf) := Ya (Q5.out.get 3 rfl) 10
 have dH1 : ((((w42.setCell ⟨w41.heap.size + 1, 0, none⟩ (.int .i64 0)).setCell ⟨w41.heap.size + 1, 1, none⟩ (.int .u32 0)).setCell ⟨w41.heap.size + 1, 2, none⟩ (.int .u32 0)).setCell ⟨w41.heap.size + 1, 3, none⟩ (.int .i64 0)).cell? ⟨ga0, 10, none⟩ = some (.bool (Yb6 16 a b s.fl).pf) := Ya (Q5.out.get 5 rfl) 10
 have dG2 : ((((w42.setCell ⟨w41.heap.size + 1, 0, none⟩ (.int .i64 0)).setCell ⟨w41.heap.size + 1, 1, none⟩ (.int .u32 0)).setCell ⟨w41.heap.size + 1, 2, none⟩ (.int .u32 0)).setCell ⟨w41.heap.size + 1, 3, none⟩ (.int .i64 0)).cell? ⟨ga2, 11, none⟩ = some (.bool (Yb6 16 a b s.fl).af) := Ya (Q5.out.get 3 rfl) 11
 have dH2 : ((((w42.setCell ⟨w41.heap.size + 1, 0, none⟩ (.int .i64 0)).setCell ⟨w41.heap.size + 1, 1, none⟩ (.int .u32 0)).setCell ⟨w41.heap.size + 1, 2, none⟩ (.int .u32 0)).setCell ⟨w41.heap.size + 1, 3, none⟩ (.int .i64 0)).cell? ⟨ga0, 11, none⟩ = some (.bool (Yb6 16 a b s.fl).af) := Ya (Q5.out.get 5 rfl) 11
 have dG3 : ((((w42.setCell ⟨w41.heap.size + 1, 0, none⟩ (.int .i64 0)).setCell ⟨w41.heap.size + 1, 1, none⟩ (.int .u32 0)).setCell ⟨w41.heap.size + 1, 2, none⟩ (.int .u32 0)).setCell ⟨w41.heap.size + 1, 3, none⟩ (.int .i64 0)).cell? ⟨ga2, 12, none⟩ = some (.bool (Yb6 16 a b s.fl).zf) := Ya (Q5.out.get 3 rfl) 12
 have dH3 : ((((w42.setCell ⟨w41.heap.size + 1, 0, none⟩ (.int .i64 0)).setCell ⟨w41.heap.size + 1, 1, none⟩ (.int .u32 0)).setCell ⟨w41.heap.size + 1, 2, none⟩ (.int .u32 0)).setCell ⟨w41.heap.size + 1, 3, none⟩ (.int .i64 0)).cell? ⟨ga0, 12, none⟩ = some (.bool (Yb6 16 a b s.fl).zf) := Ya (Q5.out.get 5 rfl) 12
 have dG4 : ((((w42.setCell ⟨w41.heap.size + 1, 0, none⟩ (.int .i64 0)).setCell ⟨w41.heap.size + 1, 1, none⟩ (.int .u32 0)).setCell ⟨w41.heap.size + 1, 2, none⟩ (.int .u32 0)).setCell ⟨w41.heap.size + 1, 3, none⟩ (.int .i64 0)).cell? ⟨ga2, 13, none⟩ = some (.bool (Yb6 16 a b s.fl).sf) := Ya (Q5.out.get 3 rfl) 13
 have dH4 : ((((w42.setCell ⟨w41.heap.size + 1, 0, none⟩ (.int .i64 0)).setCell ⟨w41.heap.size + 1, 1, none⟩ (.int .u32 0)).setCell ⟨w41.heap.size + 1, 2, none⟩ (.int .u32 0)).setCell ⟨w41.heap.size + 1, 3, none⟩ (.int .i64 0)).cell? ⟨ga0, 13, none⟩ = some (.bool (Yb6 16 a b s.fl).sf) := Ya (Q5.out.get 5 rfl) 13
 have dG5 : ((((w42.setCell ⟨w41.heap.size + 1, 0, none⟩ (.int .i64 0)).setCell ⟨w41.heap.size + 1, 1, none⟩ (.int .u32 0)).setCell ⟨w41.heap.size + 1, 2, none⟩ (.int .u32 0)).setCell ⟨w41.heap.size + 1, 3, none⟩ (.int .i64 0)).cell? ⟨ga2, 14, none⟩ = some (.bool (Yb6 16 a b s.fl).of_) := Ya (Q5.out.get 3 rfl) 14
 have dH5 : ((((w42.setCell ⟨w41.heap.size + 1, 0, none⟩ (.int .i64 0)).setCell ⟨w41.heap.size + 1, 1, none⟩ (.int .u32 0)).setCell ⟨w41.heap.size + 1, 2, none⟩ (.int .u32 0)).setCell ⟨w41.heap.size + 1, 3, none⟩ (.int .i64 0)).cell? ⟨ga0, 14, none⟩ = some (.bool (Yb6 16 a b s.fl).of_) := Ya (Q5.out.get 5 rfl) 14
 have hEF := Yma (Yb6 16 a b s.fl).cf (Yb6 16 a b s.fl).pf (Yb6 16 a b s.fl).af (Yb6 16 a b s.fl).zf (Yb6 16 a b s.fl).sf (Yb6 16 a b s.fl).of_
 go_wp2_with fail
 go_ret
 exact ⟨rfl, Q5.out.u⟩
theorem Yjx (s : St) (a b r : Int) (w : World) (hs : s.Ok) (ha : 0 ≤ a ∧ a < 4294967296) (hb : 0 ≤ b ∧ b < 4294967296) (hr : 0 ≤ r ∧ r < 4294967296) :
  Calls Tryz.prog 8 #[.agg s.cells, .int .u32 a, .int .u32 b, .int .u32 r] w fun e w' => e = .returned (.bool true) ∧ Upd [] w w' := by
 by_cases h0 : b = 0
 ·subst h0; exact sw_none s a r w hs ha hr
 ·exact sw_some s a b r w hs ha (by omega) hr
end Go.Proofs.YthakgjpejhjaoaaGreat
