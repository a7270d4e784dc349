/-
  Parts of the proof (their names shortened by a program). No condition.
-/
import Derived.Test.YthakgjpejhjaoaaGreatMg01
import Derived.Test.YthakgjpejhjaoaaGreatMg22
namespace Go.Proofs.YthakgjpejhjaoaaGreat
open Go Go.RowKit
set_option linter.unusedVariables false
set_option linter.unusedSimpArgs false
set_option maxRecDepth 100000
set_option maxHeartbeats 16000000
theorem scA_0 (T : St) (b : Bool) : (scA T b).R 0 = T.R 0 / 256 * 256 + (if b = true then 1 else 0) := by
 unfold scA St.setReg8
 rw [if_pos (by decide)]
 show T.R 0 / 256 * 256 + (if b = true then (1 : Int) else 0) % 256 = _
 cases b <;> rfl
theorem sc_true (s : St) (cc v d : Int) (w : World) (hs : s.Ok) (hc : 0 ≤ cc) (hv : 0 ≤ v ∧ v < 4294967296) (hd : 0 ≤ d ∧ d < 4294967296) (hb : Ybg s.fl (cc % 16) = true) :
  Calls Tryz.prog 7 #[.agg s.cells, .int .u8 cc, .int .u32 v, .int .u32 d] w fun e w' => e = .returned (.bool true) ∧ Upd [] w w' := by
 obtain ⟨c, hcc⟩ : ∃ c, cc % 16 = c := ⟨_, rfl⟩
 have e0 : cc.tmod 16 = c := by rw [Int.tmod_eq_emod_of_nonneg hc]; exact hcc
 have hc16 : 0 ≤ c ∧ c < 16 := by omega
 have e1 : wrap64 c = c := by unfold wrap64; omega
 have HC := Yh_ (And.intro (show Ybg (s.setR 2 v).fl c = true by rw [← hcc]; exact hb) (show Ybg (s.setR 2 v).fl (bits .xor .i64 c 1) = false by rw [Yi3 _ _ hc16, ← hcc, show Ybg (s.setR 2 v).fl (cc % 16) = true from hb]; rfl))
 have HT := Yh_ (St.setR_ok hs 2 hv.1 hv.2)
 have HD2 := Yh_ hd
 obtain ⟨a0, ha0⟩ : ∃ a0, (scA (s.setR 2 v) true).R 0 = a0 := ⟨_, rfl⟩
 obtain ⟨f0, hf0⟩ : ∃ f0, (scA (s.setR 2 v) false).R 0 = f0 := ⟨_, rfl⟩
 have h0 : 0 ≤ (s.setR 2 v).R 0 ∧ (s.setR 2 v).R 0 < 4294967296 := (St.setR_ok hs 2 hv.1 hv.2).R 0
 have ga : a0 = (s.setR 2 v).R 0 / 256 * 256 + 1 := by rw [← ha0, scA_0]; rfl
 have gf : f0 = (s.setR 2 v).R 0 / 256 * 256 + 0 := by rw [← hf0, scA_0]; rfl
 have m1 : bits .and .u32 a0 255 = 1 := by rw [Ye9 a0 (by omega) (by omega)]; omega
 have m2 : bits .and .u32 f0 255 = 0 := by rw [Ye9 f0 (by omega) (by omega)]; omega
 obtain ⟨hh, hhh⟩ : ∃ hh, (s.setR 2 v).R 0 / 256 = hh := ⟨_, rfl⟩
 have m3 : a0 / 256 = hh := by omega
 have HA := Yh_ (And.intro ha0 hf0)
 have hER := Yja (s.setR 2 v)
 have hEF := Yhn s.cf s.pf s.af s.zf s.sf s.of_
 clear hs hc hv hd hb hcc hc16 ha0 hf0 h0 ga gf
 have tok : True := trivial
 go_enter Tryz.func7, Tryz.ntmps7
 go_wp2_with (first | (have _t := tok; clear _t; go_at_call 12; refine (Yhm _).mono ?_; rintro e w0 ⟨rfl, hu0⟩; clear tok) | (have _t := hu0; clear _t; go_at_call 13; refine (Yir _).mono ?_; rintro e w1 ⟨a, pb, rfl, ha, hp, hM1, hu1⟩; have K0 := Yh_ (show Kn w a pb Mem.zero [(w.heap.size, .cells (St.cells s) 28 (0, 0))] w1 from Kn.start1 hu0 ha hp hM1 hu1); clear hu0 hu1 ha hp hM1; have c0_r2_0 : w1.cell? ⟨w.heap.size, 2, none⟩ = some (.int .u32 (((s) : St).R 2)) := (Ya (K0.out.get 0 rfl) 2).trans (St.cR _ 2 (by decide)); have c1_free_0 := Yl (K0.out.get 0 rfl)))
 have hk := K0.out.putR 0 rfl 2 (by decide) v
 dsimp only [List.set] at hk
 have Q0 := Yh_ (Kq.of hk)
 clear hk K0 c0_r2_0 c1_free_0
 simp only [e1]
 refine Yar 15 (Kd w a pb Mem.zero Mem.zero [(w.heap.size, .cells (St.cells (s.setR 2 v)) 28 (0, 0))] _ (scA (s.setR 2 v) true) Flt.zero 5 10 11 12 13) (fun _ _ => False) (by kernel_rfl) (by decide +kernel) (fun r0 => Kd.start Q0.out Mem.zero (scA (s.setR 2 v) true) Flt.zero 5 10 11 12 13 r0) (fun _ _ _ h => h.elim) ?_
 simp only [List.take_succ_cons, List.take_zero, List.drop_succ_cons, List.drop_zero]
 apply Yc rfl rfl
 ·intro dn r0 K hd hdep hK w5 hB1
  skip
  skip
  have HB := Yh_ hB1
  clear hB1 hdep
  go_wp2_with fail
  first
  |exact hK _ (HB.out.same _ (by decide) (by decide) (by decide) (by decide) (by decide))
  |exact (HB.out.same _ (by decide) (by decide) (by decide) (by decide) (by decide))
 ·exact ⟨_, rfl⟩
 apply Yc rfl rfl
 ·intro dn r0 K hd hdep hK w5 hB1
  refine Ya9 (s.setR 2 v) _ _ rfl rfl (hB1.k.get 0 rfl) ?_
  exact hK _ (hB1.same _ (by decide) (by decide) (by decide) (by decide) (by decide))
 ·exact ⟨_, rfl⟩
 apply Yc rfl rfl
 ·intro dn r0 K hd hdep hK w5 hB1
  skip
  skip
  have HB := Yh_ hB1
  clear hB1 hdep
  go_wp2_with fail
  first
  |exact hK _ (HB.out.same _ (by decide) (by decide) (by decide) (by decide) (by decide))
  |exact (HB.out.same _ (by decide) (by decide) (by decide) (by decide) (by decide))
 ·exact ⟨_, rfl⟩
 apply Yc rfl rfl
 ·intro dn r0 K hd hdep hK w5 hB1
  skip
  skip
  have HB := Yh_ hB1
  clear hB1 hdep
  go_wp2_with (go_at_call 19; refine (Ydo _ _).mono ?_; rintro e w6 ⟨rfl, hu⟩)
  first
  |exact hK _ (HB.out.quiet hu _ (by decide) (by decide) (by decide) (by decide) (by decide))
  |exact (HB.out.quiet hu _ (by decide) (by decide) (by decide) (by decide) (by decide))
 ·exact ⟨_, rfl⟩
 apply Yc rfl rfl
 ·intro dn r0 K hd hdep hK w5 hB1
  skip
  skip
  have HB := Yh_ hB1
  clear hB1 hdep
  go_wp2_with fail
  first
  |exact hK _ (HB.out.same _ (by decide) (by decide) (by decide) (by decide) (by decide))
  |exact (HB.out.same _ (by decide) (by decide) (by decide) (by decide) (by decide))
 ·exact ⟨_, rfl⟩
 apply Yc rfl rfl
 ·intro dn r0 K hd hdep hK w5 hB1
  have HD := Yh_ hd
  skip
  have HB := Yh_ hB1
  clear hB1 hdep
  go_wp2_with (go_at_call 15; have hm0 := HB.out.k.m; rw [HD.out] at hm0; refine (Yid true hm0 HT.out HC.out.1).mono ?_; rintro e w6 ⟨rfl, hm6, hu6⟩; unfold Flt.val Flt.zero)
  first
  |exact hK _ (HB.out.call hm6 hu6 (by decide) (by decide) (by decide) (by decide))
  |exact (HB.out.call hm6 hu6 (by decide) (by decide) (by decide) (by decide))
 ·exact ⟨_, rfl⟩
 apply Yc rfl rfl
 ·intro dn r0 K hd hdep hK w5 hB1
  skip
  skip
  have HB := Yh_ hB1
  clear hB1 hdep
  go_wp2_with fail
  first
  |exact hK _ (HB.out.same _ (by decide) (by decide) (by decide) (by decide) (by decide))
  |exact (HB.out.same _ (by decide) (by decide) (by decide) (by decide) (by decide))
 ·exact ⟨_, rfl⟩
 apply Yc rfl rfl
 ·intro dn r0 K hd hdep hK w5 hB1
  skip
  skip
  have HB := Yh_ hB1
  clear hB1 hdep
  go_wp2_with fail
  first
  |exact hK _ (HB.out.same _ (by decide) (by decide) (by decide) (by decide) (by decide))
  |exact (HB.out.same _ (by decide) (by decide) (by decide) (by decide) (by decide))
 ·exact ⟨_, rfl⟩
 apply Yc rfl rfl
 ·intro dn r0 K hd hdep hK w5 hB1
  skip
  skip
  have HB := Yh_ hB1
  clear hB1 hdep
  go_wp2_with fail
  first
  |exact hK _ (HB.out.same _ (by decide) (by decide) (by decide) (by decide) (by decide))
  |exact (HB.out.same _ (by decide) (by decide) (by decide) (by decide) (by decide))
 ·exact ⟨_, rfl⟩
 apply Yc rfl rfl
 ·intro dn r0 K hd hdep hK w5 hB1
  skip
  skip
  have HB := Yh_ hB1
  clear hB1 hdep
  go_wp2_with fail
  first
  |exact hK _ (HB.out.same _ (by decide) (by decide) (by decide) (by decide) (by decide))
  |exact (HB.out.same _ (by decide) (by decide) (by decide) (by decide) (by decide))
 ·exact ⟨_, rfl⟩
 refine Yy rfl (fun _ => rfl) 11 rfl (by simp [Act.put]) ?_ ?_
 ·intro dn r0 K hd w5 hB1 hK
  have HB := Yh_ hB1
  clear hB1
  simp only [Yn]
  go_wp2_with fail
  first
  |exact hK (.pointer (some ⟨w5.heap.size, 0, none⟩)) _ (HB.out.layS hd (by decide) (by decide) (by decide) (by decide))
  |exact HB.out.layS hd (by decide) (by decide) (by decide) (by decide)
 refine Yy rfl (fun _ => rfl) 12 rfl (by simp [Act.put]) ?_ ?_
 ·intro dn r0 K hd w5 hB1 hK
  have HB := Yh_ hB1
  clear hB1
  simp only [Yn]
  go_wp2_with fail
  first
  |exact hK (.pointer (some ⟨w5.heap.size, 0, none⟩)) _ (HB.out.layF hd (by decide) (by decide) (by decide) (by decide))
  |exact HB.out.layF hd (by decide) (by decide) (by decide) (by decide)
 apply Yab rfl (fun _ => rfl)
 ·intro dn r0 K hd hdep hK w5 hB1
  have h8 : dn 10 = true := hdep ⟨10, .data⟩ (by simp) rfl
  obtain ⟨g0, e1, e2, e3⟩ := hB1.x h8
  refine Ya1 (scA (s.setR 2 v) true) g0 _ _ rfl (by show r0 10 = _; exact e1) rfl e3 (by cases dn 12 <;> rfl) ?_
  intro w6 hw; rw [← hw]
  exact hK _ (hB1.putS h8 e1 (by decide) (by decide) (by decide) (by decide))
 ·exact ⟨undef, fun _ => rfl, Eq.symm (by go_simp; exact rfl)⟩
 apply Yab rfl (fun _ => rfl)
 ·intro dn r0 K hd hdep hK w5 hB1
  have h8 : dn 11 = true := hdep ⟨11, .data⟩ (by simp) rfl
  obtain ⟨g0, e1, e2, e3⟩ := hB1.y h8
  refine Yba Flt.zero (cond (dn 13) Flt.zero Flt.zero) g0 _ _ rfl (by show r0 11 = _; exact e1) rfl (by rw [e3]; cases dn 13 <;> rfl) ?_
  skip
  exact hK _ (hB1.putF h8 e1 (by decide) (by decide) (by decide) (by decide))
 ·exact ⟨undef, fun _ => rfl, Eq.symm (by go_simp; exact rfl)⟩
 apply Yab rfl (fun _ => rfl)
 ·intro dn r0 K hd hdep hK w5 hB1
  skip
  skip
  have HB := Yh_ hB1
  clear hB1 hdep
  simp only [Yn]
  go_wp2_with fail
  first
  |exact hK _ (HB.out.same _ (by decide) (by decide) (by decide) (by decide) (by decide))
  |exact (HB.out.same _ (by decide) (by decide) (by decide) (by decide) (by decide))
 ·exact ⟨_, fun _ => rfl, Eq.symm (by go_simp; exact rfl)⟩
 refine Yak (fun _ r0 w30 dn hall hB2 => ?_)
 obtain ⟨ga0, gb0, e1, e2, hK⟩ := hB2.fin (hall 5 (by decide)) (hall 10 (by decide)) (hall 11 (by decide)) (hall 12 (by decide)) (hall 13 (by decide))
 have Q1 := Yh_ hK
 show wpList _ _ _ _ (Act.put (Act.put (Yn _ _ [] _) (some 11) (r0 10)) (some 12) (r0 11)) _
 rw [e1, e2]
 simp only [Yn]
 clear e1 e2 hK hall hB2 Q0
 go_wp2_with fail
 refine Yar 16 (Kd w a pb Mem.zero Mem.zero [(gb0, .cells (Yt Flt.zero) 35 (0, 0)), (ga0, .cells (St.cells (scA (s.setR 2 v) true)) 28 (0, 0)), (w.heap.size, .cells (St.cells (s.setR 2 v)) 28 (0, 0))] _ (scB (s.setR 2 v) true) Flt.zero 6 11 12 13 14) (fun _ _ => False) (by kernel_rfl) (by decide +kernel) (fun r0 => Kd.start Q1.out Mem.zero (scB (s.setR 2 v) true) Flt.zero 6 11 12 13 14 r0) (fun _ _ _ h => h.elim) ?_
 simp only [List.take_succ_cons, List.take_zero, List.drop_succ_cons, List.drop_zero]
 apply Yc rfl rfl
 ·intro dn r0 K hd hdep hK w5 hB1
  skip
  skip
  have HB := Yh_ hB1
  clear hB1 hdep
  go_wp2_with fail
  first
  |exact hK _ (HB.out.same _ (by decide) (by decide) (by decide) (by decide) (by decide))
  |exact (HB.out.same _ (by decide) (by decide) (by decide) (by decide) (by decide))
 ·exact ⟨_, rfl⟩
 apply Yc rfl rfl
 ·intro dn r0 K hd hdep hK w5 hB1
  refine Ya9 (s.setR 2 v) _ _ rfl rfl (hB1.k.get 2 rfl) ?_
  exact hK _ (hB1.same _ (by decide) (by decide) (by decide) (by decide) (by decide))
 ·exact ⟨_, rfl⟩
 apply Yc rfl rfl
 ·intro dn r0 K hd hdep hK w5 hB1
  skip
  skip
  have HB := Yh_ hB1
  clear hB1 hdep
  go_wp2_with fail
  first
  |exact hK _ (HB.out.same _ (by decide) (by decide) (by decide) (by decide) (by decide))
  |exact (HB.out.same _ (by decide) (by decide) (by decide) (by decide) (by decide))
 ·exact ⟨_, rfl⟩
 apply Yc rfl rfl
 ·intro dn r0 K hd hdep hK w5 hB1
  skip
  skip
  have HB := Yh_ hB1
  clear hB1 hdep
  go_wp2_with (go_at_call 19; refine (Ydo _ _).mono ?_; rintro e w6 ⟨rfl, hu⟩)
  first
  |exact hK _ (HB.out.quiet hu _ (by decide) (by decide) (by decide) (by decide) (by decide))
  |exact (HB.out.quiet hu _ (by decide) (by decide) (by decide) (by decide) (by decide))
 ·exact ⟨_, rfl⟩
 apply Yc rfl rfl
 ·intro dn r0 K hd hdep hK w5 hB1
  skip
  skip
  have HB := Yh_ hB1
  clear hB1 hdep
  go_wp2_with (go_at_call 19; refine (Ydo _ _).mono ?_; rintro e w6 ⟨rfl, hu⟩)
  first
  |exact hK _ (HB.out.quiet hu _ (by decide) (by decide) (by decide) (by decide) (by decide))
  |exact (HB.out.quiet hu _ (by decide) (by decide) (by decide) (by decide) (by decide))
 ·exact ⟨_, rfl⟩
 apply Yc rfl rfl
 ·intro dn r0 K hd hdep hK w5 hB1
  skip
  skip
  have HB := Yh_ hB1
  clear hB1 hdep
  go_wp2_with fail
  first
  |exact hK _ (HB.out.same _ (by decide) (by decide) (by decide) (by decide) (by decide))
  |exact (HB.out.same _ (by decide) (by decide) (by decide) (by decide) (by decide))
 ·exact ⟨_, rfl⟩
 apply Yc rfl rfl
 ·intro dn r0 K hd hdep hK w5 hB1
  have HD := Yh_ hd
  skip
  have HB := Yh_ hB1
  clear hB1 hdep
  go_wp2_with (go_at_call 15; have hm0 := HB.out.k.m; rw [HD.out] at hm0; refine (Yno true hm0 HT.out HC.out.1).mono ?_; rintro e w6 ⟨rfl, hm6, hu6⟩; unfold Flt.val Flt.zero)
  first
  |exact hK _ (HB.out.call hm6 hu6 (by decide) (by decide) (by decide) (by decide))
  |exact (HB.out.call hm6 hu6 (by decide) (by decide) (by decide) (by decide))
 ·exact ⟨_, rfl⟩
 apply Yc rfl rfl
 ·intro dn r0 K hd hdep hK w5 hB1
  skip
  skip
  have HB := Yh_ hB1
  clear hB1 hdep
  go_wp2_with fail
  first
  |exact hK _ (HB.out.same _ (by decide) (by decide) (by decide) (by decide) (by decide))
  |exact (HB.out.same _ (by decide) (by decide) (by decide) (by decide) (by decide))
 ·exact ⟨_, rfl⟩
 apply Yc rfl rfl
 ·intro dn r0 K hd hdep hK w5 hB1
  skip
  skip
  have HB := Yh_ hB1
  clear hB1 hdep
  go_wp2_with fail
  first
  |exact hK _ (HB.out.same _ (by decide) (by decide) (by decide) (by decide) (by decide))
  |exact (HB.out.same _ (by decide) (by decide) (by decide) (by decide) (by decide))
 ·exact ⟨_, rfl⟩
 apply Yc rfl rfl
 ·intro dn r0 K hd hdep hK w5 hB1
  skip
  skip
  have HB := Yh_ hB1
  clear hB1 hdep
  go_wp2_with fail
  first
  |exact hK _ (HB.out.same _ (by decide) (by decide) (by decide) (by decide) (by decide))
  |exact (HB.out.same _ (by decide) (by decide) (by decide) (by decide) (by decide))
 ·exact ⟨_, rfl⟩
 apply Yc rfl rfl
 ·intro dn r0 K hd hdep hK w5 hB1
  skip
  skip
  have HB := Yh_ hB1
  clear hB1 hdep
  go_wp2_with fail
  first
  |exact hK _ (HB.out.same _ (by decide) (by decide) (by decide) (by decide) (by decide))
  |exact (HB.out.same _ (by decide) (by decide) (by decide) (by decide) (by decide))
 ·exact ⟨_, rfl⟩
 refine Yy rfl (fun _ => rfl) 14 rfl (by simp [Act.put]) ?_ ?_
 ·intro dn r0 K hd w5 hB1 hK
  have HB := Yh_ hB1
  clear hB1
  simp only [Yn]
  go_wp2_with fail
  first
  |exact hK (.pointer (some ⟨w5.heap.size, 0, none⟩)) _ (HB.out.layS hd (by decide) (by decide) (by decide) (by decide))
  |exact HB.out.layS hd (by decide) (by decide) (by decide) (by decide)
 refine Yy rfl (fun _ => rfl) 15 rfl (by simp [Act.put]) ?_ ?_
 ·intro dn r0 K hd w5 hB1 hK
  have HB := Yh_ hB1
  clear hB1
  simp only [Yn]
  go_wp2_with fail
  first
  |exact hK (.pointer (some ⟨w5.heap.size, 0, none⟩)) _ (HB.out.layF hd (by decide) (by decide) (by decide) (by decide))
  |exact HB.out.layF hd (by decide) (by decide) (by decide) (by decide)
 apply Yab rfl (fun _ => rfl)
 ·intro dn r0 K hd hdep hK w5 hB1
  have h8 : dn 11 = true := hdep ⟨11, .data⟩ (by simp) rfl
  obtain ⟨g0, e1, e2, e3⟩ := hB1.x h8
  refine Ya1 (scB (s.setR 2 v) true) g0 _ _ rfl (by show r0 11 = _; exact e1) rfl e3 (by cases dn 13 <;> rfl) ?_
  intro w6 hw; rw [← hw]
  exact hK _ (hB1.putS h8 e1 (by decide) (by decide) (by decide) (by decide))
 ·exact ⟨undef, fun _ => rfl, Eq.symm (by go_simp; exact rfl)⟩
 apply Yab rfl (fun _ => rfl)
 ·intro dn r0 K hd hdep hK w5 hB1
  have h8 : dn 12 = true := hdep ⟨12, .data⟩ (by simp) rfl
  obtain ⟨g0, e1, e2, e3⟩ := hB1.y h8
  refine Yba Flt.zero (cond (dn 14) Flt.zero Flt.zero) g0 _ _ rfl (by show r0 12 = _; exact e1) rfl (by rw [e3]; cases dn 14 <;> rfl) ?_
  skip
  exact hK _ (hB1.putF h8 e1 (by decide) (by decide) (by decide) (by decide))
 ·exact ⟨undef, fun _ => rfl, Eq.symm (by go_simp; exact rfl)⟩
 apply Yab rfl (fun _ => rfl)
 ·intro dn r0 K hd hdep hK w5 hB1
  skip
  skip
  have HB := Yh_ hB1
  clear hB1 hdep
  simp only [Yn]
  go_wp2_with fail
  first
  |exact hK _ (HB.out.same _ (by decide) (by decide) (by decide) (by decide) (by decide))
  |exact (HB.out.same _ (by decide) (by decide) (by decide) (by decide) (by decide))
 ·exact ⟨_, fun _ => rfl, Eq.symm (by go_simp; exact rfl)⟩
 refine Yak (fun _ r0 w31 dn hall hB2 => ?_)
 obtain ⟨ga1, gb1, e1, e2, hK⟩ := hB2.fin (hall 6 (by decide)) (hall 11 (by decide)) (hall 12 (by decide)) (hall 13 (by decide)) (hall 14 (by decide))
 have Q2 := Yh_ hK
 show wpList _ _ _ _ (Act.put (Act.put (Yn _ _ [] _) (some 14) (r0 11)) (some 15) (r0 12)) _
 rw [e1, e2]
 simp only [Yn]
 clear e1 e2 hK hall hB2 Q1
 go_wp2_with fail
 refine Yar 16 (Kd w a pb Mem.zero Mem.zero [(gb1, .cells (Yt Flt.zero) 35 (0, 0)), (ga1, .cells (St.cells (scB (s.setR 2 v) true)) 28 (0, 0)), (gb0, .cells (Yt Flt.zero) 35 (0, 0)), (ga0, .cells (St.cells (scA (s.setR 2 v) true)) 28 (0, 0)), (w.heap.size, .cells (St.cells (s.setR 2 v)) 28 (0, 0))] _ (scE (s.setR 2 v) d true) Flt.zero 6 11 12 13 14) (fun _ _ => False) (by kernel_rfl) (by decide +kernel) (fun r0 => Kd.start Q2.out Mem.zero (scE (s.setR 2 v) d true) Flt.zero 6 11 12 13 14 r0) (fun _ _ _ h => h.elim) ?_
 simp only [List.take_succ_cons, List.take_zero, List.drop_succ_cons, List.drop_zero]
 apply Yc rfl rfl
 ·intro dn r0 K hd hdep hK w5 hB1
  skip
  skip
  have HB := Yh_ hB1
  clear hB1 hdep
  go_wp2_with fail
  first
  |exact hK _ (HB.out.same _ (by decide) (by decide) (by decide) (by decide) (by decide))
  |exact (HB.out.same _ (by decide) (by decide) (by decide) (by decide) (by decide))
 ·exact ⟨_, rfl⟩
 apply Yc rfl rfl
 ·intro dn r0 K hd hdep hK w5 hB1
  refine Ya9 (s.setR 2 v) _ _ rfl rfl (hB1.k.get 4 rfl) ?_
  exact hK _ (hB1.same _ (by decide) (by decide) (by decide) (by decide) (by decide))
 ·exact ⟨_, rfl⟩
 apply Yc rfl rfl
 ·intro dn r0 K hd hdep hK w5 hB1
  skip
  skip
  have HB := Yh_ hB1
  clear hB1 hdep
  go_wp2_with fail
  first
  |exact hK _ (HB.out.same _ (by decide) (by decide) (by decide) (by decide) (by decide))
  |exact (HB.out.same _ (by decide) (by decide) (by decide) (by decide) (by decide))
 ·exact ⟨_, rfl⟩
 apply Yc rfl rfl
 ·intro dn r0 K hd hdep hK w5 hB1
  skip
  skip
  have HB := Yh_ hB1
  clear hB1 hdep
  go_wp2_with fail
  first
  |exact hK _ (HB.out.same _ (by decide) (by decide) (by decide) (by decide) (by decide))
  |exact (HB.out.same _ (by decide) (by decide) (by decide) (by decide) (by decide))
 ·exact ⟨_, rfl⟩
 apply Yc rfl rfl
 ·intro dn r0 K hd hdep hK w5 hB1
  skip
  skip
  have HB := Yh_ hB1
  clear hB1 hdep
  go_wp2_with (go_at_call 18; refine (Ykl _ _).mono ?_; rintro e w6 ⟨rfl, hu⟩)
  first
  |exact hK _ (HB.out.quiet hu _ (by decide) (by decide) (by decide) (by decide) (by decide))
  |exact (HB.out.quiet hu _ (by decide) (by decide) (by decide) (by decide) (by decide))
 ·exact ⟨_, rfl⟩
 apply Yc rfl rfl
 ·intro dn r0 K hd hdep hK w5 hB1
  skip
  skip
  have HB := Yh_ hB1
  clear hB1 hdep
  go_wp2_with fail
  first
  |exact hK _ (HB.out.same _ (by decide) (by decide) (by decide) (by decide) (by decide))
  |exact (HB.out.same _ (by decide) (by decide) (by decide) (by decide) (by decide))
 ·exact ⟨_, rfl⟩
 apply Yc rfl rfl
 ·intro dn r0 K hd hdep hK w5 hB1
  have HD := Yh_ hd
  skip
  have HB := Yh_ hB1
  clear hB1 hdep
  go_wp2_with (go_at_call 15; have hm0 := HB.out.k.m; rw [HD.out] at hm0; refine (sc_jcc true hm0 HT.out HD2.out HC.out.1).mono ?_; rintro e w6 ⟨rfl, hm6, hu6⟩; unfold Flt.val Flt.zero)
  first
  |exact hK _ (HB.out.call hm6 hu6 (by decide) (by decide) (by decide) (by decide))
  |exact (HB.out.call hm6 hu6 (by decide) (by decide) (by decide) (by decide))
 ·exact ⟨_, rfl⟩
 apply Yc rfl rfl
 ·intro dn r0 K hd hdep hK w5 hB1
  skip
  skip
  have HB := Yh_ hB1
  clear hB1 hdep
  go_wp2_with fail
  first
  |exact hK _ (HB.out.same _ (by decide) (by decide) (by decide) (by decide) (by decide))
  |exact (HB.out.same _ (by decide) (by decide) (by decide) (by decide) (by decide))
 ·exact ⟨_, rfl⟩
 apply Yc rfl rfl
 ·intro dn r0 K hd hdep hK w5 hB1
  skip
  skip
  have HB := Yh_ hB1
  clear hB1 hdep
  go_wp2_with fail
  first
  |exact hK _ (HB.out.same _ (by decide) (by decide) (by decide) (by decide) (by decide))
  |exact (HB.out.same _ (by decide) (by decide) (by decide) (by decide) (by decide))
 ·exact ⟨_, rfl⟩
 apply Yc rfl rfl
 ·intro dn r0 K hd hdep hK w5 hB1
  skip
  skip
  have HB := Yh_ hB1
  clear hB1 hdep
  go_wp2_with fail
  first
  |exact hK _ (HB.out.same _ (by decide) (by decide) (by decide) (by decide) (by decide))
  |exact (HB.out.same _ (by decide) (by decide) (by decide) (by decide) (by decide))
 ·exact ⟨_, rfl⟩
 apply Yc rfl rfl
 ·intro dn r0 K hd hdep hK w5 hB1
  skip
  skip
  have HB := Yh_ hB1
  clear hB1 hdep
  go_wp2_with fail
  first
  |exact hK _ (HB.out.same _ (by decide) (by decide) (by decide) (by decide) (by decide))
  |exact (HB.out.same _ (by decide) (by decide) (by decide) (by decide) (by decide))
 ·exact ⟨_, rfl⟩
 refine Yy rfl (fun _ => rfl) 17 rfl (by simp [Act.put]) ?_ ?_
 ·intro dn r0 K hd w5 hB1 hK
  have HB := Yh_ hB1
  clear hB1
  simp only [Yn]
  go_wp2_with fail
  first
  |exact hK (.pointer (some ⟨w5.heap.size, 0, none⟩)) _ (HB.out.layS hd (by decide) (by decide) (by decide) (by decide))
  |exact HB.out.layS hd (by decide) (by decide) (by decide) (by decide)
 refine Yy rfl (fun _ => rfl) 18 rfl (by simp [Act.put]) ?_ ?_
 ·intro dn r0 K hd w5 hB1 hK
  have HB := Yh_ hB1
  clear hB1
  simp only [Yn]
  go_wp2_with fail
  first
  |exact hK (.pointer (some ⟨w5.heap.size, 0, none⟩)) _ (HB.out.layF hd (by decide) (by decide) (by decide) (by decide))
  |exact HB.out.layF hd (by decide) (by decide) (by decide) (by decide)
 apply Yab rfl (fun _ => rfl)
 ·intro dn r0 K hd hdep hK w5 hB1
  have h8 : dn 11 = true := hdep ⟨11, .data⟩ (by simp) rfl
  obtain ⟨g0, e1, e2, e3⟩ := hB1.x h8
  refine Ya1 (scE (s.setR 2 v) d true) g0 _ _ rfl (by show r0 11 = _; exact e1) rfl e3 (by cases dn 13 <;> rfl) ?_
  intro w6 hw; rw [← hw]
  exact hK _ (hB1.putS h8 e1 (by decide) (by decide) (by decide) (by decide))
 ·exact ⟨undef, fun _ => rfl, Eq.symm (by go_simp; exact rfl)⟩
 apply Yab rfl (fun _ => rfl)
 ·intro dn r0 K hd hdep hK w5 hB1
  have h8 : dn 12 = true := hdep ⟨12, .data⟩ (by simp) rfl
  obtain ⟨g0, e1, e2, e3⟩ := hB1.y h8
  refine Yba Flt.zero (cond (dn 14) Flt.zero Flt.zero) g0 _ _ rfl (by show r0 12 = _; exact e1) rfl (by rw [e3]; cases dn 14 <;> rfl) ?_
  skip
  exact hK _ (hB1.putF h8 e1 (by decide) (by decide) (by decide) (by decide))
 ·exact ⟨undef, fun _ => rfl, Eq.symm (by go_simp; exact rfl)⟩
 apply Yab rfl (fun _ => rfl)
 ·intro dn r0 K hd hdep hK w5 hB1
  skip
  skip
  have HB := Yh_ hB1
  clear hB1 hdep
  simp only [Yn]
  go_wp2_with fail
  first
  |exact hK _ (HB.out.same _ (by decide) (by decide) (by decide) (by decide) (by decide))
  |exact (HB.out.same _ (by decide) (by decide) (by decide) (by decide) (by decide))
 ·exact ⟨_, fun _ => rfl, Eq.symm (by go_simp; exact rfl)⟩
 refine Yak (fun _ r0 w32 dn hall hB2 => ?_)
 obtain ⟨ga2, gb2, e1, e2, hK⟩ := hB2.fin (hall 6 (by decide)) (hall 11 (by decide)) (hall 12 (by decide)) (hall 13 (by decide)) (hall 14 (by decide))
 have Q3 := Yh_ hK
 show wpList _ _ _ _ (Act.put (Act.put (Yn _ _ [] _) (some 17) (r0 11)) (some 18) (r0 12)) _
 rw [e1, e2]
 simp only [Yn]
 clear e1 e2 hK hall hB2 Q2
 go_wp2_with fail
 refine Yar 16 (Kd w a pb Mem.zero Mem.zero [(gb2, .cells (Yt Flt.zero) 35 (0, 0)), (ga2, .cells (St.cells (scE (s.setR 2 v) d true)) 28 (0, 0)), (gb1, .cells (Yt Flt.zero) 35 (0, 0)), (ga1, .cells (St.cells (scB (s.setR 2 v) true)) 28 (0, 0)), (gb0, .cells (Yt Flt.zero) 35 (0, 0)), (ga0, .cells (St.cells (scA (s.setR 2 v) true)) 28 (0, 0)), (w.heap.size, .cells (St.cells (s.setR 2 v)) 28 (0, 0))] _ (scA (s.setR 2 v) false) Flt.zero 6 11 12 13 14) (fun _ _ => False) (by kernel_rfl) (by decide +kernel) (fun r0 => Kd.start Q3.out Mem.zero (scA (s.setR 2 v) false) Flt.zero 6 11 12 13 14 r0) (fun _ _ _ h => h.elim) ?_
 simp only [List.take_succ_cons, List.take_zero, List.drop_succ_cons, List.drop_zero]
 apply Yc rfl rfl
 ·intro dn r0 K hd hdep hK w5 hB1
  skip
  skip
  have HB := Yh_ hB1
  clear hB1 hdep
  go_wp2_with fail
  first
  |exact hK _ (HB.out.same _ (by decide) (by decide) (by decide) (by decide) (by decide))
  |exact (HB.out.same _ (by decide) (by decide) (by decide) (by decide) (by decide))
 ·exact ⟨_, rfl⟩
 apply Yc rfl rfl
 ·intro dn r0 K hd hdep hK w5 hB1
  refine Ya9 (s.setR 2 v) _ _ rfl rfl (hB1.k.get 6 rfl) ?_
  exact hK _ (hB1.same _ (by decide) (by decide) (by decide) (by decide) (by decide))
 ·exact ⟨_, rfl⟩
 apply Yc rfl rfl
 ·intro dn r0 K hd hdep hK w5 hB1
  skip
  skip
  have HB := Yh_ hB1
  clear hB1 hdep
  go_wp2_with fail
  first
  |exact hK _ (HB.out.same _ (by decide) (by decide) (by decide) (by decide) (by decide))
  |exact (HB.out.same _ (by decide) (by decide) (by decide) (by decide) (by decide))
 ·exact ⟨_, rfl⟩
 apply Yc rfl rfl
 ·intro dn r0 K hd hdep hK w5 hB1
  skip
  skip
  have HB := Yh_ hB1
  clear hB1 hdep
  go_wp2_with fail
  first
  |exact hK _ (HB.out.same _ (by decide) (by decide) (by decide) (by decide) (by decide))
  |exact (HB.out.same _ (by decide) (by decide) (by decide) (by decide) (by decide))
 ·exact ⟨_, rfl⟩
 apply Yc rfl rfl
 ·intro dn r0 K hd hdep hK w5 hB1
  skip
  skip
  have HB := Yh_ hB1
  clear hB1 hdep
  go_wp2_with (go_at_call 19; refine (Ydo _ _).mono ?_; rintro e w6 ⟨rfl, hu⟩)
  first
  |exact hK _ (HB.out.quiet hu _ (by decide) (by decide) (by decide) (by decide) (by decide))
  |exact (HB.out.quiet hu _ (by decide) (by decide) (by decide) (by decide) (by decide))
 ·exact ⟨_, rfl⟩
 apply Yc rfl rfl
 ·intro dn r0 K hd hdep hK w5 hB1
  skip
  skip
  have HB := Yh_ hB1
  clear hB1 hdep
  go_wp2_with fail
  first
  |exact hK _ (HB.out.same _ (by decide) (by decide) (by decide) (by decide) (by decide))
  |exact (HB.out.same _ (by decide) (by decide) (by decide) (by decide) (by decide))
 ·exact ⟨_, rfl⟩
 apply Yc rfl rfl
 ·intro dn r0 K hd hdep hK w5 hB1
  have HD := Yh_ hd
  skip
  have HB := Yh_ hB1
  clear hB1 hdep
  go_wp2_with (go_at_call 15; have hm0 := HB.out.k.m; rw [HD.out] at hm0; refine (Yid false hm0 HT.out HC.out.2).mono ?_; rintro e w6 ⟨rfl, hm6, hu6⟩; unfold Flt.val Flt.zero)
  first
  |exact hK _ (HB.out.call hm6 hu6 (by decide) (by decide) (by decide) (by decide))
  |exact (HB.out.call hm6 hu6 (by decide) (by decide) (by decide) (by decide))
 ·exact ⟨_, rfl⟩
 apply Yc rfl rfl
 ·intro dn r0 K hd hdep hK w5 hB1
  skip
  skip
  have HB := Yh_ hB1
  clear hB1 hdep
  go_wp2_with fail
  first
  |exact hK _ (HB.out.same _ (by decide) (by decide) (by decide) (by decide) (by decide))
  |exact (HB.out.same _ (by decide) (by decide) (by decide) (by decide) (by decide))
 ·exact ⟨_, rfl⟩
 apply Yc rfl rfl
 ·intro dn r0 K hd hdep hK w5 hB1
  skip
  skip
  have HB := Yh_ hB1
  clear hB1 hdep
  go_wp2_with fail
  first
  |exact hK _ (HB.out.same _ (by decide) (by decide) (by decide) (by decide) (by decide))
  |exact (HB.out.same _ (by decide) (by decide) (by decide) (by decide) (by decide))
 ·exact ⟨_, rfl⟩
 apply Yc rfl rfl
 ·intro dn r0 K hd hdep hK w5 hB1
  skip
  skip
  have HB := Yh_ hB1
  clear hB1 hdep
  go_wp2_with fail
  first
  |exact hK _ (HB.out.same _ (by decide) (by decide) (by decide) (by decide) (by decide))
  |exact (HB.out.same _ (by decide) (by decide) (by decide) (by decide) (by decide))
 ·exact ⟨_, rfl⟩
 apply Yc rfl rfl
 ·intro dn r0 K hd hdep hK w5 hB1
  skip
  skip
  have HB := Yh_ hB1
  clear hB1 hdep
  go_wp2_with fail
  first
  |exact hK _ (HB.out.same _ (by decide) (by decide) (by decide) (by decide) (by decide))
  |exact (HB.out.same _ (by decide) (by decide) (by decide) (by decide) (by decide))
 ·exact ⟨_, rfl⟩
 refine Yy rfl (fun _ => rfl) 20 rfl (by simp [Act.put]) ?_ ?_
 ·intro dn r0 K hd w5 hB1 hK
  have HB := Yh_ hB1
  clear hB1
  simp only [Yn]
  go_wp2_with fail
  first
  |exact hK (.pointer (some ⟨w5.heap.size, 0, none⟩)) _ (HB.out.layS hd (by decide) (by decide) (by decide) (by decide))
  |exact HB.out.layS hd (by decide) (by decide) (by decide) (by decide)
 refine Yy rfl (fun _ => rfl) 21 rfl (by simp [Act.put]) ?_ ?_
 ·intro dn r0 K hd w5 hB1 hK
  have HB := Yh_ hB1
  clear hB1
  simp only [Yn]
  go_wp2_with fail
  first
  |exact hK (.pointer (some ⟨w5.heap.size, 0, none⟩)) _ (HB.out.layF hd (by decide) (by decide) (by decide) (by decide))
  |exact HB.out.layF hd (by decide) (by decide) (by decide) (by decide)
 apply Yab rfl (fun _ => rfl)
 ·intro dn r0 K hd hdep hK w5 hB1
  have h8 : dn 11 = true := hdep ⟨11, .data⟩ (by simp) rfl
  obtain ⟨g0, e1, e2, e3⟩ := hB1.x h8
  refine Ya1 (scA (s.setR 2 v) false) g0 _ _ rfl (by show r0 11 = _; exact e1) rfl e3 (by cases dn 13 <;> rfl) ?_
  intro w6 hw; rw [← hw]
  exact hK _ (hB1.putS h8 e1 (by decide) (by decide) (by decide) (by decide))
 ·exact ⟨undef, fun _ => rfl, Eq.symm (by go_simp; exact rfl)⟩
 apply Yab rfl (fun _ => rfl)
 ·intro dn r0 K hd hdep hK w5 hB1
  have h8 : dn 12 = true := hdep ⟨12, .data⟩ (by simp) rfl
  obtain ⟨g0, e1, e2, e3⟩ := hB1.y h8
  refine Yba Flt.zero (cond (dn 14) Flt.zero Flt.zero) g0 _ _ rfl (by show r0 12 = _; exact e1) rfl (by rw [e3]; cases dn 14 <;> rfl) ?_
  skip
  exact hK _ (hB1.putF h8 e1 (by decide) (by decide) (by decide) (by decide))
 ·exact ⟨undef, fun _ => rfl, Eq.symm (by go_simp; exact rfl)⟩
 apply Yab rfl (fun _ => rfl)
 ·intro dn r0 K hd hdep hK w5 hB1
  skip
  skip
  have HB := Yh_ hB1
  clear hB1 hdep
  simp only [Yn]
  go_wp2_with fail
  first
  |exact hK _ (HB.out.same _ (by decide) (by decide) (by decide) (by decide) (by decide))
  |exact (HB.out.same _ (by decide) (by decide) (by decide) (by decide) (by decide))
 ·exact ⟨_, fun _ => rfl, Eq.symm (by go_simp; exact rfl)⟩
 refine Yak (fun _ r0 w33 dn hall hB2 => ?_)
 obtain ⟨ga3, gb3, e1, e2, hK⟩ := hB2.fin (hall 6 (by decide)) (hall 11 (by decide)) (hall 12 (by decide)) (hall 13 (by decide)) (hall 14 (by decide))
 have Q4 := Yh_ hK
 show wpList _ _ _ _ (Act.put (Act.put (Yn _ _ [] _) (some 20) (r0 11)) (some 21) (r0 12)) _
 rw [e1, e2]
 simp only [Yn]
 clear e1 e2 hK hall hB2 Q3
 have dA : w33.cell? ⟨ga0, 0, none⟩ = some (.int .u32 a0) := by rw [← HA.out.1]; exact (Ya (Q4.out.get 7 rfl) 0).trans (St.cR _ 0 (by decide))
 have dF : w33.cell? ⟨ga3, 0, none⟩ = some (.int .u32 f0) := by rw [← HA.out.2]; exact (Ya (Q4.out.get 1 rfl) 0).trans (St.cR _ 0 (by decide))
 have dB : w33.cell? ⟨ga1, 1, none⟩ = some (.int .u32 v) := Ya (Q4.out.get 5 rfl) 1
 have dP : w33.cell? ⟨ga2, 8, none⟩ = some (.int .u32 (((s.pc + 2) % 4294967296 + d) % 4294967296)) := Ya (Q4.out.get 3 rfl) 8
 have dE0 : w33.cell? ⟨ga2, 0, none⟩ = some (.int .u32 ((s.setR 2 v).R 0)) := Ya (Q4.out.get 3 rfl) 0
 have dS0 : w33.cell? ⟨w.heap.size, 0, none⟩ = some (.int .u32 ((s.setR 2 v).R 0)) := Ya (Q4.out.get 8 rfl) 0
 have dE1 : w33.cell? ⟨ga2, 1, none⟩ = some (.int .u32 ((s.setR 2 v).R 1)) := Ya (Q4.out.get 3 rfl) 1
 have dS1 : w33.cell? ⟨w.heap.size, 1, none⟩ = some (.int .u32 ((s.setR 2 v).R 1)) := Ya (Q4.out.get 8 rfl) 1
 have dE2 : w33.cell? ⟨ga2, 2, none⟩ = some (.int .u32 ((s.setR 2 v).R 2)) := Ya (Q4.out.get 3 rfl) 2
 have dS2 : w33.cell? ⟨w.heap.size, 2, none⟩ = some (.int .u32 ((s.setR 2 v).R 2)) := Ya (Q4.out.get 8 rfl) 2
 have dE3 : w33.cell? ⟨ga2, 3, none⟩ = some (.int .u32 ((s.setR 2 v).R 3)) := Ya (Q4.out.get 3 rfl) 3
 have dS3 : w33.cell? ⟨w.heap.size, 3, none⟩ = some (.int .u32 ((s.setR 2 v).R 3)) := Ya (Q4.out.get 8 rfl) 3
 have dE4 : w33.cell? ⟨ga2, 4, none⟩ = some (.int .u32 ((s.setR 2 v).R 4)) := Ya (Q4.out.get 3 rfl) 4
 have dS4 : w33.cell? ⟨w.heap.size, 4, none⟩ = some (.int .u32 ((s.setR 2 v).R 4)) := Ya (Q4.out.get 8 rfl) 4
 have dE5 : w33.cell? ⟨ga2, 5, none⟩ = some (.int .u32 ((s.setR 2 v).R 5)) := Ya (Q4.out.get 3 rfl) 5
 have dS5 : w33.cell? ⟨w.heap.size, 5, none⟩ = some (.int .u32 ((s.setR 2 v).R 5)) := Ya (Q4.out.get 8 rfl) 5
 have dE6 : w33.cell? ⟨ga2, 6, none⟩ = some (.int .u32 ((s.setR 2 v).R 6)) := Ya (Q4.out.get 3 rfl) 6
 have dS6 : w33.cell? ⟨w.heap.size, 6, none⟩ = some (.int .u32 ((s.setR 2 v).R 6)) := Ya (Q4.out.get 8 rfl) 6
 have dE7 : w33.cell? ⟨ga2, 7, none⟩ = some (.int .u32 ((s.setR 2 v).R 7)) := Ya (Q4.out.get 3 rfl) 7
 have dS7 : w33.cell? ⟨w.heap.size, 7, none⟩ = some (.int .u32 ((s.setR 2 v).R 7)) := Ya (Q4.out.get 8 rfl) 7
 have dG0 : w33.cell? ⟨ga2, 9, none⟩ = some (.bool s.cf) := Ya (Q4.out.get 3 rfl) 9
 have dH0 : w33.cell? ⟨w.heap.size, 9, none⟩ = some (.bool s.cf) := Ya (Q4.out.get 8 rfl) 9
 have dG1 : w33.cell? ⟨ga2, 10, none⟩ = some (.bool s.pf) := Ya (Q4.out.get 3 rfl) 10
 have dH1 : w33.cell? ⟨w.heap.size, 10, none⟩ = some (.bool s.pf) := Ya (Q4.out.get 8 rfl) 10
 have dG2 : w33.cell? ⟨ga2, 11, none⟩ = some (.bool s.af) := Ya (Q4.out.get 3 rfl) 11
 have dH2 : w33.cell? ⟨w.heap.size, 11, none⟩ = some (.bool s.af) := Ya (Q4.out.get 8 rfl) 11
 have dG3 : w33.cell? ⟨ga2, 12, none⟩ = some (.bool s.zf) := Ya (Q4.out.get 3 rfl) 12
 have dH3 : w33.cell? ⟨w.heap.size, 12, none⟩ = some (.bool s.zf) := Ya (Q4.out.get 8 rfl) 12
 have dG4 : w33.cell? ⟨ga2, 13, none⟩ = some (.bool s.sf) := Ya (Q4.out.get 3 rfl) 13
 have dH4 : w33.cell? ⟨w.heap.size, 13, none⟩ = some (.bool s.sf) := Ya (Q4.out.get 8 rfl) 13
 have dG5 : w33.cell? ⟨ga2, 14, none⟩ = some (.bool s.of_) := Ya (Q4.out.get 3 rfl) 14
 have dH5 : w33.cell? ⟨w.heap.size, 14, none⟩ = some (.bool s.of_) := Ya (Q4.out.get 8 rfl) 14
 have dQ : w33.cell? ⟨w.heap.size, 8, none⟩ = some (.int .u32 s.pc) := Ya (Q4.out.get 8 rfl) 8
 go_wp2_with fail
 go_ret
 exact ⟨rfl, Q4.out.u⟩
theorem sc_false (s : St) (cc v d : Int) (w : World) (hs : s.Ok) (hc : 0 ≤ cc) (hv : 0 ≤ v ∧ v < 4294967296) (hd : 0 ≤ d ∧ d < 4294967296) (hb : Ybg s.fl (cc % 16) = false) :
  Calls Tryz.prog 7 #[.agg s.cells, .int .u8 cc, .int .u32 v, .int .u32 d] w fun e w' => e = .returned (.bool true) ∧ Upd [] w w' := by
 obtain ⟨c, hcc⟩ : ∃ c, cc % 16 = c := ⟨_, rfl⟩
 have e0 : cc.tmod 16 = c := by rw [Int.tmod_eq_emod_of_nonneg hc]; exact hcc
 have hc16 : 0 ≤ c ∧ c < 16 := by omega
 have e1 : wrap64 c = c := by unfold wrap64; omega
 have HC := Yh_ (And.intro (show Ybg (s.setR 2 v).fl c = false by rw [← hcc]; exact hb) (show Ybg (s.setR 2 v).fl (bits .xor .i64 c 1) = true by rw [Yi3 _ _ hc16, ← hcc, show Ybg (s.setR 2 v).fl (cc % 16) = false from hb]; rfl))
 have HT := Yh_ (St.setR_ok hs 2 hv.1 hv.2)
 have HD2 := Yh_ hd
 obtain ⟨a0, ha0⟩ : ∃ a0, (scA (s.setR 2 v) false).R 0 = a0 := ⟨_, rfl⟩
 obtain ⟨f0, hf0⟩ : ∃ f0, (scA (s.setR 2 v) true).R 0 = f0 := ⟨_, rfl⟩
 have h0 : 0 ≤ (s.setR 2 v).R 0 ∧ (s.setR 2 v).R 0 < 4294967296 := (St.setR_ok hs 2 hv.1 hv.2).R 0
 have ga : a0 = (s.setR 2 v).R 0 / 256 * 256 + 0 := by rw [← ha0, scA_0]; rfl
 have gf : f0 = (s.setR 2 v).R 0 / 256 * 256 + 1 := by rw [← hf0, scA_0]; rfl
 have m1 : bits .and .u32 a0 255 = 0 := by rw [Ye9 a0 (by omega) (by omega)]; omega
 have m2 : bits .and .u32 f0 255 = 1 := by rw [Ye9 f0 (by omega) (by omega)]; omega
 obtain ⟨hh, hhh⟩ : ∃ hh, (s.setR 2 v).R 0 / 256 = hh := ⟨_, rfl⟩
 have m3 : a0 / 256 = hh := by omega
 have HA := Yh_ (And.intro ha0 hf0)
 have hER := Yja (s.setR 2 v)
 have hEF := Yhn s.cf s.pf s.af s.zf s.sf s.of_
 clear hs hc hv hd hb hcc hc16 ha0 hf0 h0 ga gf
 have tok : True := trivial
 go_enter Tryz.func7, Tryz.ntmps7
 go_wp2_with (first | (have _t := tok; clear _t; go_at_call 12; refine (Yhm _).mono ?_; rintro e w0 ⟨rfl, hu0⟩; clear tok) | (have _t := hu0; clear _t; go_at_call 13; refine (Yir _).mono ?_; rintro e w1 ⟨a, pb, rfl, ha, hp, hM1, hu1⟩; have K0 := Yh_ (show Kn w a pb Mem.zero [(w.heap.size, .cells (St.cells s) 28 (0, 0))] w1 from Kn.start1 hu0 ha hp hM1 hu1); clear hu0 hu1 ha hp hM1; have c0_r2_0 : w1.cell? ⟨w.heap.size, 2, none⟩ = some (.int .u32 (((s) : St).R 2)) := (Ya (K0.out.get 0 rfl) 2).trans (St.cR _ 2 (by decide)); have c1_free_0 := Yl (K0.out.get 0 rfl)))
 have hk := K0.out.putR 0 rfl 2 (by decide) v
 dsimp only [List.set] at hk
 have Q0 := Yh_ (Kq.of hk)
 clear hk K0 c0_r2_0 c1_free_0
 simp only [e1]
 refine Yar 15 (Kd w a pb Mem.zero Mem.zero [(w.heap.size, .cells (St.cells (s.setR 2 v)) 28 (0, 0))] _ (scA (s.setR 2 v) false) Flt.zero 5 10 11 12 13) (fun _ _ => False) (by kernel_rfl) (by decide +kernel) (fun r0 => Kd.start Q0.out Mem.zero (scA (s.setR 2 v) false) Flt.zero 5 10 11 12 13 r0) (fun _ _ _ h => h.elim) ?_
 simp only [List.take_succ_cons, List.take_zero, List.drop_succ_cons, List.drop_zero]
 apply Yc rfl rfl
 ·intro dn r0 K hd hdep hK w5 hB1
  skip
  skip
  have HB := Yh_ hB1
  clear hB1 hdep
  go_wp2_with fail
  first
  |exact hK _ (HB.out.same _ (by decide) (by decide) (by decide) (by decide) (by decide))
  |exact (HB.out.same _ (by decide) (by decide) (by decide) (by decide) (by decide))
 ·exact ⟨_, rfl⟩
 apply Yc rfl rfl
 ·intro dn r0 K hd hdep hK w5 hB1
  refine Ya9 (s.setR 2 v) _ _ rfl rfl (hB1.k.get 0 rfl) ?_
  exact hK _ (hB1.same _ (by decide) (by decide) (by decide) (by decide) (by decide))
 ·exact ⟨_, rfl⟩
 apply Yc rfl rfl
 ·intro dn r0 K hd hdep hK w5 hB1
  skip
  skip
  have HB := Yh_ hB1
  clear hB1 hdep
  go_wp2_with fail
  first
  |exact hK _ (HB.out.same _ (by decide) (by decide) (by decide) (by decide) (by decide))
  |exact (HB.out.same _ (by decide) (by decide) (by decide) (by decide) (by decide))
 ·exact ⟨_, rfl⟩
 apply Yc rfl rfl
 ·intro dn r0 K hd hdep hK w5 hB1
  skip
  skip
  have HB := Yh_ hB1
  clear hB1 hdep
  go_wp2_with (go_at_call 19; refine (Ydo _ _).mono ?_; rintro e w6 ⟨rfl, hu⟩)
  first
  |exact hK _ (HB.out.quiet hu _ (by decide) (by decide) (by decide) (by decide) (by decide))
  |exact (HB.out.quiet hu _ (by decide) (by decide) (by decide) (by decide) (by decide))
 ·exact ⟨_, rfl⟩
 apply Yc rfl rfl
 ·intro dn r0 K hd hdep hK w5 hB1
  skip
  skip
  have HB := Yh_ hB1
  clear hB1 hdep
  go_wp2_with fail
  first
  |exact hK _ (HB.out.same _ (by decide) (by decide) (by decide) (by decide) (by decide))
  |exact (HB.out.same _ (by decide) (by decide) (by decide) (by decide) (by decide))
 ·exact ⟨_, rfl⟩
 apply Yc rfl rfl
 ·intro dn r0 K hd hdep hK w5 hB1
  have HD := Yh_ hd
  skip
  have HB := Yh_ hB1
  clear hB1 hdep
  go_wp2_with (go_at_call 15; have hm0 := HB.out.k.m; rw [HD.out] at hm0; refine (Yid false hm0 HT.out HC.out.1).mono ?_; rintro e w6 ⟨rfl, hm6, hu6⟩; unfold Flt.val Flt.zero)
  first
  |exact hK _ (HB.out.call hm6 hu6 (by decide) (by decide) (by decide) (by decide))
  |exact (HB.out.call hm6 hu6 (by decide) (by decide) (by decide) (by decide))
 ·exact ⟨_, rfl⟩
 apply Yc rfl rfl
 ·intro dn r0 K hd hdep hK w5 hB1
  skip
  skip
  have HB := Yh_ hB1
  clear hB1 hdep
  go_wp2_with fail
  first
  |exact hK _ (HB.out.same _ (by decide) (by decide) (by decide) (by decide) (by decide))
  |exact (HB.out.same _ (by decide) (by decide) (by decide) (by decide) (by decide))
 ·exact ⟨_, rfl⟩
 apply Yc rfl rfl
 ·intro dn r0 K hd hdep hK w5 hB1
  skip
  skip
  have HB := Yh_ hB1
  clear hB1 hdep
  go_wp2_with fail
  first
  |exact hK _ (HB.out.same _ (by decide) (by decide) (by decide) (by decide) (by decide))
  |exact (HB.out.same _ (by decide) (by decide) (by decide) (by decide) (by decide))
 ·exact ⟨_, rfl⟩
 apply Yc rfl rfl
 ·intro dn r0 K hd hdep hK w5 hB1
  skip
  skip
  have HB := Yh_ hB1
  clear hB1 hdep
  go_wp2_with fail
  first
  |exact hK _ (HB.out.same _ (by decide) (by decide) (by decide) (by decide) (by decide))
  |exact (HB.out.same _ (by decide) (by decide) (by decide) (by decide) (by decide))
 ·exact ⟨_, rfl⟩
 apply Yc rfl rfl
 ·intro dn r0 K hd hdep hK w5 hB1
  skip
  skip
  have HB := Yh_ hB1
  clear hB1 hdep
  go_wp2_with fail
  first
  |exact hK _ (HB.out.same _ (by decide) (by decide) (by decide) (by decide) (by decide))
  |exact (HB.out.same _ (by decide) (by decide) (by decide) (by decide) (by decide))
 ·exact ⟨_, rfl⟩
 refine Yy rfl (fun _ => rfl) 11 rfl (by simp [Act.put]) ?_ ?_
 ·intro dn r0 K hd w5 hB1 hK
  have HB := Yh_ hB1
  clear hB1
  simp only [Yn]
  go_wp2_with fail
  first
  |exact hK (.pointer (some ⟨w5.heap.size, 0, none⟩)) _ (HB.out.layS hd (by decide) (by decide) (by decide) (by decide))
  |exact HB.out.layS hd (by decide) (by decide) (by decide) (by decide)
 refine Yy rfl (fun _ => rfl) 12 rfl (by simp [Act.put]) ?_ ?_
 ·intro dn r0 K hd w5 hB1 hK
  have HB := Yh_ hB1
  clear hB1
  simp only [Yn]
  go_wp2_with fail
  first
  |exact hK (.pointer (some ⟨w5.heap.size, 0, none⟩)) _ (HB.out.layF hd (by decide) (by decide) (by decide) (by decide))
  |exact HB.out.layF hd (by decide) (by decide) (by decide) (by decide)
 apply Yab rfl (fun _ => rfl)
 ·intro dn r0 K hd hdep hK w5 hB1
  have h8 : dn 10 = true := hdep ⟨10, .data⟩ (by simp) rfl
  obtain ⟨g0, e1, e2, e3⟩ := hB1.x h8
  refine Ya1 (scA (s.setR 2 v) false) g0 _ _ rfl (by show r0 10 = _; exact e1) rfl e3 (by cases dn 12 <;> rfl) ?_
  intro w6 hw; rw [← hw]
  exact hK _ (hB1.putS h8 e1 (by decide) (by decide) (by decide) (by decide))
 ·exact ⟨undef, fun _ => rfl, Eq.symm (by go_simp; exact rfl)⟩
 apply Yab rfl (fun _ => rfl)
 ·intro dn r0 K hd hdep hK w5 hB1
  have h8 : dn 11 = true := hdep ⟨11, .data⟩ (by simp) rfl
  obtain ⟨g0, e1, e2, e3⟩ := hB1.y h8
  refine Yba Flt.zero (cond (dn 13) Flt.zero Flt.zero) g0 _ _ rfl (by show r0 11 = _; exact e1) rfl (by rw [e3]; cases dn 13 <;> rfl) ?_
  skip
  exact hK _ (hB1.putF h8 e1 (by decide) (by decide) (by decide) (by decide))
 ·exact ⟨undef, fun _ => rfl, Eq.symm (by go_simp; exact rfl)⟩
 apply Yab rfl (fun _ => rfl)
 ·intro dn r0 K hd hdep hK w5 hB1
  skip
  skip
  have HB := Yh_ hB1
  clear hB1 hdep
  simp only [Yn]
  go_wp2_with fail
  first
  |exact hK _ (HB.out.same _ (by decide) (by decide) (by decide) (by decide) (by decide))
  |exact (HB.out.same _ (by decide) (by decide) (by decide) (by decide) (by decide))
 ·exact ⟨_, fun _ => rfl, Eq.symm (by go_simp; exact rfl)⟩
 refine Yak (fun _ r0 w30 dn hall hB2 => ?_)
 obtain ⟨ga0, gb0, e1, e2, hK⟩ := hB2.fin (hall 5 (by decide)) (hall 10 (by decide)) (hall 11 (by decide)) (hall 12 (by decide)) (hall 13 (by decide))
 have Q1 := Yh_ hK
 show wpList _ _ _ _ (Act.put (Act.put (Yn _ _ [] _) (some 11) (r0 10)) (some 12) (r0 11)) _
 rw [e1, e2]
 simp only [Yn]
 clear e1 e2 hK hall hB2 Q0
 go_wp2_with fail
 refine Yar 16 (Kd w a pb Mem.zero Mem.zero [(gb0, .cells (Yt Flt.zero) 35 (0, 0)), (ga0, .cells (St.cells (scA (s.setR 2 v) false)) 28 (0, 0)), (w.heap.size, .cells (St.cells (s.setR 2 v)) 28 (0, 0))] _ (scB (s.setR 2 v) false) Flt.zero 6 11 12 13 14) (fun _ _ => False) (by kernel_rfl) (by decide +kernel) (fun r0 => Kd.start Q1.out Mem.zero (scB (s.setR 2 v) false) Flt.zero 6 11 12 13 14 r0) (fun _ _ _ h => h.elim) ?_
 simp only [List.take_succ_cons, List.take_zero, List.drop_succ_cons, List.drop_zero]
 apply Yc rfl rfl
 ·intro dn r0 K hd hdep hK w5 hB1
  skip
  skip
  have HB := Yh_ hB1
  clear hB1 hdep
  go_wp2_with fail
  first
  |exact hK _ (HB.out.same _ (by decide) (by decide) (by decide) (by decide) (by decide))
  |exact (HB.out.same _ (by decide) (by decide) (by decide) (by decide) (by decide))
 ·exact ⟨_, rfl⟩
 apply Yc rfl rfl
 ·intro dn r0 K hd hdep hK w5 hB1
  refine Ya9 (s.setR 2 v) _ _ rfl rfl (hB1.k.get 2 rfl) ?_
  exact hK _ (hB1.same _ (by decide) (by decide) (by decide) (by decide) (by decide))
 ·exact ⟨_, rfl⟩
 apply Yc rfl rfl
 ·intro dn r0 K hd hdep hK w5 hB1
  skip
  skip
  have HB := Yh_ hB1
  clear hB1 hdep
  go_wp2_with fail
  first
  |exact hK _ (HB.out.same _ (by decide) (by decide) (by decide) (by decide) (by decide))
  |exact (HB.out.same _ (by decide) (by decide) (by decide) (by decide) (by decide))
 ·exact ⟨_, rfl⟩
 apply Yc rfl rfl
 ·intro dn r0 K hd hdep hK w5 hB1
  skip
  skip
  have HB := Yh_ hB1
  clear hB1 hdep
  go_wp2_with (go_at_call 19; refine (Ydo _ _).mono ?_; rintro e w6 ⟨rfl, hu⟩)
  first
  |exact hK _ (HB.out.quiet hu _ (by decide) (by decide) (by decide) (by decide) (by decide))
  |exact (HB.out.quiet hu _ (by decide) (by decide) (by decide) (by decide) (by decide))
 ·exact ⟨_, rfl⟩
 apply Yc rfl rfl
 ·intro dn r0 K hd hdep hK w5 hB1
  skip
  skip
  have HB := Yh_ hB1
  clear hB1 hdep
  go_wp2_with (go_at_call 19; refine (Ydo _ _).mono ?_; rintro e w6 ⟨rfl, hu⟩)
  first
  |exact hK _ (HB.out.quiet hu _ (by decide) (by decide) (by decide) (by decide) (by decide))
  |exact (HB.out.quiet hu _ (by decide) (by decide) (by decide) (by decide) (by decide))
 ·exact ⟨_, rfl⟩
 apply Yc rfl rfl
 ·intro dn r0 K hd hdep hK w5 hB1
  skip
  skip
  have HB := Yh_ hB1
  clear hB1 hdep
  go_wp2_with fail
  first
  |exact hK _ (HB.out.same _ (by decide) (by decide) (by decide) (by decide) (by decide))
  |exact (HB.out.same _ (by decide) (by decide) (by decide) (by decide) (by decide))
 ·exact ⟨_, rfl⟩
 apply Yc rfl rfl
 ·intro dn r0 K hd hdep hK w5 hB1
  have HD := Yh_ hd
  skip
  have HB := Yh_ hB1
  clear hB1 hdep
  go_wp2_with (go_at_call 15; have hm0 := HB.out.k.m; rw [HD.out] at hm0; refine (Yno false hm0 HT.out HC.out.1).mono ?_; rintro e w6 ⟨rfl, hm6, hu6⟩; unfold Flt.val Flt.zero)
  first
  |exact hK _ (HB.out.call hm6 hu6 (by decide) (by decide) (by decide) (by decide))
  |exact (HB.out.call hm6 hu6 (by decide) (by decide) (by decide) (by decide))
 ·exact ⟨_, rfl⟩
 apply Yc rfl rfl
 ·intro dn r0 K hd hdep hK w5 hB1
  skip
  skip
  have HB := Yh_ hB1
  clear hB1 hdep
  go_wp2_with fail
  first
  |exact hK _ (HB.out.same _ (by decide) (by decide) (by decide) (by decide) (by decide))
  |exact (HB.out.same _ (by decide) (by decide) (by decide) (by decide) (by decide))
 ·exact ⟨_, rfl⟩
 apply Yc rfl rfl
 ·intro dn r0 K hd hdep hK w5 hB1
  skip
  skip
  have HB := Yh_ hB1
  clear hB1 hdep
  go_wp2_with fail
  first
  |exact hK _ (HB.out.same _ (by decide) (by decide) (by decide) (by decide) (by decide))
  |exact (HB.out.same _ (by decide) (by decide) (by decide) (by decide) (by decide))
 ·exact ⟨_, rfl⟩
 apply Yc rfl rfl
 ·intro dn r0 K hd hdep hK w5 hB1
  skip
  skip
  have HB := Yh_ hB1
  clear hB1 hdep
  go_wp2_with fail
  first
  |exact hK _ (HB.out.same _ (by decide) (by decide) (by decide) (by decide) (by decide))
  |exact (HB.out.same _ (by decide) (by decide) (by decide) (by decide) (by decide))
 ·exact ⟨_, rfl⟩
 apply Yc rfl rfl
 ·intro dn r0 K hd hdep hK w5 hB1
  skip
  skip
  have HB := Yh_ hB1
  clear hB1 hdep
  go_wp2_with fail
  first
  |exact hK _ (HB.out.same _ (by decide) (by decide) (by decide) (by decide) (by decide))
  |exact (HB.out.same _ (by decide) (by decide) (by decide) (by decide) (by decide))
 ·exact ⟨_, rfl⟩
 refine Yy rfl (fun _ => rfl) 14 rfl (by simp [Act.put]) ?_ ?_
 ·intro dn r0 K hd w5 hB1 hK
  have HB := Yh_ hB1
  clear hB1
  simp only [Yn]
  go_wp2_with fail
  first
  |exact hK (.pointer (some ⟨w5.heap.size, 0, none⟩)) _ (HB.out.layS hd (by decide) (by decide) (by decide) (by decide))
  |exact HB.out.layS hd (by decide) (by decide) (by decide) (by decide)
 refine Yy rfl (fun _ => rfl) 15 rfl (by simp [Act.put]) ?_ ?_
 ·intro dn r0 K hd w5 hB1 hK
  have HB := Yh_ hB1
  clear hB1
  simp only [Yn]
  go_wp2_with fail
  first
  |exact hK (.pointer (some ⟨w5.heap.size, 0, none⟩)) _ (HB.out.layF hd (by decide) (by decide) (by decide) (by decide))
  |exact HB.out.layF hd (by decide) (by decide) (by decide) (by decide)
 apply Yab rfl (fun _ => rfl)
 ·intro dn r0 K hd hdep hK w5 hB1
  have h8 : dn 11 = true := hdep ⟨11, .data⟩ (by simp) rfl
  obtain ⟨g0, e1, e2, e3⟩ := hB1.x h8
  refine Ya1 (scB (s.setR 2 v) false) g0 _ _ rfl (by show r0 11 = _; exact e1) rfl e3 (by cases dn 13 <;> rfl) ?_
  intro w6 hw; rw [← hw]
  exact hK _ (hB1.putS h8 e1 (by decide) (by decide) (by decide) (by decide))
 ·exact ⟨undef, fun _ => rfl, Eq.symm (by go_simp; exact rfl)⟩
 apply Yab rfl (fun _ => rfl)
 ·intro dn r0 K hd hdep hK w5 hB1
  have h8 : dn 12 = true := hdep ⟨12, .data⟩ (by simp) rfl
  obtain ⟨g0, e1, e2, e3⟩ := hB1.y h8
  refine Yba Flt.zero (cond (dn 14) Flt.zero Flt.zero) g0 _ _ rfl (by show r0 12 = _; exact e1) rfl (by rw [e3]; cases dn 14 <;> rfl) ?_
  skip
  exact hK _ (hB1.putF h8 e1 (by decide) (by decide) (by decide) (by decide))
 ·exact ⟨undef, fun _ => rfl, Eq.symm (by go_simp; exact rfl)⟩
 apply Yab rfl (fun _ => rfl)
 ·intro dn r0 K hd hdep hK w5 hB1
  skip
  skip
  have HB := Yh_ hB1
  clear hB1 hdep
  simp only [Yn]
  go_wp2_with fail
  first
  |exact hK _ (HB.out.same _ (by decide) (by decide) (by decide) (by decide) (by decide))
  |exact (HB.out.same _ (by decide) (by decide) (by decide) (by decide) (by decide))
 ·exact ⟨_, fun _ => rfl, Eq.symm (by go_simp; exact rfl)⟩
 refine Yak (fun _ r0 w31 dn hall hB2 => ?_)
 obtain ⟨ga1, gb1, e1, e2, hK⟩ := hB2.fin (hall 6 (by decide)) (hall 11 (by decide)) (hall 12 (by decide)) (hall 13 (by decide)) (hall 14 (by decide))
 have Q2 := Yh_ hK
 show wpList _ _ _ _ (Act.put (Act.put (Yn _ _ [] _) (some 14) (r0 11)) (some 15) (r0 12)) _
 rw [e1, e2]
 simp only [Yn]
 clear e1 e2 hK hall hB2 Q1
 go_wp2_with fail
 refine Yar 16 (Kd w a pb Mem.zero Mem.zero [(gb1, .cells (Yt Flt.zero) 35 (0, 0)), (ga1, .cells (St.cells (scB (s.setR 2 v) false)) 28 (0, 0)), (gb0, .cells (Yt Flt.zero) 35 (0, 0)), (ga0, .cells (St.cells (scA (s.setR 2 v) false)) 28 (0, 0)), (w.heap.size, .cells (St.cells (s.setR 2 v)) 28 (0, 0))] _ (scE (s.setR 2 v) d false) Flt.zero 6 11 12 13 14) (fun _ _ => False) (by kernel_rfl) (by decide +kernel) (fun r0 => Kd.start Q2.out Mem.zero (scE (s.setR 2 v) d false) Flt.zero 6 11 12 13 14 r0) (fun _ _ _ h => h.elim) ?_
 simp only [List.take_succ_cons, List.take_zero, List.drop_succ_cons, List.drop_zero]
 apply Yc rfl rfl
 ·intro dn r0 K hd hdep hK w5 hB1
  skip
  skip
  have HB := Yh_ hB1
  clear hB1 hdep
  go_wp2_with fail
  first
  |exact hK _ (HB.out.same _ (by decide) (by decide) (by decide) (by decide) (by decide))
  |exact (HB.out.same _ (by decide) (by decide) (by decide) (by decide) (by decide))
 ·exact ⟨_, rfl⟩
 apply Yc rfl rfl
 ·intro dn r0 K hd hdep hK w5 hB1
  refine Ya9 (s.setR 2 v) _ _ rfl rfl (hB1.k.get 4 rfl) ?_
  exact hK _ (hB1.same _ (by decide) (by decide) (by decide) (by decide) (by decide))
 ·exact ⟨_, rfl⟩
 apply Yc rfl rfl
 ·intro dn r0 K hd hdep hK w5 hB1
  skip
  skip
  have HB := Yh_ hB1
  clear hB1 hdep
  go_wp2_with fail
  first
  |exact hK _ (HB.out.same _ (by decide) (by decide) (by decide) (by decide) (by decide))
  |exact (HB.out.same _ (by decide) (by decide) (by decide) (by decide) (by decide))
 ·exact ⟨_, rfl⟩
 apply Yc rfl rfl
 ·intro dn r0 K hd hdep hK w5 hB1
  skip
  skip
  have HB := Yh_ hB1
  clear hB1 hdep
  go_wp2_with fail
  first
  |exact hK _ (HB.out.same _ (by decide) (by decide) (by decide) (by decide) (by decide))
  |exact (HB.out.same _ (by decide) (by decide) (by decide) (by decide) (by decide))
 ·exact ⟨_, rfl⟩
 apply Yc rfl rfl
 ·intro dn r0 K hd hdep hK w5 hB1
  skip
  skip
  have HB := Yh_ hB1
  clear hB1 hdep
  go_wp2_with (go_at_call 18; refine (Ykl _ _).mono ?_; rintro e w6 ⟨rfl, hu⟩)
  first
  |exact hK _ (HB.out.quiet hu _ (by decide) (by decide) (by decide) (by decide) (by decide))
  |exact (HB.out.quiet hu _ (by decide) (by decide) (by decide) (by decide) (by decide))
 ·exact ⟨_, rfl⟩
 apply Yc rfl rfl
 ·intro dn r0 K hd hdep hK w5 hB1
  skip
  skip
  have HB := Yh_ hB1
  clear hB1 hdep
  go_wp2_with fail
  first
  |exact hK _ (HB.out.same _ (by decide) (by decide) (by decide) (by decide) (by decide))
  |exact (HB.out.same _ (by decide) (by decide) (by decide) (by decide) (by decide))
 ·exact ⟨_, rfl⟩
 apply Yc rfl rfl
 ·intro dn r0 K hd hdep hK w5 hB1
  have HD := Yh_ hd
  skip
  have HB := Yh_ hB1
  clear hB1 hdep
  go_wp2_with (go_at_call 15; have hm0 := HB.out.k.m; rw [HD.out] at hm0; refine (sc_jcc false hm0 HT.out HD2.out HC.out.1).mono ?_; rintro e w6 ⟨rfl, hm6, hu6⟩; unfold Flt.val Flt.zero)
  first
  |exact hK _ (HB.out.call hm6 hu6 (by decide) (by decide) (by decide) (by decide))
  |exact (HB.out.call hm6 hu6 (by decide) (by decide) (by decide) (by decide))
 ·exact ⟨_, rfl⟩
 apply Yc rfl rfl
 ·intro dn r0 K hd hdep hK w5 hB1
  skip
  skip
  have HB := Yh_ hB1
  clear hB1 hdep
  go_wp2_with fail
  first
  |exact hK _ (HB.out.same _ (by decide) (by decide) (by decide) (by decide) (by decide))
  |exact (HB.out.same _ (by decide) (by decide) (by decide) (by decide) (by decide))
 ·exact ⟨_, rfl⟩
 apply Yc rfl rfl
 ·intro dn r0 K hd hdep hK w5 hB1
  skip
  skip
  have HB := Yh_ hB1
  clear hB1 hdep
  go_wp2_with fail
  first
  |exact hK _ (HB.out.same _ (by decide) (by decide) (by decide) (by decide) (by decide))
  |exact (HB.out.same _ (by decide) (by decide) (by decide) (by decide) (by decide))
 ·exact ⟨_, rfl⟩
 apply Yc rfl rfl
 ·intro dn r0 K hd hdep hK w5 hB1
  skip
  skip
  have HB := Yh_ hB1
  clear hB1 hdep
  go_wp2_with fail
  first
  |exact hK _ (HB.out.same _ (by decide) (by decide) (by decide) (by decide) (by decide))
  |exact (HB.out.same _ (by decide) (by decide) (by decide) (by decide) (by decide))
 ·exact ⟨_, rfl⟩
 apply Yc rfl rfl
 ·intro dn r0 K hd hdep hK w5 hB1
  skip
  skip
  have HB := Yh_ hB1
  clear hB1 hdep
  go_wp2_with fail
  first
  |exact hK _ (HB.out.same _ (by decide) (by decide) (by decide) (by decide) (by decide))
  |exact (HB.out.same _ (by decide) (by decide) (by decide) (by decide) (by decide))
 ·exact ⟨_, rfl⟩
 refine Yy rfl (fun _ => rfl) 17 rfl (by simp [Act.put]) ?_ ?_
 ·intro dn r0 K hd w5 hB1 hK
  have HB := Yh_ hB1
  clear hB1
  simp only [Yn]
  go_wp2_with fail
  first
  |exact hK (.pointer (some ⟨w5.heap.size, 0, none⟩)) _ (HB.out.layS hd (by decide) (by decide) (by decide) (by decide))
  |exact HB.out.layS hd (by decide) (by decide) (by decide) (by decide)
 refine Yy rfl (fun _ => rfl) 18 rfl (by simp [Act.put]) ?_ ?_
 ·intro dn r0 K hd w5 hB1 hK
  have HB := Yh_ hB1
  clear hB1
  simp only [Yn]
  go_wp2_with fail
  first
  |exact hK (.pointer (some ⟨w5.heap.size, 0, none⟩)) _ (HB.out.layF hd (by decide) (by decide) (by decide) (by decide))
  |exact HB.out.layF hd (by decide) (by decide) (by decide) (by decide)
 apply Yab rfl (fun _ => rfl)
 ·intro dn r0 K hd hdep hK w5 hB1
  have h8 : dn 11 = true := hdep ⟨11, .data⟩ (by simp) rfl
  obtain ⟨g0, e1, e2, e3⟩ := hB1.x h8
  refine Ya1 (scE (s.setR 2 v) d false) g0 _ _ rfl (by show r0 11 = _; exact e1) rfl e3 (by cases dn 13 <;> rfl) ?_
  intro w6 hw; rw [← hw]
  exact hK _ (hB1.putS h8 e1 (by decide) (by decide) (by decide) (by decide))
 ·exact ⟨undef, fun _ => rfl, Eq.symm (by go_simp; exact rfl)⟩
 apply Yab rfl (fun _ => rfl)
 ·intro dn r0 K hd hdep hK w5 hB1
  have h8 : dn 12 = true := hdep ⟨12, .data⟩ (by simp) rfl
  obtain ⟨g0, e1, e2, e3⟩ := hB1.y h8
  refine Yba Flt.zero (cond (dn 14) Flt.zero Flt.zero) g0 _ _ rfl (by show r0 12 = _; exact e1) rfl (by rw [e3]; cases dn 14 <;> rfl) ?_
  skip
  exact hK _ (hB1.putF h8 e1 (by decide) (by decide) (by decide) (by decide))
 ·exact ⟨undef, fun _ => rfl, Eq.symm (by go_simp; exact rfl)⟩
 apply Yab rfl (fun _ => rfl)
 ·intro dn r0 K hd hdep hK w5 hB1
  skip
  skip
  have HB := Yh_ hB1
  clear hB1 hdep
  simp only [Yn]
  go_wp2_with fail
  first
  |exact hK _ (HB.out.same _ (by decide) (by decide) (by decide) (by decide) (by decide))
  |exact (HB.out.same _ (by decide) (by decide) (by decide) (by decide) (by decide))
 ·exact ⟨_, fun _ => rfl, Eq.symm (by go_simp; exact rfl)⟩
 refine Yak (fun _ r0 w32 dn hall hB2 => ?_)
 obtain ⟨ga2, gb2, e1, e2, hK⟩ := hB2.fin (hall 6 (by decide)) (hall 11 (by decide)) (hall 12 (by decide)) (hall 13 (by decide)) (hall 14 (by decide))
 have Q3 := Yh_ hK
 show wpList _ _ _ _ (Act.put (Act.put (Yn _ _ [] _) (some 17) (r0 11)) (some 18) (r0 12)) _
 rw [e1, e2]
 simp only [Yn]
 clear e1 e2 hK hall hB2 Q2
 go_wp2_with fail
 refine Yar 16 (Kd w a pb Mem.zero Mem.zero [(gb2, .cells (Yt Flt.zero) 35 (0, 0)), (ga2, .cells (St.cells (scE (s.setR 2 v) d false)) 28 (0, 0)), (gb1, .cells (Yt Flt.zero) 35 (0, 0)), (ga1, .cells (St.cells (scB (s.setR 2 v) false)) 28 (0, 0)), (gb0, .cells (Yt Flt.zero) 35 (0, 0)), (ga0, .cells (St.cells (scA (s.setR 2 v) false)) 28 (0, 0)), (w.heap.size, .cells (St.cells (s.setR 2 v)) 28 (0, 0))] _ (scA (s.setR 2 v) true) Flt.zero 6 11 12 13 14) (fun _ _ => False) (by kernel_rfl) (by decide +kernel) (fun r0 => Kd.start Q3.out Mem.zero (scA (s.setR 2 v) true) Flt.zero 6 11 12 13 14 r0) (fun _ _ _ h => h.elim) ?_
 simp only [List.take_succ_cons, List.take_zero, List.drop_succ_cons, List.drop_zero]
 apply Yc rfl rfl
 ·intro dn r0 K hd hdep hK w5 hB1
  skip
  skip
  have HB := Yh_ hB1
  clear hB1 hdep
  go_wp2_with fail
  first
  |exact hK _ (HB.out.same _ (by decide) (by decide) (by decide) (by decide) (by decide))
  |exact (HB.out.same _ (by decide) (by decide) (by decide) (by decide) (by decide))
 ·exact ⟨_, rfl⟩
 apply Yc rfl rfl
 ·intro dn r0 K hd hdep hK w5 hB1
  refine Ya9 (s.setR 2 v) _ _ rfl rfl (hB1.k.get 6 rfl) ?_
  exact hK _ (hB1.same _ (by decide) (by decide) (by decide) (by decide) (by decide))
 ·exact ⟨_, rfl⟩
 apply Yc rfl rfl
 ·intro dn r0 K hd hdep hK w5 hB1
  skip
  skip
  have HB := Yh_ hB1
  clear hB1 hdep
  go_wp2_with fail
  first
  |exact hK _ (HB.out.same _ (by decide) (by decide) (by decide) (by decide) (by decide))
  |exact (HB.out.same _ (by decide) (by decide) (by decide) (by decide) (by decide))
 ·exact ⟨_, rfl⟩
 apply Yc rfl rfl
 ·intro dn r0 K hd hdep hK w5 hB1
  skip
  skip
  have HB := Yh_ hB1
  clear hB1 hdep
  go_wp2_with fail
  first
  |exact hK _ (HB.out.same _ (by decide) (by decide) (by decide) (by decide) (by decide))
  |exact (HB.out.same _ (by decide) (by decide) (by decide) (by decide) (by decide))
 ·exact ⟨_, rfl⟩
 apply Yc rfl rfl
 ·intro dn r0 K hd hdep hK w5 hB1
  skip
  skip
  have HB := Yh_ hB1
  clear hB1 hdep
  go_wp2_with (go_at_call 19; refine (Ydo _ _).mono ?_; rintro e w6 ⟨rfl, hu⟩)
  first
  |exact hK _ (HB.out.quiet hu _ (by decide) (by decide) (by decide) (by decide) (by decide))
  |exact (HB.out.quiet hu _ (by decide) (by decide) (by decide) (by decide) (by decide))
 ·exact ⟨_, rfl⟩
 apply Yc rfl rfl
 ·intro dn r0 K hd hdep hK w5 hB1
  skip
  skip
  have HB := Yh_ hB1
  clear hB1 hdep
  go_wp2_with fail
  first
  |exact hK _ (HB.out.same _ (by decide) (by decide) (by decide) (by decide) (by decide))
  |exact (HB.out.same _ (by decide) (by decide) (by decide) (by decide) (by decide))
 ·exact ⟨_, rfl⟩
 apply Yc rfl rfl
 ·intro dn r0 K hd hdep hK w5 hB1
  have HD := Yh_ hd
  skip
  have HB := Yh_ hB1
  clear hB1 hdep
  go_wp2_with (go_at_call 15; have hm0 := HB.out.k.m; rw [HD.out] at hm0; refine (Yid true hm0 HT.out HC.out.2).mono ?_; rintro e w6 ⟨rfl, hm6, hu6⟩; unfold Flt.val Flt.zero)
  first
  |exact hK _ (HB.out.call hm6 hu6 (by decide) (by decide) (by decide) (by decide))
  |exact (HB.out.call hm6 hu6 (by decide) (by decide) (by decide) (by decide))
 ·exact ⟨_, rfl⟩
 apply Yc rfl rfl
 ·intro dn r0 K hd hdep hK w5 hB1
  skip
  skip
  have HB := Yh_ hB1
  clear hB1 hdep
  go_wp2_with fail
  first
  |exact hK _ (HB.out.same _ (by decide) (by decide) (by decide) (by decide) (by decide))
  |exact (HB.out.same _ (by decide) (by decide) (by decide) (by decide) (by decide))
 ·exact ⟨_, rfl⟩
 apply Yc rfl rfl
 ·intro dn r0 K hd hdep hK w5 hB1
  skip
  skip
  have HB := Yh_ hB1
  clear hB1 hdep
  go_wp2_with fail
  first
  |exact hK _ (HB.out.same _ (by decide) (by decide) (by decide) (by decide) (by decide))
  |exact (HB.out.same _ (by decide) (by decide) (by decide) (by decide) (by decide))
 ·exact ⟨_, rfl⟩
 apply Yc rfl rfl
 ·intro dn r0 K hd hdep hK w5 hB1
  skip
  skip
  have HB := Yh_ hB1
  clear hB1 hdep
  go_wp2_with fail
  first
  |exact hK _ (HB.out.same _ (by decide) (by decide) (by decide) (by decide) (by decide))
  |exact (HB.out.same _ (by decide) (by decide) (by decide) (by decide) (by decide))
 ·exact ⟨_, rfl⟩
 apply Yc rfl rfl
 ·intro dn r0 K hd hdep hK w5 hB1
  skip
  skip
  have HB := Yh_ hB1
  clear hB1 hdep
  go_wp2_with fail
  first
  |exact hK _ (HB.out.same _ (by decide) (by decide) (by decide) (by decide) (by decide))
  |exact (HB.out.same _ (by decide) (by decide) (by decide) (by decide) (by decide))
 ·exact ⟨_, rfl⟩
 refine Yy rfl (fun _ => rfl) 20 rfl (by simp [Act.put]) ?_ ?_
 ·intro dn r0 K hd w5 hB1 hK
  have HB := Yh_ hB1
  clear hB1
  simp only [Yn]
  go_wp2_with fail
  first
  |exact hK (.pointer (some ⟨w5.heap.size, 0, none⟩)) _ (HB.out.layS hd (by decide) (by decide) (by decide) (by decide))
  |exact HB.out.layS hd (by decide) (by decide) (by decide) (by decide)
 refine Yy rfl (fun _ => rfl) 21 rfl (by simp [Act.put]) ?_ ?_
 ·intro dn r0 K hd w5 hB1 hK
  have HB := Yh_ hB1
  clear hB1
  simp only [Yn]
  go_wp2_with fail
  first
  |exact hK (.pointer (some ⟨w5.heap.size, 0, none⟩)) _ (HB.out.layF hd (by decide) (by decide) (by decide) (by decide))
  |exact HB.out.layF hd (by decide) (by decide) (by decide) (by decide)
 apply Yab rfl (fun _ => rfl)
 ·intro dn r0 K hd hdep hK w5 hB1
  have h8 : dn 11 = true := hdep ⟨11, .data⟩ (by simp) rfl
  obtain ⟨g0, e1, e2, e3⟩ := hB1.x h8
  refine Ya1 (scA (s.setR 2 v) true) g0 _ _ rfl (by show r0 11 = _; exact e1) rfl e3 (by cases dn 13 <;> rfl) ?_
  intro w6 hw; rw [← hw]
  exact hK _ (hB1.putS h8 e1 (by decide) (by decide) (by decide) (by decide))
 ·exact ⟨undef, fun _ => rfl, Eq.symm (by go_simp; exact rfl)⟩
 apply Yab rfl (fun _ => rfl)
 ·intro dn r0 K hd hdep hK w5 hB1
  have h8 : dn 12 = true := hdep ⟨12, .data⟩ (by simp) rfl
  obtain ⟨g0, e1, e2, e3⟩ := hB1.y h8
  refine Yba Flt.zero (cond (dn 14) Flt.zero Flt.zero) g0 _ _ rfl (by show r0 12 = _; exact e1) rfl (by rw [e3]; cases dn 14 <;> rfl) ?_
  skip
  exact hK _ (hB1.putF h8 e1 (by decide) (by decide) (by decide) (by decide))
 ·exact ⟨undef, fun _ => rfl, Eq.symm (by go_simp; exact rfl)⟩
 apply Yab rfl (fun _ => rfl)
 ·intro dn r0 K hd hdep hK w5 hB1
  skip
  skip
  have HB := Yh_ hB1
  clear hB1 hdep
  simp only [Yn]
  go_wp2_with fail
  first
  |exact hK _ (HB.out.same _ (by decide) (by decide) (by decide) (by decide) (by decide))
  |exact (HB.out.same _ (by decide) (by decide) (by decide) (by decide) (by decide))
 ·exact ⟨_, fun _ => rfl, Eq.symm (by go_simp; exact rfl)⟩
 refine Yak (fun _ r0 w33 dn hall hB2 => ?_)
 obtain ⟨ga3, gb3, e1, e2, hK⟩ := hB2.fin (hall 6 (by decide)) (hall 11 (by decide)) (hall 12 (by decide)) (hall 13 (by decide)) (hall 14 (by decide))
 have Q4 := Yh_ hK
 show wpList _ _ _ _ (Act.put (Act.put (Yn _ _ [] _) (some 20) (r0 11)) (some 21) (r0 12)) _
 rw [e1, e2]
 simp only [Yn]
 clear e1 e2 hK hall hB2 Q3
 have dA : w33.cell? ⟨ga0, 0, none⟩ = some (.int .u32 a0) := by rw [← HA.out.1]; exact (Ya (Q4.out.get 7 rfl) 0).trans (St.cR _ 0 (by decide))
 have dF : w33.cell? ⟨ga3, 0, none⟩ = some (.int .u32 f0) := by rw [← HA.out.2]; exact (Ya (Q4.out.get 1 rfl) 0).trans (St.cR _ 0 (by decide))
 have dB : w33.cell? ⟨ga1, 1, none⟩ = some (.int .u32 ((s.setR 2 v).R 1)) := Ya (Q4.out.get 5 rfl) 1
 have dP : w33.cell? ⟨ga2, 8, none⟩ = some (.int .u32 ((s.pc + 2) % 4294967296)) := Ya (Q4.out.get 3 rfl) 8
 have dE0 : w33.cell? ⟨ga2, 0, none⟩ = some (.int .u32 ((s.setR 2 v).R 0)) := Ya (Q4.out.get 3 rfl) 0
 have dS0 : w33.cell? ⟨w.heap.size, 0, none⟩ = some (.int .u32 ((s.setR 2 v).R 0)) := Ya (Q4.out.get 8 rfl) 0
 have dE1 : w33.cell? ⟨ga2, 1, none⟩ = some (.int .u32 ((s.setR 2 v).R 1)) := Ya (Q4.out.get 3 rfl) 1
 have dS1 : w33.cell? ⟨w.heap.size, 1, none⟩ = some (.int .u32 ((s.setR 2 v).R 1)) := Ya (Q4.out.get 8 rfl) 1
 have dE2 : w33.cell? ⟨ga2, 2, none⟩ = some (.int .u32 ((s.setR 2 v).R 2)) := Ya (Q4.out.get 3 rfl) 2
 have dS2 : w33.cell? ⟨w.heap.size, 2, none⟩ = some (.int .u32 ((s.setR 2 v).R 2)) := Ya (Q4.out.get 8 rfl) 2
 have dE3 : w33.cell? ⟨ga2, 3, none⟩ = some (.int .u32 ((s.setR 2 v).R 3)) := Ya (Q4.out.get 3 rfl) 3
 have dS3 : w33.cell? ⟨w.heap.size, 3, none⟩ = some (.int .u32 ((s.setR 2 v).R 3)) := Ya (Q4.out.get 8 rfl) 3
 have dE4 : w33.cell? ⟨ga2, 4, none⟩ = some (.int .u32 ((s.setR 2 v).R 4)) := Ya (Q4.out.get 3 rfl) 4
 have dS4 : w33.cell? ⟨w.heap.size, 4, none⟩ = some (.int .u32 ((s.setR 2 v).R 4)) := Ya (Q4.out.get 8 rfl) 4
 have dE5 : w33.cell? ⟨ga2, 5, none⟩ = some (.int .u32 ((s.setR 2 v).R 5)) := Ya (Q4.out.get 3 rfl) 5
 have dS5 : w33.cell? ⟨w.heap.size, 5, none⟩ = some (.int .u32 ((s.setR 2 v).R 5)) := Ya (Q4.out.get 8 rfl) 5
 have dE6 : w33.cell? ⟨ga2, 6, none⟩ = some (.int .u32 ((s.setR 2 v).R 6)) := Ya (Q4.out.get 3 rfl) 6
 have dS6 : w33.cell? ⟨w.heap.size, 6, none⟩ = some (.int .u32 ((s.setR 2 v).R 6)) := Ya (Q4.out.get 8 rfl) 6
 have dE7 : w33.cell? ⟨ga2, 7, none⟩ = some (.int .u32 ((s.setR 2 v).R 7)) := Ya (Q4.out.get 3 rfl) 7
 have dS7 : w33.cell? ⟨w.heap.size, 7, none⟩ = some (.int .u32 ((s.setR 2 v).R 7)) := Ya (Q4.out.get 8 rfl) 7
 have dG0 : w33.cell? ⟨ga2, 9, none⟩ = some (.bool s.cf) := Ya (Q4.out.get 3 rfl) 9
 have dH0 : w33.cell? ⟨w.heap.size, 9, none⟩ = some (.bool s.cf) := Ya (Q4.out.get 8 rfl) 9
 have dG1 : w33.cell? ⟨ga2, 10, none⟩ = some (.bool s.pf) := Ya (Q4.out.get 3 rfl) 10
 have dH1 : w33.cell? ⟨w.heap.size, 10, none⟩ = some (.bool s.pf) := Ya (Q4.out.get 8 rfl) 10
 have dG2 : w33.cell? ⟨ga2, 11, none⟩ = some (.bool s.af) := Ya (Q4.out.get 3 rfl) 11
 have dH2 : w33.cell? ⟨w.heap.size, 11, none⟩ = some (.bool s.af) := Ya (Q4.out.get 8 rfl) 11
 have dG3 : w33.cell? ⟨ga2, 12, none⟩ = some (.bool s.zf) := Ya (Q4.out.get 3 rfl) 12
 have dH3 : w33.cell? ⟨w.heap.size, 12, none⟩ = some (.bool s.zf) := Ya (Q4.out.get 8 rfl) 12
 have dG4 : w33.cell? ⟨ga2, 13, none⟩ = some (.bool s.sf) := Ya (Q4.out.get 3 rfl) 13
 have dH4 : w33.cell? ⟨w.heap.size, 13, none⟩ = some (.bool s.sf) := Ya (Q4.out.get 8 rfl) 13
 have dG5 : w33.cell? ⟨ga2, 14, none⟩ = some (.bool s.of_) := Ya (Q4.out.get 3 rfl) 14
 have dH5 : w33.cell? ⟨w.heap.size, 14, none⟩ = some (.bool s.of_) := Ya (Q4.out.get 8 rfl) 14
 have dQ : w33.cell? ⟨w.heap.size, 8, none⟩ = some (.int .u32 s.pc) := Ya (Q4.out.get 8 rfl) 8
 go_wp2_with fail
 go_ret
 exact ⟨rfl, Q4.out.u⟩
theorem Yis (s : St) (cc v d : Int) (w : World) (hs : s.Ok) (hc : 0 ≤ cc) (hv : 0 ≤ v ∧ v < 4294967296) (hd : 0 ≤ d ∧ d < 4294967296) :
  Calls Tryz.prog 7 #[.agg s.cells, .int .u8 cc, .int .u32 v, .int .u32 d] w fun e w' => e = .returned (.bool true) ∧ Upd [] w w' := by
 cases hb : Ybg s.fl (cc % 16)
 ·exact sc_false s cc v d w hs hc hv hd hb
 ·exact sc_true s cc v d w hs hc hv hd hb
end Go.Proofs.YthakgjpejhjaoaaGreat
