/-
  Parts of the proof (their names shortened by a program). No condition.
-/
import Derived.Test.YthakgjpejhjaoaaGreatMg01
import Derived.Test.YthakgjpejhjaoaaGreatMg23
import Derived.Deep.QuietTactic
import Derived.BigQuiet
namespace Go.Proofs.YthakgjpejhjaoaaGreat
open Go Go.RowKit
set_option linter.unusedVariables false
set_option linter.unusedSimpArgs false
set_option maxRecDepth 100000
set_option maxHeartbeats 16000000
theorem mvY_k (s : St) (k j : Nat) (v : Int) (h : k ≠ j) : (mvY s k j v).R k = (mvT s).R j := by
 have h' : ¬ j = k := fun e => h e.symm
 simp [mvY, mvU, St.setR, St.goOn, h, h']
theorem Yh1 {P : Program} {ops : Array Oper} {B : World → Prop} {X : List PanicEntry → World → Prop} {fin : List Nat → Act → Prop} {dead : List Nat} {i : Nat} {o : Oper} {rest : List Oper} {a : Act} (hd : Yaq dead o = false) (hw : Region.wanted o (yielded ops a.tmps) = false) (h : a.put o.dst undef = a) (k : Yc6 P ops B X fin dead (i + 1) rest a) : Yc6 P ops B X fin dead i (o :: rest) a :=
 Yol hd hw (by rw [h]; exact k)
theorem wrap_sx (x : Int) : IntKind.u32.wrap (IntKind.i32.wrap (IntKind.i8.wrap x)) = Ydr (x % 256) := by
 unfold Ydr
 simp only [IntKind.wrap, IntKind.signed, IntKind.bits]
 simp
 split <;> omega
theorem Yk1 (x : Int) : wrap32 (IntKind.i8.wrap x) % 4294967296 = Ydr (x % 256) := by
 rw [← wrap_sx]
 simp only [IntKind.wrap, IntKind.signed, IntKind.bits]
 simp
 unfold wrap32
 split <;> split <;> omega
theorem Ydp (s : St) (k : Nat) (v : Int) : (s.setR k v).R k = v := by simp [St.setR]
theorem mv_same (s : St) (v a0 b0 : Int) (w : World) (k j : Nat) (hs : s.Ok) (hv : 0 ≤ v ∧ v < 4294967296) (ha : 0 ≤ a0) (hb : 0 ≤ b0) (hk : a0 % 8 = k) (hj : b0 % 8 = j) (hkj : k = j) :
  Calls Tryz.prog 6 #[.agg s.cells, .int .u32 v, .int .u8 a0, .int .u8 b0] w fun e w' => e = .returned (.bool true) ∧ Upd [] w w' := by
 have hkk : k < 8 := by omega
 have hjj : j < 8 := by omega
 have HS := Yh_ (And.intro hs (And.intro hv (And.intro hkk hjj)))
 obtain ⟨x, hx⟩ : ∃ x : Int, x = (k : Int) := ⟨_, rfl⟩
 obtain ⟨y, hy⟩ : ∃ y : Int, y = (j : Int) := ⟨_, rfl⟩
 have HX := Yh_ (And.intro hx hy)
 have HN := Yh_ hkj
 rw [← hx] at hk
 rw [← hy] at hj
 have e3 : a0.tmod 8 = x := by rw [Int.tmod_eq_emod_of_nonneg ha]; exact hk
 have e4 : b0.tmod 8 = y := by rw [Int.tmod_eq_emod_of_nonneg hb]; exact hj
 have e6 : wrap64 x = x := by unfold wrap64; omega
 have e7 : wrap64 y = y := by unfold wrap64; omega
 have e8 : (x == y) = true := by simp; omega
 have e10 : x.toNat = k := by omega
 have e11 : y.toNat = j := by omega
 have b1 : 0 ≤ x ∧ x < 8 := by omega
 have b2 : 0 ≤ y ∧ y < 8 := by omega
 have m1 : bits .and .u32 (v / 256) 255 = v / 256 % 256 := Yho _ (by omega) (by omega)
 have hEF := Yhv s.cf s.pf s.af s.zf s.sf s.of_
 have m5 := Yk1 (v / 256)
 clear hs hv ha hb hkk hjj hx hy hkj hk hj
 have tok : True := trivial
 go_enter Tryz.func6, Tryz.ntmps6
 go_wp2_with (first | (have _t := tok; clear _t; go_at_call 12; refine (Yhu _).mono ?_; rintro e w0 ⟨rfl, hu0⟩; clear tok) | (have _t := hu0; clear _t; go_at_call 13; refine (Yjc _).mono ?_; rintro e w1 ⟨p, pb, rfl, ha, hp, hM1, hu1⟩; have K0 := Yh_ (show Kn w p pb Mem.zero [(w.heap.size, .cells (St.cells s) 28 (0, 0))] w1 from Kn.start1 hu0 ha hp hM1 hu1); clear hu0 hu1 ha hp hM1) | (have _t := K0; clear _t; go_at_call 14; refine (Yje Mem.zero p pb 0 1 3 _ K0.out.m (by decide)).mono ?_; rintro e w11 ⟨rfl, hm, hu⟩; rw [show Mem.zero.mapB 0 1 3 = true from mv_map, Ygy]; have K1 := Yh_ (show Kn w p pb Yds [(w.heap.size, .cells (St.cells s) 28 (0, 0))] w11 from K0.out.step hm hu); clear hm hu K0 ))
 have Q0 := Yh_ (Kq.of K1.out)
 clear K1 
 try simp only [e6, e7]
 refine Yai 16 (Kd w p pb Yds (mvM v) [(w.heap.size, .cells (St.cells s) 28 (0, 0))] _ (mvT s) Flt.zero 6 11 12 13 14) (fun _ _ => False) (by kernel_rfl) (by decide +kernel) (fun r0 => Kd.start Q0.out (mvM v) (mvT s) Flt.zero 6 11 12 13 14 r0) (fun _ _ _ h => h.elim) ?_
 simp only [List.take_succ_cons, List.take_zero, List.drop_succ_cons, List.drop_zero]
 apply Yb rfl rfl
 ·intro dn r0 K hd hdep hK w5 hB1
  skip
  skip
  have HB := Yh_ hB1
  clear hB1 hdep
  go_wp2_with fail
  first
  |exact hK _ (HB.out.same _ (by decide) (by decide) (by decide) (by decide) (by decide))
  |exact (HB.out.same _ (by decide) (by decide) (by decide) (by decide) (by decide))
 ·exact ⟨_, rfl⟩
 apply Yb rfl rfl
 ·intro dn r0 K hd hdep hK w5 hB1
  refine Yax s _ _ rfl rfl (hB1.k.get 0 rfl) ?_
  exact hK _ (hB1.same _ (by decide) (by decide) (by decide) (by decide) (by decide))
 ·exact ⟨_, rfl⟩
 apply Yb rfl rfl
 ·intro dn r0 K hd hdep hK w5 hB1
  skip
  skip
  have HB := Yh_ hB1
  clear hB1 hdep
  go_wp2_with (go_at_call 17; refine (Ydb _ _).mono ?_; rintro e w6 ⟨rfl, hu⟩)
  first
  |exact hK _ (HB.out.quiet hu _ (by decide) (by decide) (by decide) (by decide) (by decide))
  |exact (HB.out.quiet hu _ (by decide) (by decide) (by decide) (by decide) (by decide))
 ·exact ⟨_, rfl⟩
 apply Yb rfl rfl
 ·intro dn r0 K hd hdep hK w5 hB1
  skip
  skip
  have HB := Yh_ hB1
  clear hB1 hdep
  go_wp2_with fail
  first
  |exact hK _ (HB.out.same _ (by decide) (by decide) (by decide) (by decide) (by decide))
  |exact (HB.out.same _ (by decide) (by decide) (by decide) (by decide) (by decide))
 ·exact ⟨_, rfl⟩
 apply Yb rfl rfl
 ·intro dn r0 K hd hdep hK w5 hB1
  skip
  skip
  have HB := Yh_ hB1
  clear hB1 hdep
  go_wp2_with (go_at_call 18; refine (Ykb _ _).mono ?_; rintro e w6 ⟨rfl, hu⟩)
  first
  |exact hK _ (HB.out.quiet hu _ (by decide) (by decide) (by decide) (by decide) (by decide))
  |exact (HB.out.quiet hu _ (by decide) (by decide) (by decide) (by decide) (by decide))
 ·exact ⟨_, rfl⟩
 apply Yb rfl rfl
 ·intro dn r0 K hd hdep hK w5 hB1
  skip
  skip
  have HB := Yh_ hB1
  clear hB1 hdep
  go_wp2_with fail
  first
  |exact hK _ (HB.out.same _ (by decide) (by decide) (by decide) (by decide) (by decide))
  |exact (HB.out.same _ (by decide) (by decide) (by decide) (by decide) (by decide))
 ·exact ⟨_, rfl⟩
 apply Yb rfl rfl
 ·intro dn r0 K hd hdep hK w5 hB1
  have HD := Yh_ hd
  skip
  have HB := Yh_ hB1
  clear hB1 hdep
  go_wp2_with (go_at_call 15; have hm0 := HB.out.k.m; rw [HD.out] at hm0; refine (mv_t hm0 HS.out.1 HS.out.2.1).mono ?_; rintro e w6 ⟨rfl, hm6, hu6⟩; unfold Flt.val Flt.zero)
  first
  |exact hK _ (HB.out.call hm6 hu6 (by decide) (by decide) (by decide) (by decide))
  |exact (HB.out.call hm6 hu6 (by decide) (by decide) (by decide) (by decide))
 ·exact ⟨_, rfl⟩
 apply Yb rfl rfl
 ·intro dn r0 K hd hdep hK w5 hB1
  skip
  skip
  have HB := Yh_ hB1
  clear hB1 hdep
  go_wp2_with fail
  first
  |exact hK _ (HB.out.same _ (by decide) (by decide) (by decide) (by decide) (by decide))
  |exact (HB.out.same _ (by decide) (by decide) (by decide) (by decide) (by decide))
 ·exact ⟨_, rfl⟩
 apply Yb rfl rfl
 ·intro dn r0 K hd hdep hK w5 hB1
  skip
  skip
  have HB := Yh_ hB1
  clear hB1 hdep
  go_wp2_with fail
  first
  |exact hK _ (HB.out.same _ (by decide) (by decide) (by decide) (by decide) (by decide))
  |exact (HB.out.same _ (by decide) (by decide) (by decide) (by decide) (by decide))
 ·exact ⟨_, rfl⟩
 apply Yb rfl rfl
 ·intro dn r0 K hd hdep hK w5 hB1
  skip
  skip
  have HB := Yh_ hB1
  clear hB1 hdep
  go_wp2_with fail
  first
  |exact hK _ (HB.out.same _ (by decide) (by decide) (by decide) (by decide) (by decide))
  |exact (HB.out.same _ (by decide) (by decide) (by decide) (by decide) (by decide))
 ·exact ⟨_, rfl⟩
 apply Yb rfl rfl
 ·intro dn r0 K hd hdep hK w5 hB1
  skip
  skip
  have HB := Yh_ hB1
  clear hB1 hdep
  go_wp2_with fail
  first
  |exact hK _ (HB.out.same _ (by decide) (by decide) (by decide) (by decide) (by decide))
  |exact (HB.out.same _ (by decide) (by decide) (by decide) (by decide) (by decide))
 ·exact ⟨_, rfl⟩
 refine Yr rfl (fun _ => rfl) 12 rfl (by simp [Act.put]) ?_ ?_
 ·intro dn r0 K hd w5 hB1 hK
  have HB := Yh_ hB1
  clear hB1
  simp only [Yi]
  go_wp2_with fail
  first
  |exact hK (.pointer (some ⟨w5.heap.size, 0, none⟩)) _ (HB.out.layS hd (by decide) (by decide) (by decide) (by decide))
  |exact HB.out.layS hd (by decide) (by decide) (by decide) (by decide)
 refine Yr rfl (fun _ => rfl) 13 rfl (by simp [Act.put]) ?_ ?_
 ·intro dn r0 K hd w5 hB1 hK
  have HB := Yh_ hB1
  clear hB1
  simp only [Yi]
  go_wp2_with fail
  first
  |exact hK (.pointer (some ⟨w5.heap.size, 0, none⟩)) _ (HB.out.layF hd (by decide) (by decide) (by decide) (by decide))
  |exact HB.out.layF hd (by decide) (by decide) (by decide) (by decide)
 apply Yt rfl (fun _ => rfl)
 ·intro dn r0 K hd hdep hK w5 hB1
  have h8 : dn 11 = true := hdep ⟨11, .data⟩ (by simp) rfl
  obtain ⟨g0, e1, e2, e3⟩ := hB1.x h8
  refine Yas (mvT s) g0 _ _ rfl (by show r0 11 = _; exact e1) rfl e3 (by cases dn 13 <;> rfl) ?_
  intro w6 hw; rw [← hw]
  exact hK _ (hB1.putS h8 e1 (by decide) (by decide) (by decide) (by decide))
 ·exact ⟨undef, fun _ => rfl, Eq.symm (by go_simp; exact rfl)⟩
 apply Yt rfl (fun _ => rfl)
 ·intro dn r0 K hd hdep hK w5 hB1
  have h8 : dn 12 = true := hdep ⟨12, .data⟩ (by simp) rfl
  obtain ⟨g0, e1, e2, e3⟩ := hB1.y h8
  refine Yav Flt.zero (cond (dn 14) Flt.zero Flt.zero) g0 _ _ rfl (by show r0 12 = _; exact e1) rfl (by rw [e3]; cases dn 14 <;> rfl) ?_
  skip
  exact hK _ (hB1.putF h8 e1 (by decide) (by decide) (by decide) (by decide))
 ·exact ⟨undef, fun _ => rfl, Eq.symm (by go_simp; exact rfl)⟩
 apply Yt rfl (fun _ => rfl)
 ·intro dn r0 K hd hdep hK w5 hB1
  skip
  skip
  have HB := Yh_ hB1
  clear hB1 hdep
  simp only [Yi]
  go_wp2_with fail
  first
  |exact hK _ (HB.out.same _ (by decide) (by decide) (by decide) (by decide) (by decide))
  |exact (HB.out.same _ (by decide) (by decide) (by decide) (by decide) (by decide))
 ·exact ⟨_, fun _ => rfl, Eq.symm (by go_simp; exact rfl)⟩
 refine Yad (fun _ r0 w30 dn hall hB2 => ?_)
 obtain ⟨ga0, gb0, e1, e2, hK⟩ := hB2.fin (hall 6 (by decide)) (hall 11 (by decide)) (hall 12 (by decide)) (hall 13 (by decide)) (hall 14 (by decide))
 have Q1 := Yh_ hK
 show wpList _ _ _ _ (Act.put (Act.put (Yi _ _ [] _) (some 12) (r0 11)) (some 13) (r0 12)) _
 rw [e1, e2]
 simp only [Yi]
 clear e1 e2 hK hall hB2 Q0
 go_wp2_with fail
 refine Yai 16 (Kd w p pb (mvM v) (mvM v) [(gb0, .cells (Yo Flt.zero) 35 (0, 0)), (ga0, .cells (St.cells (mvT s)) 28 (0, 0)), (w.heap.size, .cells (St.cells s) 28 (0, 0))] _ (mvU s k v) Flt.zero 6 11 12 13 14) (fun _ _ => False) (by kernel_rfl) (by decide +kernel) (fun r0 => Kd.start Q1.out (mvM v) (mvU s k v) Flt.zero 6 11 12 13 14 r0) (fun _ _ _ h => h.elim) ?_
 simp only [List.take_succ_cons, List.take_zero, List.drop_succ_cons, List.drop_zero]
 apply Yb rfl rfl
 ·intro dn r0 K hd hdep hK w5 hB1
  skip
  skip
  have HB := Yh_ hB1
  clear hB1 hdep
  go_wp2_with fail
  first
  |exact hK _ (HB.out.same _ (by decide) (by decide) (by decide) (by decide) (by decide))
  |exact (HB.out.same _ (by decide) (by decide) (by decide) (by decide) (by decide))
 ·exact ⟨_, rfl⟩
 apply Yb rfl rfl
 ·intro dn r0 K hd hdep hK w5 hB1
  refine Yax (mvT s) _ _ rfl rfl (hB1.k.get 1 rfl) ?_
  exact hK _ (hB1.same _ (by decide) (by decide) (by decide) (by decide) (by decide))
 ·exact ⟨_, rfl⟩
 apply Yb rfl rfl
 ·intro dn r0 K hd hdep hK w5 hB1
  skip
  skip
  have HB := Yh_ hB1
  clear hB1 hdep
  go_wp2_with fail
  first
  |exact hK _ (HB.out.same _ (by decide) (by decide) (by decide) (by decide) (by decide))
  |exact (HB.out.same _ (by decide) (by decide) (by decide) (by decide) (by decide))
 ·exact ⟨_, rfl⟩
 apply Yb rfl rfl
 ·intro dn r0 K hd hdep hK w5 hB1
  skip
  skip
  have HB := Yh_ hB1
  clear hB1 hdep
  go_wp2_with (go_at_call 19; refine (Ycj _ _).mono ?_; rintro e w6 ⟨rfl, hu⟩)
  first
  |exact hK _ (HB.out.quiet hu _ (by decide) (by decide) (by decide) (by decide) (by decide))
  |exact (HB.out.quiet hu _ (by decide) (by decide) (by decide) (by decide) (by decide))
 ·exact ⟨_, rfl⟩
 apply Yb rfl rfl
 ·intro dn r0 K hd hdep hK w5 hB1
  skip
  skip
  have HB := Yh_ hB1
  clear hB1 hdep
  go_wp2_with (go_at_call 17; refine (Ydb _ _).mono ?_; rintro e w6 ⟨rfl, hu⟩)
  first
  |exact hK _ (HB.out.quiet hu _ (by decide) (by decide) (by decide) (by decide) (by decide))
  |exact (HB.out.quiet hu _ (by decide) (by decide) (by decide) (by decide) (by decide))
 ·exact ⟨_, rfl⟩
 apply Yb rfl rfl
 ·intro dn r0 K hd hdep hK w5 hB1
  skip
  skip
  have HB := Yh_ hB1
  clear hB1 hdep
  go_wp2_with fail
  first
  |exact hK _ (HB.out.same _ (by decide) (by decide) (by decide) (by decide) (by decide))
  |exact (HB.out.same _ (by decide) (by decide) (by decide) (by decide) (by decide))
 ·exact ⟨_, rfl⟩
 apply Yb rfl rfl
 ·intro dn r0 K hd hdep hK w5 hB1
  have HD := Yh_ hd
  skip
  have HB := Yh_ hB1
  clear hB1 hdep
  go_wp2_with (go_at_call 15; have hm0 := HB.out.k.m; rw [HD.out] at hm0; refine (mv_u hm0 HS.out.1 HS.out.2.1 HS.out.2.2.1 HX.out.1).mono ?_; rintro e w6 ⟨rfl, hm6, hu6⟩; unfold Flt.val Flt.zero)
  first
  |exact hK _ (HB.out.call hm6 hu6 (by decide) (by decide) (by decide) (by decide))
  |exact (HB.out.call hm6 hu6 (by decide) (by decide) (by decide) (by decide))
 ·exact ⟨_, rfl⟩
 apply Yb rfl rfl
 ·intro dn r0 K hd hdep hK w5 hB1
  skip
  skip
  have HB := Yh_ hB1
  clear hB1 hdep
  go_wp2_with fail
  first
  |exact hK _ (HB.out.same _ (by decide) (by decide) (by decide) (by decide) (by decide))
  |exact (HB.out.same _ (by decide) (by decide) (by decide) (by decide) (by decide))
 ·exact ⟨_, rfl⟩
 apply Yb rfl rfl
 ·intro dn r0 K hd hdep hK w5 hB1
  skip
  skip
  have HB := Yh_ hB1
  clear hB1 hdep
  go_wp2_with fail
  first
  |exact hK _ (HB.out.same _ (by decide) (by decide) (by decide) (by decide) (by decide))
  |exact (HB.out.same _ (by decide) (by decide) (by decide) (by decide) (by decide))
 ·exact ⟨_, rfl⟩
 apply Yb rfl rfl
 ·intro dn r0 K hd hdep hK w5 hB1
  skip
  skip
  have HB := Yh_ hB1
  clear hB1 hdep
  go_wp2_with fail
  first
  |exact hK _ (HB.out.same _ (by decide) (by decide) (by decide) (by decide) (by decide))
  |exact (HB.out.same _ (by decide) (by decide) (by decide) (by decide) (by decide))
 ·exact ⟨_, rfl⟩
 apply Yb rfl rfl
 ·intro dn r0 K hd hdep hK w5 hB1
  skip
  skip
  have HB := Yh_ hB1
  clear hB1 hdep
  go_wp2_with fail
  first
  |exact hK _ (HB.out.same _ (by decide) (by decide) (by decide) (by decide) (by decide))
  |exact (HB.out.same _ (by decide) (by decide) (by decide) (by decide) (by decide))
 ·exact ⟨_, rfl⟩
 refine Yr rfl (fun _ => rfl) 15 rfl (by simp [Act.put]) ?_ ?_
 ·intro dn r0 K hd w5 hB1 hK
  have HB := Yh_ hB1
  clear hB1
  simp only [Yi]
  go_wp2_with fail
  first
  |exact hK (.pointer (some ⟨w5.heap.size, 0, none⟩)) _ (HB.out.layS hd (by decide) (by decide) (by decide) (by decide))
  |exact HB.out.layS hd (by decide) (by decide) (by decide) (by decide)
 refine Yr rfl (fun _ => rfl) 16 rfl (by simp [Act.put]) ?_ ?_
 ·intro dn r0 K hd w5 hB1 hK
  have HB := Yh_ hB1
  clear hB1
  simp only [Yi]
  go_wp2_with fail
  first
  |exact hK (.pointer (some ⟨w5.heap.size, 0, none⟩)) _ (HB.out.layF hd (by decide) (by decide) (by decide) (by decide))
  |exact HB.out.layF hd (by decide) (by decide) (by decide) (by decide)
 apply Yt rfl (fun _ => rfl)
 ·intro dn r0 K hd hdep hK w5 hB1
  have h8 : dn 11 = true := hdep ⟨11, .data⟩ (by simp) rfl
  obtain ⟨g0, e1, e2, e3⟩ := hB1.x h8
  refine Yas (mvU s k v) g0 _ _ rfl (by show r0 11 = _; exact e1) rfl e3 (by cases dn 13 <;> rfl) ?_
  intro w6 hw; rw [← hw]
  exact hK _ (hB1.putS h8 e1 (by decide) (by decide) (by decide) (by decide))
 ·exact ⟨undef, fun _ => rfl, Eq.symm (by go_simp; exact rfl)⟩
 apply Yt rfl (fun _ => rfl)
 ·intro dn r0 K hd hdep hK w5 hB1
  have h8 : dn 12 = true := hdep ⟨12, .data⟩ (by simp) rfl
  obtain ⟨g0, e1, e2, e3⟩ := hB1.y h8
  refine Yav Flt.zero (cond (dn 14) Flt.zero Flt.zero) g0 _ _ rfl (by show r0 12 = _; exact e1) rfl (by rw [e3]; cases dn 14 <;> rfl) ?_
  skip
  exact hK _ (hB1.putF h8 e1 (by decide) (by decide) (by decide) (by decide))
 ·exact ⟨undef, fun _ => rfl, Eq.symm (by go_simp; exact rfl)⟩
 apply Yt rfl (fun _ => rfl)
 ·intro dn r0 K hd hdep hK w5 hB1
  skip
  skip
  have HB := Yh_ hB1
  clear hB1 hdep
  simp only [Yi]
  go_wp2_with fail
  first
  |exact hK _ (HB.out.same _ (by decide) (by decide) (by decide) (by decide) (by decide))
  |exact (HB.out.same _ (by decide) (by decide) (by decide) (by decide) (by decide))
 ·exact ⟨_, fun _ => rfl, Eq.symm (by go_simp; exact rfl)⟩
 refine Yad (fun _ r0 w31 dn hall hB2 => ?_)
 obtain ⟨ga1, gb1, e1, e2, hK⟩ := hB2.fin (hall 6 (by decide)) (hall 11 (by decide)) (hall 12 (by decide)) (hall 13 (by decide)) (hall 14 (by decide))
 have Q2 := Yh_ hK
 show wpList _ _ _ _ (Act.put (Act.put (Yi _ _ [] _) (some 15) (r0 11)) (some 16) (r0 12)) _
 rw [e1, e2]
 simp only [Yi]
 clear e1 e2 hK hall hB2 Q1
 go_wp2_with fail
 refine Yai 16 (Kd w p pb (mvM v) (mvM v) [(gb1, .cells (Yo Flt.zero) 35 (0, 0)), (ga1, .cells (St.cells (mvU s k v)) 28 (0, 0)), (gb0, .cells (Yo Flt.zero) 35 (0, 0)), (ga0, .cells (St.cells (mvT s)) 28 (0, 0)), (w.heap.size, .cells (St.cells s) 28 (0, 0))] _ (((mvT s).goOn 7).setR j (Ybi 36 (v / 256 % 256))) Flt.zero 6 11 12 13 14) (fun _ _ => False) (by kernel_rfl) (by decide +kernel) (fun r0 => Kd.start Q2.out (mvM v) (((mvT s).goOn 7).setR j (Ybi 36 (v / 256 % 256))) Flt.zero 6 11 12 13 14 r0) (fun _ _ _ h => h.elim) ?_
 simp only [List.take_succ_cons, List.take_zero, List.drop_succ_cons, List.drop_zero]
 apply Yb rfl rfl
 ·intro dn r0 K hd hdep hK w5 hB1
  skip
  skip
  have HB := Yh_ hB1
  clear hB1 hdep
  go_wp2_with fail
  first
  |exact hK _ (HB.out.same _ (by decide) (by decide) (by decide) (by decide) (by decide))
  |exact (HB.out.same _ (by decide) (by decide) (by decide) (by decide) (by decide))
 ·exact ⟨_, rfl⟩
 apply Yb rfl rfl
 ·intro dn r0 K hd hdep hK w5 hB1
  refine Yax (mvT s) _ _ rfl rfl (hB1.k.get 3 rfl) ?_
  exact hK _ (hB1.same _ (by decide) (by decide) (by decide) (by decide) (by decide))
 ·exact ⟨_, rfl⟩
 apply Yb rfl rfl
 ·intro dn r0 K hd hdep hK w5 hB1
  skip
  skip
  have HB := Yh_ hB1
  clear hB1 hdep
  go_wp2_with fail
  first
  |exact hK _ (HB.out.same _ (by decide) (by decide) (by decide) (by decide) (by decide))
  |exact (HB.out.same _ (by decide) (by decide) (by decide) (by decide) (by decide))
 ·exact ⟨_, rfl⟩
 apply Yb rfl rfl
 ·intro dn r0 K hd hdep hK w5 hB1
  skip
  skip
  have HB := Yh_ hB1
  clear hB1 hdep
  go_wp2_with (go_at_call 19; refine (Ycj _ _).mono ?_; rintro e w6 ⟨rfl, hu⟩)
  first
  |exact hK _ (HB.out.quiet hu _ (by decide) (by decide) (by decide) (by decide) (by decide))
  |exact (HB.out.quiet hu _ (by decide) (by decide) (by decide) (by decide) (by decide))
 ·exact ⟨_, rfl⟩
 apply Yb rfl rfl
 ·intro dn r0 K hd hdep hK w5 hB1
  skip
  skip
  have HB := Yh_ hB1
  clear hB1 hdep
  go_wp2_with (go_at_call 17; refine (Ydb _ _).mono ?_; rintro e w6 ⟨rfl, hu⟩)
  first
  |exact hK _ (HB.out.quiet hu _ (by decide) (by decide) (by decide) (by decide) (by decide))
  |exact (HB.out.quiet hu _ (by decide) (by decide) (by decide) (by decide) (by decide))
 ·exact ⟨_, rfl⟩
 apply Yb rfl rfl
 ·intro dn r0 K hd hdep hK w5 hB1
  skip
  skip
  have HB := Yh_ hB1
  clear hB1 hdep
  go_wp2_with fail
  first
  |exact hK _ (HB.out.same _ (by decide) (by decide) (by decide) (by decide) (by decide))
  |exact (HB.out.same _ (by decide) (by decide) (by decide) (by decide) (by decide))
 ·exact ⟨_, rfl⟩
 apply Yb rfl rfl
 ·intro dn r0 K hd hdep hK w5 hB1
  have HD := Yh_ hd
  skip
  have HB := Yh_ hB1
  clear hB1 hdep
  go_wp2_with (go_at_call 15; have hm0 := HB.out.k.m; rw [HD.out] at hm0; refine (mv_wx 36 (.inl rfl) hm0 HS.out.1 HS.out.2.1 HS.out.2.2.2 HX.out.2).mono ?_; rintro e w6 ⟨rfl, hm6, hu6⟩; unfold Flt.val Flt.zero)
  first
  |exact hK _ (HB.out.call hm6 hu6 (by decide) (by decide) (by decide) (by decide))
  |exact (HB.out.call hm6 hu6 (by decide) (by decide) (by decide) (by decide))
 ·exact ⟨_, rfl⟩
 apply Yb rfl rfl
 ·intro dn r0 K hd hdep hK w5 hB1
  skip
  skip
  have HB := Yh_ hB1
  clear hB1 hdep
  go_wp2_with fail
  first
  |exact hK _ (HB.out.same _ (by decide) (by decide) (by decide) (by decide) (by decide))
  |exact (HB.out.same _ (by decide) (by decide) (by decide) (by decide) (by decide))
 ·exact ⟨_, rfl⟩
 apply Yb rfl rfl
 ·intro dn r0 K hd hdep hK w5 hB1
  skip
  skip
  have HB := Yh_ hB1
  clear hB1 hdep
  go_wp2_with fail
  first
  |exact hK _ (HB.out.same _ (by decide) (by decide) (by decide) (by decide) (by decide))
  |exact (HB.out.same _ (by decide) (by decide) (by decide) (by decide) (by decide))
 ·exact ⟨_, rfl⟩
 apply Yb rfl rfl
 ·intro dn r0 K hd hdep hK w5 hB1
  skip
  skip
  have HB := Yh_ hB1
  clear hB1 hdep
  go_wp2_with fail
  first
  |exact hK _ (HB.out.same _ (by decide) (by decide) (by decide) (by decide) (by decide))
  |exact (HB.out.same _ (by decide) (by decide) (by decide) (by decide) (by decide))
 ·exact ⟨_, rfl⟩
 apply Yb rfl rfl
 ·intro dn r0 K hd hdep hK w5 hB1
  skip
  skip
  have HB := Yh_ hB1
  clear hB1 hdep
  go_wp2_with fail
  first
  |exact hK _ (HB.out.same _ (by decide) (by decide) (by decide) (by decide) (by decide))
  |exact (HB.out.same _ (by decide) (by decide) (by decide) (by decide) (by decide))
 ·exact ⟨_, rfl⟩
 refine Yr rfl (fun _ => rfl) 18 rfl (by simp [Act.put]) ?_ ?_
 ·intro dn r0 K hd w5 hB1 hK
  have HB := Yh_ hB1
  clear hB1
  simp only [Yi]
  go_wp2_with fail
  first
  |exact hK (.pointer (some ⟨w5.heap.size, 0, none⟩)) _ (HB.out.layS hd (by decide) (by decide) (by decide) (by decide))
  |exact HB.out.layS hd (by decide) (by decide) (by decide) (by decide)
 refine Yr rfl (fun _ => rfl) 19 rfl (by simp [Act.put]) ?_ ?_
 ·intro dn r0 K hd w5 hB1 hK
  have HB := Yh_ hB1
  clear hB1
  simp only [Yi]
  go_wp2_with fail
  first
  |exact hK (.pointer (some ⟨w5.heap.size, 0, none⟩)) _ (HB.out.layF hd (by decide) (by decide) (by decide) (by decide))
  |exact HB.out.layF hd (by decide) (by decide) (by decide) (by decide)
 apply Yt rfl (fun _ => rfl)
 ·intro dn r0 K hd hdep hK w5 hB1
  have h8 : dn 11 = true := hdep ⟨11, .data⟩ (by simp) rfl
  obtain ⟨g0, e1, e2, e3⟩ := hB1.x h8
  refine Yas (((mvT s).goOn 7).setR j (Ybi 36 (v / 256 % 256))) g0 _ _ rfl (by show r0 11 = _; exact e1) rfl e3 (by cases dn 13 <;> rfl) ?_
  intro w6 hw; rw [← hw]
  exact hK _ (hB1.putS h8 e1 (by decide) (by decide) (by decide) (by decide))
 ·exact ⟨undef, fun _ => rfl, Eq.symm (by go_simp; exact rfl)⟩
 apply Yt rfl (fun _ => rfl)
 ·intro dn r0 K hd hdep hK w5 hB1
  have h8 : dn 12 = true := hdep ⟨12, .data⟩ (by simp) rfl
  obtain ⟨g0, e1, e2, e3⟩ := hB1.y h8
  refine Yav Flt.zero (cond (dn 14) Flt.zero Flt.zero) g0 _ _ rfl (by show r0 12 = _; exact e1) rfl (by rw [e3]; cases dn 14 <;> rfl) ?_
  skip
  exact hK _ (hB1.putF h8 e1 (by decide) (by decide) (by decide) (by decide))
 ·exact ⟨undef, fun _ => rfl, Eq.symm (by go_simp; exact rfl)⟩
 apply Yt rfl (fun _ => rfl)
 ·intro dn r0 K hd hdep hK w5 hB1
  skip
  skip
  have HB := Yh_ hB1
  clear hB1 hdep
  simp only [Yi]
  go_wp2_with fail
  first
  |exact hK _ (HB.out.same _ (by decide) (by decide) (by decide) (by decide) (by decide))
  |exact (HB.out.same _ (by decide) (by decide) (by decide) (by decide) (by decide))
 ·exact ⟨_, fun _ => rfl, Eq.symm (by go_simp; exact rfl)⟩
 refine Yad (fun _ r0 w32 dn hall hB2 => ?_)
 obtain ⟨ga2, gb2, e1, e2, hK⟩ := hB2.fin (hall 6 (by decide)) (hall 11 (by decide)) (hall 12 (by decide)) (hall 13 (by decide)) (hall 14 (by decide))
 have Q3 := Yh_ hK
 show wpList _ _ _ _ (Act.put (Act.put (Yi _ _ [] _) (some 18) (r0 11)) (some 19) (r0 12)) _
 rw [e1, e2]
 simp only [Yi]
 clear e1 e2 hK hall hB2 Q2
 go_wp2_with fail
 refine Yai 16 (Kd w p pb (mvM v) (mvM v) [(gb2, .cells (Yo Flt.zero) 35 (0, 0)), (ga2, .cells (St.cells (((mvT s).goOn 7).setR j (Ybi 36 (v / 256 % 256)))) 28 (0, 0)), (gb1, .cells (Yo Flt.zero) 35 (0, 0)), (ga1, .cells (St.cells (mvU s k v)) 28 (0, 0)), (gb0, .cells (Yo Flt.zero) 35 (0, 0)), (ga0, .cells (St.cells (mvT s)) 28 (0, 0)), (w.heap.size, .cells (St.cells s) 28 (0, 0))] _ (((mvT s).goOn 7).setR j (Ybi 37 (v / 256 % 256))) Flt.zero 6 11 12 13 14) (fun _ _ => False) (by kernel_rfl) (by decide +kernel) (fun r0 => Kd.start Q3.out (mvM v) (((mvT s).goOn 7).setR j (Ybi 37 (v / 256 % 256))) Flt.zero 6 11 12 13 14 r0) (fun _ _ _ h => h.elim) ?_
 simp only [List.take_succ_cons, List.take_zero, List.drop_succ_cons, List.drop_zero]
 apply Yb rfl rfl
 ·intro dn r0 K hd hdep hK w5 hB1
  skip
  skip
  have HB := Yh_ hB1
  clear hB1 hdep
  go_wp2_with fail
  first
  |exact hK _ (HB.out.same _ (by decide) (by decide) (by decide) (by decide) (by decide))
  |exact (HB.out.same _ (by decide) (by decide) (by decide) (by decide) (by decide))
 ·exact ⟨_, rfl⟩
 apply Yb rfl rfl
 ·intro dn r0 K hd hdep hK w5 hB1
  refine Yax (mvT s) _ _ rfl rfl (hB1.k.get 5 rfl) ?_
  exact hK _ (hB1.same _ (by decide) (by decide) (by decide) (by decide) (by decide))
 ·exact ⟨_, rfl⟩
 apply Yb rfl rfl
 ·intro dn r0 K hd hdep hK w5 hB1
  skip
  skip
  have HB := Yh_ hB1
  clear hB1 hdep
  go_wp2_with fail
  first
  |exact hK _ (HB.out.same _ (by decide) (by decide) (by decide) (by decide) (by decide))
  |exact (HB.out.same _ (by decide) (by decide) (by decide) (by decide) (by decide))
 ·exact ⟨_, rfl⟩
 apply Yb rfl rfl
 ·intro dn r0 K hd hdep hK w5 hB1
  skip
  skip
  have HB := Yh_ hB1
  clear hB1 hdep
  go_wp2_with (go_at_call 19; refine (Ycj _ _).mono ?_; rintro e w6 ⟨rfl, hu⟩)
  first
  |exact hK _ (HB.out.quiet hu _ (by decide) (by decide) (by decide) (by decide) (by decide))
  |exact (HB.out.quiet hu _ (by decide) (by decide) (by decide) (by decide) (by decide))
 ·exact ⟨_, rfl⟩
 apply Yb rfl rfl
 ·intro dn r0 K hd hdep hK w5 hB1
  skip
  skip
  have HB := Yh_ hB1
  clear hB1 hdep
  go_wp2_with (go_at_call 17; refine (Ydb _ _).mono ?_; rintro e w6 ⟨rfl, hu⟩)
  first
  |exact hK _ (HB.out.quiet hu _ (by decide) (by decide) (by decide) (by decide) (by decide))
  |exact (HB.out.quiet hu _ (by decide) (by decide) (by decide) (by decide) (by decide))
 ·exact ⟨_, rfl⟩
 apply Yb rfl rfl
 ·intro dn r0 K hd hdep hK w5 hB1
  skip
  skip
  have HB := Yh_ hB1
  clear hB1 hdep
  go_wp2_with fail
  first
  |exact hK _ (HB.out.same _ (by decide) (by decide) (by decide) (by decide) (by decide))
  |exact (HB.out.same _ (by decide) (by decide) (by decide) (by decide) (by decide))
 ·exact ⟨_, rfl⟩
 apply Yb rfl rfl
 ·intro dn r0 K hd hdep hK w5 hB1
  have HD := Yh_ hd
  skip
  have HB := Yh_ hB1
  clear hB1 hdep
  go_wp2_with (go_at_call 15; have hm0 := HB.out.k.m; rw [HD.out] at hm0; refine (mv_wx 37 (.inr rfl) hm0 HS.out.1 HS.out.2.1 HS.out.2.2.2 HX.out.2).mono ?_; rintro e w6 ⟨rfl, hm6, hu6⟩; unfold Flt.val Flt.zero)
  first
  |exact hK _ (HB.out.call hm6 hu6 (by decide) (by decide) (by decide) (by decide))
  |exact (HB.out.call hm6 hu6 (by decide) (by decide) (by decide) (by decide))
 ·exact ⟨_, rfl⟩
 apply Yb rfl rfl
 ·intro dn r0 K hd hdep hK w5 hB1
  skip
  skip
  have HB := Yh_ hB1
  clear hB1 hdep
  go_wp2_with fail
  first
  |exact hK _ (HB.out.same _ (by decide) (by decide) (by decide) (by decide) (by decide))
  |exact (HB.out.same _ (by decide) (by decide) (by decide) (by decide) (by decide))
 ·exact ⟨_, rfl⟩
 apply Yb rfl rfl
 ·intro dn r0 K hd hdep hK w5 hB1
  skip
  skip
  have HB := Yh_ hB1
  clear hB1 hdep
  go_wp2_with fail
  first
  |exact hK _ (HB.out.same _ (by decide) (by decide) (by decide) (by decide) (by decide))
  |exact (HB.out.same _ (by decide) (by decide) (by decide) (by decide) (by decide))
 ·exact ⟨_, rfl⟩
 apply Yb rfl rfl
 ·intro dn r0 K hd hdep hK w5 hB1
  skip
  skip
  have HB := Yh_ hB1
  clear hB1 hdep
  go_wp2_with fail
  first
  |exact hK _ (HB.out.same _ (by decide) (by decide) (by decide) (by decide) (by decide))
  |exact (HB.out.same _ (by decide) (by decide) (by decide) (by decide) (by decide))
 ·exact ⟨_, rfl⟩
 apply Yb rfl rfl
 ·intro dn r0 K hd hdep hK w5 hB1
  skip
  skip
  have HB := Yh_ hB1
  clear hB1 hdep
  go_wp2_with fail
  first
  |exact hK _ (HB.out.same _ (by decide) (by decide) (by decide) (by decide) (by decide))
  |exact (HB.out.same _ (by decide) (by decide) (by decide) (by decide) (by decide))
 ·exact ⟨_, rfl⟩
 refine Yr rfl (fun _ => rfl) 21 rfl (by simp [Act.put]) ?_ ?_
 ·intro dn r0 K hd w5 hB1 hK
  have HB := Yh_ hB1
  clear hB1
  simp only [Yi]
  go_wp2_with fail
  first
  |exact hK (.pointer (some ⟨w5.heap.size, 0, none⟩)) _ (HB.out.layS hd (by decide) (by decide) (by decide) (by decide))
  |exact HB.out.layS hd (by decide) (by decide) (by decide) (by decide)
 refine Yr rfl (fun _ => rfl) 22 rfl (by simp [Act.put]) ?_ ?_
 ·intro dn r0 K hd w5 hB1 hK
  have HB := Yh_ hB1
  clear hB1
  simp only [Yi]
  go_wp2_with fail
  first
  |exact hK (.pointer (some ⟨w5.heap.size, 0, none⟩)) _ (HB.out.layF hd (by decide) (by decide) (by decide) (by decide))
  |exact HB.out.layF hd (by decide) (by decide) (by decide) (by decide)
 apply Yt rfl (fun _ => rfl)
 ·intro dn r0 K hd hdep hK w5 hB1
  have h8 : dn 11 = true := hdep ⟨11, .data⟩ (by simp) rfl
  obtain ⟨g0, e1, e2, e3⟩ := hB1.x h8
  refine Yas (((mvT s).goOn 7).setR j (Ybi 37 (v / 256 % 256))) g0 _ _ rfl (by show r0 11 = _; exact e1) rfl e3 (by cases dn 13 <;> rfl) ?_
  intro w6 hw; rw [← hw]
  exact hK _ (hB1.putS h8 e1 (by decide) (by decide) (by decide) (by decide))
 ·exact ⟨undef, fun _ => rfl, Eq.symm (by go_simp; exact rfl)⟩
 apply Yt rfl (fun _ => rfl)
 ·intro dn r0 K hd hdep hK w5 hB1
  have h8 : dn 12 = true := hdep ⟨12, .data⟩ (by simp) rfl
  obtain ⟨g0, e1, e2, e3⟩ := hB1.y h8
  refine Yav Flt.zero (cond (dn 14) Flt.zero Flt.zero) g0 _ _ rfl (by show r0 12 = _; exact e1) rfl (by rw [e3]; cases dn 14 <;> rfl) ?_
  skip
  exact hK _ (hB1.putF h8 e1 (by decide) (by decide) (by decide) (by decide))
 ·exact ⟨undef, fun _ => rfl, Eq.symm (by go_simp; exact rfl)⟩
 apply Yt rfl (fun _ => rfl)
 ·intro dn r0 K hd hdep hK w5 hB1
  skip
  skip
  have HB := Yh_ hB1
  clear hB1 hdep
  simp only [Yi]
  go_wp2_with fail
  first
  |exact hK _ (HB.out.same _ (by decide) (by decide) (by decide) (by decide) (by decide))
  |exact (HB.out.same _ (by decide) (by decide) (by decide) (by decide) (by decide))
 ·exact ⟨_, fun _ => rfl, Eq.symm (by go_simp; exact rfl)⟩
 refine Yad (fun _ r0 w33 dn hall hB2 => ?_)
 obtain ⟨ga3, gb3, e1, e2, hK⟩ := hB2.fin (hall 6 (by decide)) (hall 11 (by decide)) (hall 12 (by decide)) (hall 13 (by decide)) (hall 14 (by decide))
 have Q4 := Yh_ hK
 show wpList _ _ _ _ (Act.put (Act.put (Yi _ _ [] _) (some 21) (r0 11)) (some 22) (r0 12)) _
 rw [e1, e2]
 simp only [Yi]
 clear e1 e2 hK hall hB2 Q3
 go_wp2_with fail
 refine Yai 17 (Kd w p pb (mvM v) (mvM v) [(gb3, .cells (Yo Flt.zero) 35 (0, 0)), (ga3, .cells (St.cells (((mvT s).goOn 7).setR j (Ybi 37 (v / 256 % 256)))) 28 (0, 0)), (gb2, .cells (Yo Flt.zero) 35 (0, 0)), (ga2, .cells (St.cells (((mvT s).goOn 7).setR j (Ybi 36 (v / 256 % 256)))) 28 (0, 0)), (gb1, .cells (Yo Flt.zero) 35 (0, 0)), (ga1, .cells (St.cells (mvU s k v)) 28 (0, 0)), (gb0, .cells (Yo Flt.zero) 35 (0, 0)), (ga0, .cells (St.cells (mvT s)) 28 (0, 0)), (w.heap.size, .cells (St.cells s) 28 (0, 0))] _ (mvY s k j v) Flt.zero 7 12 13 14 15) (fun _ _ => False) (by kernel_rfl) (by decide +kernel) (fun r0 => Kd.start Q4.out (mvM v) (mvY s k j v) Flt.zero 7 12 13 14 15 r0) (fun _ _ _ h => h.elim) ?_
 simp only [List.take_succ_cons, List.take_zero, List.drop_succ_cons, List.drop_zero]
 apply Yb rfl rfl
 ·intro dn r0 K hd hdep hK w5 hB1
  skip
  skip
  have HB := Yh_ hB1
  clear hB1 hdep
  go_wp2_with fail
  first
  |exact hK _ (HB.out.same _ (by decide) (by decide) (by decide) (by decide) (by decide))
  |exact (HB.out.same _ (by decide) (by decide) (by decide) (by decide) (by decide))
 ·exact ⟨_, rfl⟩
 apply Yb rfl rfl
 ·intro dn r0 K hd hdep hK w5 hB1
  refine Yax (mvU s k v) _ _ rfl rfl (hB1.k.get 5 rfl) ?_
  exact hK _ (hB1.same _ (by decide) (by decide) (by decide) (by decide) (by decide))
 ·exact ⟨_, rfl⟩
 apply Yb rfl rfl
 ·intro dn r0 K hd hdep hK w5 hB1
  skip
  skip
  have HB := Yh_ hB1
  clear hB1 hdep
  go_wp2_with fail
  first
  |exact hK _ (HB.out.same _ (by decide) (by decide) (by decide) (by decide) (by decide))
  |exact (HB.out.same _ (by decide) (by decide) (by decide) (by decide) (by decide))
 ·exact ⟨_, rfl⟩
 apply Yb rfl rfl
 ·intro dn r0 K hd hdep hK w5 hB1
  skip
  skip
  have HB := Yh_ hB1
  clear hB1 hdep
  go_wp2_with (go_at_call 19; refine (Ycj _ _).mono ?_; rintro e w6 ⟨rfl, hu⟩)
  first
  |exact hK _ (HB.out.quiet hu _ (by decide) (by decide) (by decide) (by decide) (by decide))
  |exact (HB.out.quiet hu _ (by decide) (by decide) (by decide) (by decide) (by decide))
 ·exact ⟨_, rfl⟩
 apply Yb rfl rfl
 ·intro dn r0 K hd hdep hK w5 hB1
  skip
  skip
  have HB := Yh_ hB1
  clear hB1 hdep
  go_wp2_with fail
  first
  |exact hK _ (HB.out.same _ (by decide) (by decide) (by decide) (by decide) (by decide))
  |exact (HB.out.same _ (by decide) (by decide) (by decide) (by decide) (by decide))
 ·exact ⟨_, rfl⟩
 apply Yb rfl rfl
 ·intro dn r0 K hd hdep hK w5 hB1
  skip
  skip
  have HB := Yh_ hB1
  clear hB1 hdep
  go_wp2_with (go_at_call 19; refine (Ycj _ _).mono ?_; rintro e w6 ⟨rfl, hu⟩)
  first
  |exact hK _ (HB.out.quiet hu _ (by decide) (by decide) (by decide) (by decide) (by decide))
  |exact (HB.out.quiet hu _ (by decide) (by decide) (by decide) (by decide) (by decide))
 ·exact ⟨_, rfl⟩
 apply Yb rfl rfl
 ·intro dn r0 K hd hdep hK w5 hB1
  skip
  skip
  have HB := Yh_ hB1
  clear hB1 hdep
  go_wp2_with fail
  first
  |exact hK _ (HB.out.same _ (by decide) (by decide) (by decide) (by decide) (by decide))
  |exact (HB.out.same _ (by decide) (by decide) (by decide) (by decide) (by decide))
 ·exact ⟨_, rfl⟩
 apply Yb rfl rfl
 ·intro dn r0 K hd hdep hK w5 hB1
  have HD := Yh_ hd
  skip
  have HB := Yh_ hB1
  clear hB1 hdep
  go_wp2_with (go_at_call 15; have hm0 := HB.out.k.m; rw [HD.out] at hm0; refine (mv_y hm0 HS.out.1 HS.out.2.1 HS.out.2.2.1 HS.out.2.2.2 HX.out.1 HX.out.2).mono ?_; rintro e w6 ⟨rfl, hm6, hu6⟩; unfold Flt.val Flt.zero)
  first
  |exact hK _ (HB.out.call hm6 hu6 (by decide) (by decide) (by decide) (by decide))
  |exact (HB.out.call hm6 hu6 (by decide) (by decide) (by decide) (by decide))
 ·exact ⟨_, rfl⟩
 apply Yb rfl rfl
 ·intro dn r0 K hd hdep hK w5 hB1
  skip
  skip
  have HB := Yh_ hB1
  clear hB1 hdep
  go_wp2_with fail
  first
  |exact hK _ (HB.out.same _ (by decide) (by decide) (by decide) (by decide) (by decide))
  |exact (HB.out.same _ (by decide) (by decide) (by decide) (by decide) (by decide))
 ·exact ⟨_, rfl⟩
 apply Yb rfl rfl
 ·intro dn r0 K hd hdep hK w5 hB1
  skip
  skip
  have HB := Yh_ hB1
  clear hB1 hdep
  go_wp2_with fail
  first
  |exact hK _ (HB.out.same _ (by decide) (by decide) (by decide) (by decide) (by decide))
  |exact (HB.out.same _ (by decide) (by decide) (by decide) (by decide) (by decide))
 ·exact ⟨_, rfl⟩
 apply Yb rfl rfl
 ·intro dn r0 K hd hdep hK w5 hB1
  skip
  skip
  have HB := Yh_ hB1
  clear hB1 hdep
  go_wp2_with fail
  first
  |exact hK _ (HB.out.same _ (by decide) (by decide) (by decide) (by decide) (by decide))
  |exact (HB.out.same _ (by decide) (by decide) (by decide) (by decide) (by decide))
 ·exact ⟨_, rfl⟩
 apply Yb rfl rfl
 ·intro dn r0 K hd hdep hK w5 hB1
  skip
  skip
  have HB := Yh_ hB1
  clear hB1 hdep
  go_wp2_with fail
  first
  |exact hK _ (HB.out.same _ (by decide) (by decide) (by decide) (by decide) (by decide))
  |exact (HB.out.same _ (by decide) (by decide) (by decide) (by decide) (by decide))
 ·exact ⟨_, rfl⟩
 refine Yr rfl (fun _ => rfl) 24 rfl (by simp [Act.put]) ?_ ?_
 ·intro dn r0 K hd w5 hB1 hK
  have HB := Yh_ hB1
  clear hB1
  simp only [Yi]
  go_wp2_with fail
  first
  |exact hK (.pointer (some ⟨w5.heap.size, 0, none⟩)) _ (HB.out.layS hd (by decide) (by decide) (by decide) (by decide))
  |exact HB.out.layS hd (by decide) (by decide) (by decide) (by decide)
 refine Yr rfl (fun _ => rfl) 25 rfl (by simp [Act.put]) ?_ ?_
 ·intro dn r0 K hd w5 hB1 hK
  have HB := Yh_ hB1
  clear hB1
  simp only [Yi]
  go_wp2_with fail
  first
  |exact hK (.pointer (some ⟨w5.heap.size, 0, none⟩)) _ (HB.out.layF hd (by decide) (by decide) (by decide) (by decide))
  |exact HB.out.layF hd (by decide) (by decide) (by decide) (by decide)
 apply Yt rfl (fun _ => rfl)
 ·intro dn r0 K hd hdep hK w5 hB1
  have h8 : dn 12 = true := hdep ⟨12, .data⟩ (by simp) rfl
  obtain ⟨g0, e1, e2, e3⟩ := hB1.x h8
  refine Yas (mvY s k j v) g0 _ _ rfl (by show r0 12 = _; exact e1) rfl e3 (by cases dn 14 <;> rfl) ?_
  intro w6 hw; rw [← hw]
  exact hK _ (hB1.putS h8 e1 (by decide) (by decide) (by decide) (by decide))
 ·exact ⟨undef, fun _ => rfl, Eq.symm (by go_simp; exact rfl)⟩
 apply Yt rfl (fun _ => rfl)
 ·intro dn r0 K hd hdep hK w5 hB1
  have h8 : dn 13 = true := hdep ⟨13, .data⟩ (by simp) rfl
  obtain ⟨g0, e1, e2, e3⟩ := hB1.y h8
  refine Yav Flt.zero (cond (dn 15) Flt.zero Flt.zero) g0 _ _ rfl (by show r0 13 = _; exact e1) rfl (by rw [e3]; cases dn 15 <;> rfl) ?_
  skip
  exact hK _ (hB1.putF h8 e1 (by decide) (by decide) (by decide) (by decide))
 ·exact ⟨undef, fun _ => rfl, Eq.symm (by go_simp; exact rfl)⟩
 apply Yt rfl (fun _ => rfl)
 ·intro dn r0 K hd hdep hK w5 hB1
  skip
  skip
  have HB := Yh_ hB1
  clear hB1 hdep
  simp only [Yi]
  go_wp2_with fail
  first
  |exact hK _ (HB.out.same _ (by decide) (by decide) (by decide) (by decide) (by decide))
  |exact (HB.out.same _ (by decide) (by decide) (by decide) (by decide) (by decide))
 ·exact ⟨_, fun _ => rfl, Eq.symm (by go_simp; exact rfl)⟩
 refine Yad (fun _ r0 w34 dn hall hB2 => ?_)
 obtain ⟨ga4, gb4, e1, e2, hK⟩ := hB2.fin (hall 7 (by decide)) (hall 12 (by decide)) (hall 13 (by decide)) (hall 14 (by decide)) (hall 15 (by decide))
 have Q5 := Yh_ hK
 show wpList _ _ _ _ (Act.put (Act.put (Yi _ _ [] _) (some 24) (r0 12)) (some 25) (r0 13)) _
 rw [e1, e2]
 simp only [Yi]
 clear e1 e2 hK hall hB2 Q4
 go_wp2_with fail
 refine Yai 17 (Kd w p pb (mvM v) (mvM v) [(gb4, .cells (Yo Flt.zero) 35 (0, 0)), (ga4, .cells (St.cells (mvY s k j v)) 28 (0, 0)), (gb3, .cells (Yo Flt.zero) 35 (0, 0)), (ga3, .cells (St.cells (((mvT s).goOn 7).setR j (Ybi 37 (v / 256 % 256)))) 28 (0, 0)), (gb2, .cells (Yo Flt.zero) 35 (0, 0)), (ga2, .cells (St.cells (((mvT s).goOn 7).setR j (Ybi 36 (v / 256 % 256)))) 28 (0, 0)), (gb1, .cells (Yo Flt.zero) 35 (0, 0)), (ga1, .cells (St.cells (mvU s k v)) 28 (0, 0)), (gb0, .cells (Yo Flt.zero) 35 (0, 0)), (ga0, .cells (St.cells (mvT s)) 28 (0, 0)), (w.heap.size, .cells (St.cells s) 28 (0, 0))] _ (mvZ s k v) Flt.zero 7 12 13 14 15) (fun _ _ => False) (by kernel_rfl) (by decide +kernel) (fun r0 => Kd.start Q5.out (mvM v) (mvZ s k v) Flt.zero 7 12 13 14 15 r0) (fun _ _ _ h => h.elim) ?_
 simp only [List.take_succ_cons, List.take_zero, List.drop_succ_cons, List.drop_zero]
 apply Yb rfl rfl
 ·intro dn r0 K hd hdep hK w5 hB1
  skip
  skip
  have HB := Yh_ hB1
  clear hB1 hdep
  go_wp2_with fail
  first
  |exact hK _ (HB.out.same _ (by decide) (by decide) (by decide) (by decide) (by decide))
  |exact (HB.out.same _ (by decide) (by decide) (by decide) (by decide) (by decide))
 ·exact ⟨_, rfl⟩
 apply Yb rfl rfl
 ·intro dn r0 K hd hdep hK w5 hB1
  refine Yax (mvT s) _ _ rfl rfl (hB1.k.get 9 rfl) ?_
  exact hK _ (hB1.same _ (by decide) (by decide) (by decide) (by decide) (by decide))
 ·exact ⟨_, rfl⟩
 apply Yb rfl rfl
 ·intro dn r0 K hd hdep hK w5 hB1
  skip
  skip
  have HB := Yh_ hB1
  clear hB1 hdep
  go_wp2_with fail
  first
  |exact hK _ (HB.out.same _ (by decide) (by decide) (by decide) (by decide) (by decide))
  |exact (HB.out.same _ (by decide) (by decide) (by decide) (by decide) (by decide))
 ·exact ⟨_, rfl⟩
 apply Yb rfl rfl
 ·intro dn r0 K hd hdep hK w5 hB1
  skip
  skip
  have HB := Yh_ hB1
  clear hB1 hdep
  go_wp2_with (go_at_call 19; refine (Ycj _ _).mono ?_; rintro e w6 ⟨rfl, hu⟩)
  first
  |exact hK _ (HB.out.quiet hu _ (by decide) (by decide) (by decide) (by decide) (by decide))
  |exact (HB.out.quiet hu _ (by decide) (by decide) (by decide) (by decide) (by decide))
 ·exact ⟨_, rfl⟩
 apply Yb rfl rfl
 ·intro dn r0 K hd hdep hK w5 hB1
  skip
  skip
  have HB := Yh_ hB1
  clear hB1 hdep
  go_wp2_with fail
  first
  |exact hK _ (HB.out.same _ (by decide) (by decide) (by decide) (by decide) (by decide))
  |exact (HB.out.same _ (by decide) (by decide) (by decide) (by decide) (by decide))
 ·exact ⟨_, rfl⟩
 apply Yb rfl rfl
 ·intro dn r0 K hd hdep hK w5 hB1
  skip
  skip
  have HB := Yh_ hB1
  clear hB1 hdep
  go_wp2_with (go_at_call 17; refine (Ydb _ _).mono ?_; rintro e w6 ⟨rfl, hu⟩)
  first
  |exact hK _ (HB.out.quiet hu _ (by decide) (by decide) (by decide) (by decide) (by decide))
  |exact (HB.out.quiet hu _ (by decide) (by decide) (by decide) (by decide) (by decide))
 ·exact ⟨_, rfl⟩
 apply Yb rfl rfl
 ·intro dn r0 K hd hdep hK w5 hB1
  skip
  skip
  have HB := Yh_ hB1
  clear hB1 hdep
  go_wp2_with fail
  first
  |exact hK _ (HB.out.same _ (by decide) (by decide) (by decide) (by decide) (by decide))
  |exact (HB.out.same _ (by decide) (by decide) (by decide) (by decide) (by decide))
 ·exact ⟨_, rfl⟩
 apply Yb rfl rfl
 ·intro dn r0 K hd hdep hK w5 hB1
  have HD := Yh_ hd
  skip
  have HB := Yh_ hB1
  clear hB1 hdep
  go_wp2_with (go_at_call 15; have hm0 := HB.out.k.m; rw [HD.out] at hm0; refine (mv_z hm0 HS.out.1 HS.out.2.1 HS.out.2.2.1 HX.out.1).mono ?_; rintro e w6 ⟨rfl, hm6, hu6⟩; unfold Flt.val Flt.zero)
  first
  |exact hK _ (HB.out.call hm6 hu6 (by decide) (by decide) (by decide) (by decide))
  |exact (HB.out.call hm6 hu6 (by decide) (by decide) (by decide) (by decide))
 ·exact ⟨_, rfl⟩
 apply Yb rfl rfl
 ·intro dn r0 K hd hdep hK w5 hB1
  skip
  skip
  have HB := Yh_ hB1
  clear hB1 hdep
  go_wp2_with fail
  first
  |exact hK _ (HB.out.same _ (by decide) (by decide) (by decide) (by decide) (by decide))
  |exact (HB.out.same _ (by decide) (by decide) (by decide) (by decide) (by decide))
 ·exact ⟨_, rfl⟩
 apply Yb rfl rfl
 ·intro dn r0 K hd hdep hK w5 hB1
  skip
  skip
  have HB := Yh_ hB1
  clear hB1 hdep
  go_wp2_with fail
  first
  |exact hK _ (HB.out.same _ (by decide) (by decide) (by decide) (by decide) (by decide))
  |exact (HB.out.same _ (by decide) (by decide) (by decide) (by decide) (by decide))
 ·exact ⟨_, rfl⟩
 apply Yb rfl rfl
 ·intro dn r0 K hd hdep hK w5 hB1
  skip
  skip
  have HB := Yh_ hB1
  clear hB1 hdep
  go_wp2_with fail
  first
  |exact hK _ (HB.out.same _ (by decide) (by decide) (by decide) (by decide) (by decide))
  |exact (HB.out.same _ (by decide) (by decide) (by decide) (by decide) (by decide))
 ·exact ⟨_, rfl⟩
 apply Yb rfl rfl
 ·intro dn r0 K hd hdep hK w5 hB1
  skip
  skip
  have HB := Yh_ hB1
  clear hB1 hdep
  go_wp2_with fail
  first
  |exact hK _ (HB.out.same _ (by decide) (by decide) (by decide) (by decide) (by decide))
  |exact (HB.out.same _ (by decide) (by decide) (by decide) (by decide) (by decide))
 ·exact ⟨_, rfl⟩
 refine Yr rfl (fun _ => rfl) 27 rfl (by simp [Act.put]) ?_ ?_
 ·intro dn r0 K hd w5 hB1 hK
  have HB := Yh_ hB1
  clear hB1
  simp only [Yi]
  go_wp2_with fail
  first
  |exact hK (.pointer (some ⟨w5.heap.size, 0, none⟩)) _ (HB.out.layS hd (by decide) (by decide) (by decide) (by decide))
  |exact HB.out.layS hd (by decide) (by decide) (by decide) (by decide)
 refine Yr rfl (fun _ => rfl) 28 rfl (by simp [Act.put]) ?_ ?_
 ·intro dn r0 K hd w5 hB1 hK
  have HB := Yh_ hB1
  clear hB1
  simp only [Yi]
  go_wp2_with fail
  first
  |exact hK (.pointer (some ⟨w5.heap.size, 0, none⟩)) _ (HB.out.layF hd (by decide) (by decide) (by decide) (by decide))
  |exact HB.out.layF hd (by decide) (by decide) (by decide) (by decide)
 apply Yt rfl (fun _ => rfl)
 ·intro dn r0 K hd hdep hK w5 hB1
  have h8 : dn 12 = true := hdep ⟨12, .data⟩ (by simp) rfl
  obtain ⟨g0, e1, e2, e3⟩ := hB1.x h8
  refine Yas (mvZ s k v) g0 _ _ rfl (by show r0 12 = _; exact e1) rfl e3 (by cases dn 14 <;> rfl) ?_
  intro w6 hw; rw [← hw]
  exact hK _ (hB1.putS h8 e1 (by decide) (by decide) (by decide) (by decide))
 ·exact ⟨undef, fun _ => rfl, Eq.symm (by go_simp; exact rfl)⟩
 apply Yt rfl (fun _ => rfl)
 ·intro dn r0 K hd hdep hK w5 hB1
  have h8 : dn 13 = true := hdep ⟨13, .data⟩ (by simp) rfl
  obtain ⟨g0, e1, e2, e3⟩ := hB1.y h8
  refine Yav Flt.zero (cond (dn 15) Flt.zero Flt.zero) g0 _ _ rfl (by show r0 13 = _; exact e1) rfl (by rw [e3]; cases dn 15 <;> rfl) ?_
  skip
  exact hK _ (hB1.putF h8 e1 (by decide) (by decide) (by decide) (by decide))
 ·exact ⟨undef, fun _ => rfl, Eq.symm (by go_simp; exact rfl)⟩
 apply Yt rfl (fun _ => rfl)
 ·intro dn r0 K hd hdep hK w5 hB1
  skip
  skip
  have HB := Yh_ hB1
  clear hB1 hdep
  simp only [Yi]
  go_wp2_with fail
  first
  |exact hK _ (HB.out.same _ (by decide) (by decide) (by decide) (by decide) (by decide))
  |exact (HB.out.same _ (by decide) (by decide) (by decide) (by decide) (by decide))
 ·exact ⟨_, fun _ => rfl, Eq.symm (by go_simp; exact rfl)⟩
 refine Yad (fun _ r0 w35 dn hall hB2 => ?_)
 obtain ⟨ga5, gb5, e1, e2, hK⟩ := hB2.fin (hall 7 (by decide)) (hall 12 (by decide)) (hall 13 (by decide)) (hall 14 (by decide)) (hall 15 (by decide))
 have Q6 := Yh_ hK
 show wpList _ _ _ _ (Act.put (Act.put (Yi _ _ [] _) (some 27) (r0 12)) (some 28) (r0 13)) _
 rw [e1, e2]
 simp only [Yi]
 clear e1 e2 hK hall hB2 Q5
 have du : w35.cell? ⟨ga1, k, none⟩ = some (.int .u32 v) := ((Ya (Q6.out.get 9 rfl) k).trans (St.cR _ k HS.out.2.2.1)).trans (by rw [show (mvU s k v).R k = v from Ydp _ _ _])
 have dw : w35.cell? ⟨ga2, j, none⟩ = some (.int .u32 (v / 256 % 256)) := ((Ya (Q6.out.get 7 rfl) j).trans (St.cR _ j HS.out.2.2.2)).trans (by rw [Ydp, show Ybi 36 (v / 256 % 256) = v / 256 % 256 from rfl])
 have dx : w35.cell? ⟨ga3, j, none⟩ = some (.int .u32 (Ydr (v / 256 % 256))) := ((Ya (Q6.out.get 5 rfl) j).trans (St.cR _ j HS.out.2.2.2)).trans (by rw [Ydp, show Ybi 37 (v / 256 % 256) = Ydr (v / 256 % 256) from rfl])
 have dy : w35.cell? ⟨ga4, j, none⟩ = some (.int .u32 v) := ((Ya (Q6.out.get 3 rfl) j).trans (St.cR _ j HS.out.2.2.2)).trans (by rw [show (mvY s k j v).R j = v from Ydp _ _ _])
 have dz : w35.cell? ⟨ga5, k, none⟩ = some (.int .u32 v) := ((Ya (Q6.out.get 1 rfl) k).trans (St.cR _ k HS.out.2.2.1)).trans (by rw [show (mvZ s k v).R k = v from Ydp _ _ _])
 have dfy0 : w35.cell? ⟨ga4, 9, none⟩ = some (.bool s.cf) := Ya (Q6.out.get 3 rfl) 9
 have dfx0 : w35.cell? ⟨ga3, 9, none⟩ = some (.bool s.cf) := Ya (Q6.out.get 5 rfl) 9
 have dfs0 : w35.cell? ⟨w.heap.size, 9, none⟩ = some (.bool s.cf) := Ya (Q6.out.get 12 rfl) 9
 have dfy1 : w35.cell? ⟨ga4, 10, none⟩ = some (.bool s.pf) := Ya (Q6.out.get 3 rfl) 10
 have dfx1 : w35.cell? ⟨ga3, 10, none⟩ = some (.bool s.pf) := Ya (Q6.out.get 5 rfl) 10
 have dfs1 : w35.cell? ⟨w.heap.size, 10, none⟩ = some (.bool s.pf) := Ya (Q6.out.get 12 rfl) 10
 have dfy2 : w35.cell? ⟨ga4, 11, none⟩ = some (.bool s.af) := Ya (Q6.out.get 3 rfl) 11
 have dfx2 : w35.cell? ⟨ga3, 11, none⟩ = some (.bool s.af) := Ya (Q6.out.get 5 rfl) 11
 have dfs2 : w35.cell? ⟨w.heap.size, 11, none⟩ = some (.bool s.af) := Ya (Q6.out.get 12 rfl) 11
 have dfy3 : w35.cell? ⟨ga4, 12, none⟩ = some (.bool s.zf) := Ya (Q6.out.get 3 rfl) 12
 have dfx3 : w35.cell? ⟨ga3, 12, none⟩ = some (.bool s.zf) := Ya (Q6.out.get 5 rfl) 12
 have dfs3 : w35.cell? ⟨w.heap.size, 12, none⟩ = some (.bool s.zf) := Ya (Q6.out.get 12 rfl) 12
 have dfy4 : w35.cell? ⟨ga4, 13, none⟩ = some (.bool s.sf) := Ya (Q6.out.get 3 rfl) 13
 have dfx4 : w35.cell? ⟨ga3, 13, none⟩ = some (.bool s.sf) := Ya (Q6.out.get 5 rfl) 13
 have dfs4 : w35.cell? ⟨w.heap.size, 13, none⟩ = some (.bool s.sf) := Ya (Q6.out.get 12 rfl) 13
 have dfy5 : w35.cell? ⟨ga4, 14, none⟩ = some (.bool s.of_) := Ya (Q6.out.get 3 rfl) 14
 have dfx5 : w35.cell? ⟨ga3, 14, none⟩ = some (.bool s.of_) := Ya (Q6.out.get 5 rfl) 14
 have dfs5 : w35.cell? ⟨w.heap.size, 14, none⟩ = some (.bool s.of_) := Ya (Q6.out.get 12 rfl) 14
 have dp : w35.cell? ⟨ga0, 8, none⟩ = some (.int .u32 ((s.pc + 10) % 4294967296)) := Ya (Q6.out.get 11 rfl) 8
 have dq : w35.cell? ⟨w.heap.size, 8, none⟩ = some (.int .u32 s.pc) := Ya (Q6.out.get 12 rfl) 8
 go_wp2_with fail
 refine Yan 101 (fun w1 => ∃ n, w1 = w35.drewN n) (fun _ _ => False) (by kernel_rfl) (by decide +kernel) ⟨1, rfl⟩ (fun _ _ _ h => h.elim) ?_
 simp only [List.take_succ_cons, List.take_zero, List.drop_succ_cons, List.drop_zero]
 iterate 101
  first
  |refine Yh1 rfl rfl rfl ?_
  |(apply Yu rfl rfl
    ·intro K hK w5 hB1
     obtain ⟨n, rfl⟩ := hB1
     go_wp2_with fail
     first | exact hK _ ⟨n, rfl⟩ | exact ⟨n, rfl⟩
    ·exact ⟨_, rfl⟩)
 refine Yaf (fun _ w6 hB1 => ?_)
 obtain ⟨n, rfl⟩ := hB1
 go_wp2_with fail
 go_ret
 exact ⟨rfl, Q6.out.u.drewN _⟩
theorem mv_other (s : St) (v a0 b0 : Int) (w : World) (k j : Nat) (hs : s.Ok) (hv : 0 ≤ v ∧ v < 4294967296) (ha : 0 ≤ a0) (hb : 0 ≤ b0) (hk : a0 % 8 = k) (hj : b0 % 8 = j) (hkj : k ≠ j) :
  Calls Tryz.prog 6 #[.agg s.cells, .int .u32 v, .int .u8 a0, .int .u8 b0] w fun e w' => e = .returned (.bool true) ∧ Upd [] w w' := by
 have hkk : k < 8 := by omega
 have hjj : j < 8 := by omega
 have HS := Yh_ (And.intro hs (And.intro hv (And.intro hkk hjj)))
 obtain ⟨x, hx⟩ : ∃ x : Int, x = (k : Int) := ⟨_, rfl⟩
 obtain ⟨y, hy⟩ : ∃ y : Int, y = (j : Int) := ⟨_, rfl⟩
 have HX := Yh_ (And.intro hx hy)
 have HN := Yh_ hkj
 rw [← hx] at hk
 rw [← hy] at hj
 have e3 : a0.tmod 8 = x := by rw [Int.tmod_eq_emod_of_nonneg ha]; exact hk
 have e4 : b0.tmod 8 = y := by rw [Int.tmod_eq_emod_of_nonneg hb]; exact hj
 have e6 : wrap64 x = x := by unfold wrap64; omega
 have e7 : wrap64 y = y := by unfold wrap64; omega
 have e8 : (x == y) = false := by simp; omega
 have e10 : x.toNat = k := by omega
 have e11 : y.toNat = j := by omega
 have b1 : 0 ≤ x ∧ x < 8 := by omega
 have b2 : 0 ≤ y ∧ y < 8 := by omega
 have m1 : bits .and .u32 (v / 256) 255 = v / 256 % 256 := Yho _ (by omega) (by omega)
 have hEF := Yhv s.cf s.pf s.af s.zf s.sf s.of_
 have m5 := Yk1 (v / 256)
 clear hs hv ha hb hkk hjj hx hy hkj hk hj
 have tok : True := trivial
 go_enter Tryz.func6, Tryz.ntmps6
 go_wp2_with (first | (have _t := tok; clear _t; go_at_call 12; refine (Yhu _).mono ?_; rintro e w0 ⟨rfl, hu0⟩; clear tok) | (have _t := hu0; clear _t; go_at_call 13; refine (Yjc _).mono ?_; rintro e w1 ⟨p, pb, rfl, ha, hp, hM1, hu1⟩; have K0 := Yh_ (show Kn w p pb Mem.zero [(w.heap.size, .cells (St.cells s) 28 (0, 0))] w1 from Kn.start1 hu0 ha hp hM1 hu1); clear hu0 hu1 ha hp hM1) | (have _t := K0; clear _t; go_at_call 14; refine (Yje Mem.zero p pb 0 1 3 _ K0.out.m (by decide)).mono ?_; rintro e w11 ⟨rfl, hm, hu⟩; rw [show Mem.zero.mapB 0 1 3 = true from mv_map, Ygy]; have K1 := Yh_ (show Kn w p pb Yds [(w.heap.size, .cells (St.cells s) 28 (0, 0))] w11 from K0.out.step hm hu); clear hm hu K0 ))
 have Q0 := Yh_ (Kq.of K1.out)
 clear K1 
 try simp only [e6, e7]
 refine Yai 16 (Kd w p pb Yds (mvM v) [(w.heap.size, .cells (St.cells s) 28 (0, 0))] _ (mvT s) Flt.zero 6 11 12 13 14) (fun _ _ => False) (by kernel_rfl) (by decide +kernel) (fun r0 => Kd.start Q0.out (mvM v) (mvT s) Flt.zero 6 11 12 13 14 r0) (fun _ _ _ h => h.elim) ?_
 simp only [List.take_succ_cons, List.take_zero, List.drop_succ_cons, List.drop_zero]
 apply Yb rfl rfl
 ·intro dn r0 K hd hdep hK w5 hB1
  skip
  skip
  have HB := Yh_ hB1
  clear hB1 hdep
  go_wp2_with fail
  first
  |exact hK _ (HB.out.same _ (by decide) (by decide) (by decide) (by decide) (by decide))
  |exact (HB.out.same _ (by decide) (by decide) (by decide) (by decide) (by decide))
 ·exact ⟨_, rfl⟩
 apply Yb rfl rfl
 ·intro dn r0 K hd hdep hK w5 hB1
  refine Yax s _ _ rfl rfl (hB1.k.get 0 rfl) ?_
  exact hK _ (hB1.same _ (by decide) (by decide) (by decide) (by decide) (by decide))
 ·exact ⟨_, rfl⟩
 apply Yb rfl rfl
 ·intro dn r0 K hd hdep hK w5 hB1
  skip
  skip
  have HB := Yh_ hB1
  clear hB1 hdep
  go_wp2_with (go_at_call 17; refine (Ydb _ _).mono ?_; rintro e w6 ⟨rfl, hu⟩)
  first
  |exact hK _ (HB.out.quiet hu _ (by decide) (by decide) (by decide) (by decide) (by decide))
  |exact (HB.out.quiet hu _ (by decide) (by decide) (by decide) (by decide) (by decide))
 ·exact ⟨_, rfl⟩
 apply Yb rfl rfl
 ·intro dn r0 K hd hdep hK w5 hB1
  skip
  skip
  have HB := Yh_ hB1
  clear hB1 hdep
  go_wp2_with fail
  first
  |exact hK _ (HB.out.same _ (by decide) (by decide) (by decide) (by decide) (by decide))
  |exact (HB.out.same _ (by decide) (by decide) (by decide) (by decide) (by decide))
 ·exact ⟨_, rfl⟩
 apply Yb rfl rfl
 ·intro dn r0 K hd hdep hK w5 hB1
  skip
  skip
  have HB := Yh_ hB1
  clear hB1 hdep
  go_wp2_with (go_at_call 18; refine (Ykb _ _).mono ?_; rintro e w6 ⟨rfl, hu⟩)
  first
  |exact hK _ (HB.out.quiet hu _ (by decide) (by decide) (by decide) (by decide) (by decide))
  |exact (HB.out.quiet hu _ (by decide) (by decide) (by decide) (by decide) (by decide))
 ·exact ⟨_, rfl⟩
 apply Yb rfl rfl
 ·intro dn r0 K hd hdep hK w5 hB1
  skip
  skip
  have HB := Yh_ hB1
  clear hB1 hdep
  go_wp2_with fail
  first
  |exact hK _ (HB.out.same _ (by decide) (by decide) (by decide) (by decide) (by decide))
  |exact (HB.out.same _ (by decide) (by decide) (by decide) (by decide) (by decide))
 ·exact ⟨_, rfl⟩
 apply Yb rfl rfl
 ·intro dn r0 K hd hdep hK w5 hB1
  have HD := Yh_ hd
  skip
  have HB := Yh_ hB1
  clear hB1 hdep
  go_wp2_with (go_at_call 15; have hm0 := HB.out.k.m; rw [HD.out] at hm0; refine (mv_t hm0 HS.out.1 HS.out.2.1).mono ?_; rintro e w6 ⟨rfl, hm6, hu6⟩; unfold Flt.val Flt.zero)
  first
  |exact hK _ (HB.out.call hm6 hu6 (by decide) (by decide) (by decide) (by decide))
  |exact (HB.out.call hm6 hu6 (by decide) (by decide) (by decide) (by decide))
 ·exact ⟨_, rfl⟩
 apply Yb rfl rfl
 ·intro dn r0 K hd hdep hK w5 hB1
  skip
  skip
  have HB := Yh_ hB1
  clear hB1 hdep
  go_wp2_with fail
  first
  |exact hK _ (HB.out.same _ (by decide) (by decide) (by decide) (by decide) (by decide))
  |exact (HB.out.same _ (by decide) (by decide) (by decide) (by decide) (by decide))
 ·exact ⟨_, rfl⟩
 apply Yb rfl rfl
 ·intro dn r0 K hd hdep hK w5 hB1
  skip
  skip
  have HB := Yh_ hB1
  clear hB1 hdep
  go_wp2_with fail
  first
  |exact hK _ (HB.out.same _ (by decide) (by decide) (by decide) (by decide) (by decide))
  |exact (HB.out.same _ (by decide) (by decide) (by decide) (by decide) (by decide))
 ·exact ⟨_, rfl⟩
 apply Yb rfl rfl
 ·intro dn r0 K hd hdep hK w5 hB1
  skip
  skip
  have HB := Yh_ hB1
  clear hB1 hdep
  go_wp2_with fail
  first
  |exact hK _ (HB.out.same _ (by decide) (by decide) (by decide) (by decide) (by decide))
  |exact (HB.out.same _ (by decide) (by decide) (by decide) (by decide) (by decide))
 ·exact ⟨_, rfl⟩
 apply Yb rfl rfl
 ·intro dn r0 K hd hdep hK w5 hB1
  skip
  skip
  have HB := Yh_ hB1
  clear hB1 hdep
  go_wp2_with fail
  first
  |exact hK _ (HB.out.same _ (by decide) (by decide) (by decide) (by decide) (by decide))
  |exact (HB.out.same _ (by decide) (by decide) (by decide) (by decide) (by decide))
 ·exact ⟨_, rfl⟩
 refine Yr rfl (fun _ => rfl) 12 rfl (by simp [Act.put]) ?_ ?_
 ·intro dn r0 K hd w5 hB1 hK
  have HB := Yh_ hB1
  clear hB1
  simp only [Yi]
  go_wp2_with fail
  first
  |exact hK (.pointer (some ⟨w5.heap.size, 0, none⟩)) _ (HB.out.layS hd (by decide) (by decide) (by decide) (by decide))
  |exact HB.out.layS hd (by decide) (by decide) (by decide) (by decide)
 refine Yr rfl (fun _ => rfl) 13 rfl (by simp [Act.put]) ?_ ?_
 ·intro dn r0 K hd w5 hB1 hK
  have HB := Yh_ hB1
  clear hB1
  simp only [Yi]
  go_wp2_with fail
  first
  |exact hK (.pointer (some ⟨w5.heap.size, 0, none⟩)) _ (HB.out.layF hd (by decide) (by decide) (by decide) (by decide))
  |exact HB.out.layF hd (by decide) (by decide) (by decide) (by decide)
 apply Yt rfl (fun _ => rfl)
 ·intro dn r0 K hd hdep hK w5 hB1
  have h8 : dn 11 = true := hdep ⟨11, .data⟩ (by simp) rfl
  obtain ⟨g0, e1, e2, e3⟩ := hB1.x h8
  refine Yas (mvT s) g0 _ _ rfl (by show r0 11 = _; exact e1) rfl e3 (by cases dn 13 <;> rfl) ?_
  intro w6 hw; rw [← hw]
  exact hK _ (hB1.putS h8 e1 (by decide) (by decide) (by decide) (by decide))
 ·exact ⟨undef, fun _ => rfl, Eq.symm (by go_simp; exact rfl)⟩
 apply Yt rfl (fun _ => rfl)
 ·intro dn r0 K hd hdep hK w5 hB1
  have h8 : dn 12 = true := hdep ⟨12, .data⟩ (by simp) rfl
  obtain ⟨g0, e1, e2, e3⟩ := hB1.y h8
  refine Yav Flt.zero (cond (dn 14) Flt.zero Flt.zero) g0 _ _ rfl (by show r0 12 = _; exact e1) rfl (by rw [e3]; cases dn 14 <;> rfl) ?_
  skip
  exact hK _ (hB1.putF h8 e1 (by decide) (by decide) (by decide) (by decide))
 ·exact ⟨undef, fun _ => rfl, Eq.symm (by go_simp; exact rfl)⟩
 apply Yt rfl (fun _ => rfl)
 ·intro dn r0 K hd hdep hK w5 hB1
  skip
  skip
  have HB := Yh_ hB1
  clear hB1 hdep
  simp only [Yi]
  go_wp2_with fail
  first
  |exact hK _ (HB.out.same _ (by decide) (by decide) (by decide) (by decide) (by decide))
  |exact (HB.out.same _ (by decide) (by decide) (by decide) (by decide) (by decide))
 ·exact ⟨_, fun _ => rfl, Eq.symm (by go_simp; exact rfl)⟩
 refine Yad (fun _ r0 w30 dn hall hB2 => ?_)
 obtain ⟨ga0, gb0, e1, e2, hK⟩ := hB2.fin (hall 6 (by decide)) (hall 11 (by decide)) (hall 12 (by decide)) (hall 13 (by decide)) (hall 14 (by decide))
 have Q1 := Yh_ hK
 show wpList _ _ _ _ (Act.put (Act.put (Yi _ _ [] _) (some 12) (r0 11)) (some 13) (r0 12)) _
 rw [e1, e2]
 simp only [Yi]
 clear e1 e2 hK hall hB2 Q0
 go_wp2_with fail
 refine Yai 16 (Kd w p pb (mvM v) (mvM v) [(gb0, .cells (Yo Flt.zero) 35 (0, 0)), (ga0, .cells (St.cells (mvT s)) 28 (0, 0)), (w.heap.size, .cells (St.cells s) 28 (0, 0))] _ (mvU s k v) Flt.zero 6 11 12 13 14) (fun _ _ => False) (by kernel_rfl) (by decide +kernel) (fun r0 => Kd.start Q1.out (mvM v) (mvU s k v) Flt.zero 6 11 12 13 14 r0) (fun _ _ _ h => h.elim) ?_
 simp only [List.take_succ_cons, List.take_zero, List.drop_succ_cons, List.drop_zero]
 apply Yb rfl rfl
 ·intro dn r0 K hd hdep hK w5 hB1
  skip
  skip
  have HB := Yh_ hB1
  clear hB1 hdep
  go_wp2_with fail
  first
  |exact hK _ (HB.out.same _ (by decide) (by decide) (by decide) (by decide) (by decide))
  |exact (HB.out.same _ (by decide) (by decide) (by decide) (by decide) (by decide))
 ·exact ⟨_, rfl⟩
 apply Yb rfl rfl
 ·intro dn r0 K hd hdep hK w5 hB1
  refine Yax (mvT s) _ _ rfl rfl (hB1.k.get 1 rfl) ?_
  exact hK _ (hB1.same _ (by decide) (by decide) (by decide) (by decide) (by decide))
 ·exact ⟨_, rfl⟩
 apply Yb rfl rfl
 ·intro dn r0 K hd hdep hK w5 hB1
  skip
  skip
  have HB := Yh_ hB1
  clear hB1 hdep
  go_wp2_with fail
  first
  |exact hK _ (HB.out.same _ (by decide) (by decide) (by decide) (by decide) (by decide))
  |exact (HB.out.same _ (by decide) (by decide) (by decide) (by decide) (by decide))
 ·exact ⟨_, rfl⟩
 apply Yb rfl rfl
 ·intro dn r0 K hd hdep hK w5 hB1
  skip
  skip
  have HB := Yh_ hB1
  clear hB1 hdep
  go_wp2_with (go_at_call 19; refine (Ycj _ _).mono ?_; rintro e w6 ⟨rfl, hu⟩)
  first
  |exact hK _ (HB.out.quiet hu _ (by decide) (by decide) (by decide) (by decide) (by decide))
  |exact (HB.out.quiet hu _ (by decide) (by decide) (by decide) (by decide) (by decide))
 ·exact ⟨_, rfl⟩
 apply Yb rfl rfl
 ·intro dn r0 K hd hdep hK w5 hB1
  skip
  skip
  have HB := Yh_ hB1
  clear hB1 hdep
  go_wp2_with (go_at_call 17; refine (Ydb _ _).mono ?_; rintro e w6 ⟨rfl, hu⟩)
  first
  |exact hK _ (HB.out.quiet hu _ (by decide) (by decide) (by decide) (by decide) (by decide))
  |exact (HB.out.quiet hu _ (by decide) (by decide) (by decide) (by decide) (by decide))
 ·exact ⟨_, rfl⟩
 apply Yb rfl rfl
 ·intro dn r0 K hd hdep hK w5 hB1
  skip
  skip
  have HB := Yh_ hB1
  clear hB1 hdep
  go_wp2_with fail
  first
  |exact hK _ (HB.out.same _ (by decide) (by decide) (by decide) (by decide) (by decide))
  |exact (HB.out.same _ (by decide) (by decide) (by decide) (by decide) (by decide))
 ·exact ⟨_, rfl⟩
 apply Yb rfl rfl
 ·intro dn r0 K hd hdep hK w5 hB1
  have HD := Yh_ hd
  skip
  have HB := Yh_ hB1
  clear hB1 hdep
  go_wp2_with (go_at_call 15; have hm0 := HB.out.k.m; rw [HD.out] at hm0; refine (mv_u hm0 HS.out.1 HS.out.2.1 HS.out.2.2.1 HX.out.1).mono ?_; rintro e w6 ⟨rfl, hm6, hu6⟩; unfold Flt.val Flt.zero)
  first
  |exact hK _ (HB.out.call hm6 hu6 (by decide) (by decide) (by decide) (by decide))
  |exact (HB.out.call hm6 hu6 (by decide) (by decide) (by decide) (by decide))
 ·exact ⟨_, rfl⟩
 apply Yb rfl rfl
 ·intro dn r0 K hd hdep hK w5 hB1
  skip
  skip
  have HB := Yh_ hB1
  clear hB1 hdep
  go_wp2_with fail
  first
  |exact hK _ (HB.out.same _ (by decide) (by decide) (by decide) (by decide) (by decide))
  |exact (HB.out.same _ (by decide) (by decide) (by decide) (by decide) (by decide))
 ·exact ⟨_, rfl⟩
 apply Yb rfl rfl
 ·intro dn r0 K hd hdep hK w5 hB1
  skip
  skip
  have HB := Yh_ hB1
  clear hB1 hdep
  go_wp2_with fail
  first
  |exact hK _ (HB.out.same _ (by decide) (by decide) (by decide) (by decide) (by decide))
  |exact (HB.out.same _ (by decide) (by decide) (by decide) (by decide) (by decide))
 ·exact ⟨_, rfl⟩
 apply Yb rfl rfl
 ·intro dn r0 K hd hdep hK w5 hB1
  skip
  skip
  have HB := Yh_ hB1
  clear hB1 hdep
  go_wp2_with fail
  first
  |exact hK _ (HB.out.same _ (by decide) (by decide) (by decide) (by decide) (by decide))
  |exact (HB.out.same _ (by decide) (by decide) (by decide) (by decide) (by decide))
 ·exact ⟨_, rfl⟩
 apply Yb rfl rfl
 ·intro dn r0 K hd hdep hK w5 hB1
  skip
  skip
  have HB := Yh_ hB1
  clear hB1 hdep
  go_wp2_with fail
  first
  |exact hK _ (HB.out.same _ (by decide) (by decide) (by decide) (by decide) (by decide))
  |exact (HB.out.same _ (by decide) (by decide) (by decide) (by decide) (by decide))
 ·exact ⟨_, rfl⟩
 refine Yr rfl (fun _ => rfl) 15 rfl (by simp [Act.put]) ?_ ?_
 ·intro dn r0 K hd w5 hB1 hK
  have HB := Yh_ hB1
  clear hB1
  simp only [Yi]
  go_wp2_with fail
  first
  |exact hK (.pointer (some ⟨w5.heap.size, 0, none⟩)) _ (HB.out.layS hd (by decide) (by decide) (by decide) (by decide))
  |exact HB.out.layS hd (by decide) (by decide) (by decide) (by decide)
 refine Yr rfl (fun _ => rfl) 16 rfl (by simp [Act.put]) ?_ ?_
 ·intro dn r0 K hd w5 hB1 hK
  have HB := Yh_ hB1
  clear hB1
  simp only [Yi]
  go_wp2_with fail
  first
  |exact hK (.pointer (some ⟨w5.heap.size, 0, none⟩)) _ (HB.out.layF hd (by decide) (by decide) (by decide) (by decide))
  |exact HB.out.layF hd (by decide) (by decide) (by decide) (by decide)
 apply Yt rfl (fun _ => rfl)
 ·intro dn r0 K hd hdep hK w5 hB1
  have h8 : dn 11 = true := hdep ⟨11, .data⟩ (by simp) rfl
  obtain ⟨g0, e1, e2, e3⟩ := hB1.x h8
  refine Yas (mvU s k v) g0 _ _ rfl (by show r0 11 = _; exact e1) rfl e3 (by cases dn 13 <;> rfl) ?_
  intro w6 hw; rw [← hw]
  exact hK _ (hB1.putS h8 e1 (by decide) (by decide) (by decide) (by decide))
 ·exact ⟨undef, fun _ => rfl, Eq.symm (by go_simp; exact rfl)⟩
 apply Yt rfl (fun _ => rfl)
 ·intro dn r0 K hd hdep hK w5 hB1
  have h8 : dn 12 = true := hdep ⟨12, .data⟩ (by simp) rfl
  obtain ⟨g0, e1, e2, e3⟩ := hB1.y h8
  refine Yav Flt.zero (cond (dn 14) Flt.zero Flt.zero) g0 _ _ rfl (by show r0 12 = _; exact e1) rfl (by rw [e3]; cases dn 14 <;> rfl) ?_
  skip
  exact hK _ (hB1.putF h8 e1 (by decide) (by decide) (by decide) (by decide))
 ·exact ⟨undef, fun _ => rfl, Eq.symm (by go_simp; exact rfl)⟩
 apply Yt rfl (fun _ => rfl)
 ·intro dn r0 K hd hdep hK w5 hB1
  skip
  skip
  have HB := Yh_ hB1
  clear hB1 hdep
  simp only [Yi]
  go_wp2_with fail
  first
  |exact hK _ (HB.out.same _ (by decide) (by decide) (by decide) (by decide) (by decide))
  |exact (HB.out.same _ (by decide) (by decide) (by decide) (by decide) (by decide))
 ·exact ⟨_, fun _ => rfl, Eq.symm (by go_simp; exact rfl)⟩
 refine Yad (fun _ r0 w31 dn hall hB2 => ?_)
 obtain ⟨ga1, gb1, e1, e2, hK⟩ := hB2.fin (hall 6 (by decide)) (hall 11 (by decide)) (hall 12 (by decide)) (hall 13 (by decide)) (hall 14 (by decide))
 have Q2 := Yh_ hK
 show wpList _ _ _ _ (Act.put (Act.put (Yi _ _ [] _) (some 15) (r0 11)) (some 16) (r0 12)) _
 rw [e1, e2]
 simp only [Yi]
 clear e1 e2 hK hall hB2 Q1
 go_wp2_with fail
 refine Yai 16 (Kd w p pb (mvM v) (mvM v) [(gb1, .cells (Yo Flt.zero) 35 (0, 0)), (ga1, .cells (St.cells (mvU s k v)) 28 (0, 0)), (gb0, .cells (Yo Flt.zero) 35 (0, 0)), (ga0, .cells (St.cells (mvT s)) 28 (0, 0)), (w.heap.size, .cells (St.cells s) 28 (0, 0))] _ (((mvT s).goOn 7).setR j (Ybi 36 (v / 256 % 256))) Flt.zero 6 11 12 13 14) (fun _ _ => False) (by kernel_rfl) (by decide +kernel) (fun r0 => Kd.start Q2.out (mvM v) (((mvT s).goOn 7).setR j (Ybi 36 (v / 256 % 256))) Flt.zero 6 11 12 13 14 r0) (fun _ _ _ h => h.elim) ?_
 simp only [List.take_succ_cons, List.take_zero, List.drop_succ_cons, List.drop_zero]
 apply Yb rfl rfl
 ·intro dn r0 K hd hdep hK w5 hB1
  skip
  skip
  have HB := Yh_ hB1
  clear hB1 hdep
  go_wp2_with fail
  first
  |exact hK _ (HB.out.same _ (by decide) (by decide) (by decide) (by decide) (by decide))
  |exact (HB.out.same _ (by decide) (by decide) (by decide) (by decide) (by decide))
 ·exact ⟨_, rfl⟩
 apply Yb rfl rfl
 ·intro dn r0 K hd hdep hK w5 hB1
  refine Yax (mvT s) _ _ rfl rfl (hB1.k.get 3 rfl) ?_
  exact hK _ (hB1.same _ (by decide) (by decide) (by decide) (by decide) (by decide))
 ·exact ⟨_, rfl⟩
 apply Yb rfl rfl
 ·intro dn r0 K hd hdep hK w5 hB1
  skip
  skip
  have HB := Yh_ hB1
  clear hB1 hdep
  go_wp2_with fail
  first
  |exact hK _ (HB.out.same _ (by decide) (by decide) (by decide) (by decide) (by decide))
  |exact (HB.out.same _ (by decide) (by decide) (by decide) (by decide) (by decide))
 ·exact ⟨_, rfl⟩
 apply Yb rfl rfl
 ·intro dn r0 K hd hdep hK w5 hB1
  skip
  skip
  have HB := Yh_ hB1
  clear hB1 hdep
  go_wp2_with (go_at_call 19; refine (Ycj _ _).mono ?_; rintro e w6 ⟨rfl, hu⟩)
  first
  |exact hK _ (HB.out.quiet hu _ (by decide) (by decide) (by decide) (by decide) (by decide))
  |exact (HB.out.quiet hu _ (by decide) (by decide) (by decide) (by decide) (by decide))
 ·exact ⟨_, rfl⟩
 apply Yb rfl rfl
 ·intro dn r0 K hd hdep hK w5 hB1
  skip
  skip
  have HB := Yh_ hB1
  clear hB1 hdep
  go_wp2_with (go_at_call 17; refine (Ydb _ _).mono ?_; rintro e w6 ⟨rfl, hu⟩)
  first
  |exact hK _ (HB.out.quiet hu _ (by decide) (by decide) (by decide) (by decide) (by decide))
  |exact (HB.out.quiet hu _ (by decide) (by decide) (by decide) (by decide) (by decide))
 ·exact ⟨_, rfl⟩
 apply Yb rfl rfl
 ·intro dn r0 K hd hdep hK w5 hB1
  skip
  skip
  have HB := Yh_ hB1
  clear hB1 hdep
  go_wp2_with fail
  first
  |exact hK _ (HB.out.same _ (by decide) (by decide) (by decide) (by decide) (by decide))
  |exact (HB.out.same _ (by decide) (by decide) (by decide) (by decide) (by decide))
 ·exact ⟨_, rfl⟩
 apply Yb rfl rfl
 ·intro dn r0 K hd hdep hK w5 hB1
  have HD := Yh_ hd
  skip
  have HB := Yh_ hB1
  clear hB1 hdep
  go_wp2_with (go_at_call 15; have hm0 := HB.out.k.m; rw [HD.out] at hm0; refine (mv_wx 36 (.inl rfl) hm0 HS.out.1 HS.out.2.1 HS.out.2.2.2 HX.out.2).mono ?_; rintro e w6 ⟨rfl, hm6, hu6⟩; unfold Flt.val Flt.zero)
  first
  |exact hK _ (HB.out.call hm6 hu6 (by decide) (by decide) (by decide) (by decide))
  |exact (HB.out.call hm6 hu6 (by decide) (by decide) (by decide) (by decide))
 ·exact ⟨_, rfl⟩
 apply Yb rfl rfl
 ·intro dn r0 K hd hdep hK w5 hB1
  skip
  skip
  have HB := Yh_ hB1
  clear hB1 hdep
  go_wp2_with fail
  first
  |exact hK _ (HB.out.same _ (by decide) (by decide) (by decide) (by decide) (by decide))
  |exact (HB.out.same _ (by decide) (by decide) (by decide) (by decide) (by decide))
 ·exact ⟨_, rfl⟩
 apply Yb rfl rfl
 ·intro dn r0 K hd hdep hK w5 hB1
  skip
  skip
  have HB := Yh_ hB1
  clear hB1 hdep
  go_wp2_with fail
  first
  |exact hK _ (HB.out.same _ (by decide) (by decide) (by decide) (by decide) (by decide))
  |exact (HB.out.same _ (by decide) (by decide) (by decide) (by decide) (by decide))
 ·exact ⟨_, rfl⟩
 apply Yb rfl rfl
 ·intro dn r0 K hd hdep hK w5 hB1
  skip
  skip
  have HB := Yh_ hB1
  clear hB1 hdep
  go_wp2_with fail
  first
  |exact hK _ (HB.out.same _ (by decide) (by decide) (by decide) (by decide) (by decide))
  |exact (HB.out.same _ (by decide) (by decide) (by decide) (by decide) (by decide))
 ·exact ⟨_, rfl⟩
 apply Yb rfl rfl
 ·intro dn r0 K hd hdep hK w5 hB1
  skip
  skip
  have HB := Yh_ hB1
  clear hB1 hdep
  go_wp2_with fail
  first
  |exact hK _ (HB.out.same _ (by decide) (by decide) (by decide) (by decide) (by decide))
  |exact (HB.out.same _ (by decide) (by decide) (by decide) (by decide) (by decide))
 ·exact ⟨_, rfl⟩
 refine Yr rfl (fun _ => rfl) 18 rfl (by simp [Act.put]) ?_ ?_
 ·intro dn r0 K hd w5 hB1 hK
  have HB := Yh_ hB1
  clear hB1
  simp only [Yi]
  go_wp2_with fail
  first
  |exact hK (.pointer (some ⟨w5.heap.size, 0, none⟩)) _ (HB.out.layS hd (by decide) (by decide) (by decide) (by decide))
  |exact HB.out.layS hd (by decide) (by decide) (by decide) (by decide)
 refine Yr rfl (fun _ => rfl) 19 rfl (by simp [Act.put]) ?_ ?_
 ·intro dn r0 K hd w5 hB1 hK
  have HB := Yh_ hB1
  clear hB1
  simp only [Yi]
  go_wp2_with fail
  first
  |exact hK (.pointer (some ⟨w5.heap.size, 0, none⟩)) _ (HB.out.layF hd (by decide) (by decide) (by decide) (by decide))
  |exact HB.out.layF hd (by decide) (by decide) (by decide) (by decide)
 apply Yt rfl (fun _ => rfl)
 ·intro dn r0 K hd hdep hK w5 hB1
  have h8 : dn 11 = true := hdep ⟨11, .data⟩ (by simp) rfl
  obtain ⟨g0, e1, e2, e3⟩ := hB1.x h8
  refine Yas (((mvT s).goOn 7).setR j (Ybi 36 (v / 256 % 256))) g0 _ _ rfl (by show r0 11 = _; exact e1) rfl e3 (by cases dn 13 <;> rfl) ?_
  intro w6 hw; rw [← hw]
  exact hK _ (hB1.putS h8 e1 (by decide) (by decide) (by decide) (by decide))
 ·exact ⟨undef, fun _ => rfl, Eq.symm (by go_simp; exact rfl)⟩
 apply Yt rfl (fun _ => rfl)
 ·intro dn r0 K hd hdep hK w5 hB1
  have h8 : dn 12 = true := hdep ⟨12, .data⟩ (by simp) rfl
  obtain ⟨g0, e1, e2, e3⟩ := hB1.y h8
  refine Yav Flt.zero (cond (dn 14) Flt.zero Flt.zero) g0 _ _ rfl (by show r0 12 = _; exact e1) rfl (by rw [e3]; cases dn 14 <;> rfl) ?_
  skip
  exact hK _ (hB1.putF h8 e1 (by decide) (by decide) (by decide) (by decide))
 ·exact ⟨undef, fun _ => rfl, Eq.symm (by go_simp; exact rfl)⟩
 apply Yt rfl (fun _ => rfl)
 ·intro dn r0 K hd hdep hK w5 hB1
  skip
  skip
  have HB := Yh_ hB1
  clear hB1 hdep
  simp only [Yi]
  go_wp2_with fail
  first
  |exact hK _ (HB.out.same _ (by decide) (by decide) (by decide) (by decide) (by decide))
  |exact (HB.out.same _ (by decide) (by decide) (by decide) (by decide) (by decide))
 ·exact ⟨_, fun _ => rfl, Eq.symm (by go_simp; exact rfl)⟩
 refine Yad (fun _ r0 w32 dn hall hB2 => ?_)
 obtain ⟨ga2, gb2, e1, e2, hK⟩ := hB2.fin (hall 6 (by decide)) (hall 11 (by decide)) (hall 12 (by decide)) (hall 13 (by decide)) (hall 14 (by decide))
 have Q3 := Yh_ hK
 show wpList _ _ _ _ (Act.put (Act.put (Yi _ _ [] _) (some 18) (r0 11)) (some 19) (r0 12)) _
 rw [e1, e2]
 simp only [Yi]
 clear e1 e2 hK hall hB2 Q2
 go_wp2_with fail
 refine Yai 16 (Kd w p pb (mvM v) (mvM v) [(gb2, .cells (Yo Flt.zero) 35 (0, 0)), (ga2, .cells (St.cells (((mvT s).goOn 7).setR j (Ybi 36 (v / 256 % 256)))) 28 (0, 0)), (gb1, .cells (Yo Flt.zero) 35 (0, 0)), (ga1, .cells (St.cells (mvU s k v)) 28 (0, 0)), (gb0, .cells (Yo Flt.zero) 35 (0, 0)), (ga0, .cells (St.cells (mvT s)) 28 (0, 0)), (w.heap.size, .cells (St.cells s) 28 (0, 0))] _ (((mvT s).goOn 7).setR j (Ybi 37 (v / 256 % 256))) Flt.zero 6 11 12 13 14) (fun _ _ => False) (by kernel_rfl) (by decide +kernel) (fun r0 => Kd.start Q3.out (mvM v) (((mvT s).goOn 7).setR j (Ybi 37 (v / 256 % 256))) Flt.zero 6 11 12 13 14 r0) (fun _ _ _ h => h.elim) ?_
 simp only [List.take_succ_cons, List.take_zero, List.drop_succ_cons, List.drop_zero]
 apply Yb rfl rfl
 ·intro dn r0 K hd hdep hK w5 hB1
  skip
  skip
  have HB := Yh_ hB1
  clear hB1 hdep
  go_wp2_with fail
  first
  |exact hK _ (HB.out.same _ (by decide) (by decide) (by decide) (by decide) (by decide))
  |exact (HB.out.same _ (by decide) (by decide) (by decide) (by decide) (by decide))
 ·exact ⟨_, rfl⟩
 apply Yb rfl rfl
 ·intro dn r0 K hd hdep hK w5 hB1
  refine Yax (mvT s) _ _ rfl rfl (hB1.k.get 5 rfl) ?_
  exact hK _ (hB1.same _ (by decide) (by decide) (by decide) (by decide) (by decide))
 ·exact ⟨_, rfl⟩
 apply Yb rfl rfl
 ·intro dn r0 K hd hdep hK w5 hB1
  skip
  skip
  have HB := Yh_ hB1
  clear hB1 hdep
  go_wp2_with fail
  first
  |exact hK _ (HB.out.same _ (by decide) (by decide) (by decide) (by decide) (by decide))
  |exact (HB.out.same _ (by decide) (by decide) (by decide) (by decide) (by decide))
 ·exact ⟨_, rfl⟩
 apply Yb rfl rfl
 ·intro dn r0 K hd hdep hK w5 hB1
  skip
  skip
  have HB := Yh_ hB1
  clear hB1 hdep
  go_wp2_with (go_at_call 19; refine (Ycj _ _).mono ?_; rintro e w6 ⟨rfl, hu⟩)
  first
  |exact hK _ (HB.out.quiet hu _ (by decide) (by decide) (by decide) (by decide) (by decide))
  |exact (HB.out.quiet hu _ (by decide) (by decide) (by decide) (by decide) (by decide))
 ·exact ⟨_, rfl⟩
 apply Yb rfl rfl
 ·intro dn r0 K hd hdep hK w5 hB1
  skip
  skip
  have HB := Yh_ hB1
  clear hB1 hdep
  go_wp2_with (go_at_call 17; refine (Ydb _ _).mono ?_; rintro e w6 ⟨rfl, hu⟩)
  first
  |exact hK _ (HB.out.quiet hu _ (by decide) (by decide) (by decide) (by decide) (by decide))
  |exact (HB.out.quiet hu _ (by decide) (by decide) (by decide) (by decide) (by decide))
 ·exact ⟨_, rfl⟩
 apply Yb rfl rfl
 ·intro dn r0 K hd hdep hK w5 hB1
  skip
  skip
  have HB := Yh_ hB1
  clear hB1 hdep
  go_wp2_with fail
  first
  |exact hK _ (HB.out.same _ (by decide) (by decide) (by decide) (by decide) (by decide))
  |exact (HB.out.same _ (by decide) (by decide) (by decide) (by decide) (by decide))
 ·exact ⟨_, rfl⟩
 apply Yb rfl rfl
 ·intro dn r0 K hd hdep hK w5 hB1
  have HD := Yh_ hd
  skip
  have HB := Yh_ hB1
  clear hB1 hdep
  go_wp2_with (go_at_call 15; have hm0 := HB.out.k.m; rw [HD.out] at hm0; refine (mv_wx 37 (.inr rfl) hm0 HS.out.1 HS.out.2.1 HS.out.2.2.2 HX.out.2).mono ?_; rintro e w6 ⟨rfl, hm6, hu6⟩; unfold Flt.val Flt.zero)
  first
  |exact hK _ (HB.out.call hm6 hu6 (by decide) (by decide) (by decide) (by decide))
  |exact (HB.out.call hm6 hu6 (by decide) (by decide) (by decide) (by decide))
 ·exact ⟨_, rfl⟩
 apply Yb rfl rfl
 ·intro dn r0 K hd hdep hK w5 hB1
  skip
  skip
  have HB := Yh_ hB1
  clear hB1 hdep
  go_wp2_with fail
  first
  |exact hK _ (HB.out.same _ (by decide) (by decide) (by decide) (by decide) (by decide))
  |exact (HB.out.same _ (by decide) (by decide) (by decide) (by decide) (by decide))
 ·exact ⟨_, rfl⟩
 apply Yb rfl rfl
 ·intro dn r0 K hd hdep hK w5 hB1
  skip
  skip
  have HB := Yh_ hB1
  clear hB1 hdep
  go_wp2_with fail
  first
  |exact hK _ (HB.out.same _ (by decide) (by decide) (by decide) (by decide) (by decide))
  |exact (HB.out.same _ (by decide) (by decide) (by decide) (by decide) (by decide))
 ·exact ⟨_, rfl⟩
 apply Yb rfl rfl
 ·intro dn r0 K hd hdep hK w5 hB1
  skip
  skip
  have HB := Yh_ hB1
  clear hB1 hdep
  go_wp2_with fail
  first
  |exact hK _ (HB.out.same _ (by decide) (by decide) (by decide) (by decide) (by decide))
  |exact (HB.out.same _ (by decide) (by decide) (by decide) (by decide) (by decide))
 ·exact ⟨_, rfl⟩
 apply Yb rfl rfl
 ·intro dn r0 K hd hdep hK w5 hB1
  skip
  skip
  have HB := Yh_ hB1
  clear hB1 hdep
  go_wp2_with fail
  first
  |exact hK _ (HB.out.same _ (by decide) (by decide) (by decide) (by decide) (by decide))
  |exact (HB.out.same _ (by decide) (by decide) (by decide) (by decide) (by decide))
 ·exact ⟨_, rfl⟩
 refine Yr rfl (fun _ => rfl) 21 rfl (by simp [Act.put]) ?_ ?_
 ·intro dn r0 K hd w5 hB1 hK
  have HB := Yh_ hB1
  clear hB1
  simp only [Yi]
  go_wp2_with fail
  first
  |exact hK (.pointer (some ⟨w5.heap.size, 0, none⟩)) _ (HB.out.layS hd (by decide) (by decide) (by decide) (by decide))
  |exact HB.out.layS hd (by decide) (by decide) (by decide) (by decide)
 refine Yr rfl (fun _ => rfl) 22 rfl (by simp [Act.put]) ?_ ?_
 ·intro dn r0 K hd w5 hB1 hK
  have HB := Yh_ hB1
  clear hB1
  simp only [Yi]
  go_wp2_with fail
  first
  |exact hK (.pointer (some ⟨w5.heap.size, 0, none⟩)) _ (HB.out.layF hd (by decide) (by decide) (by decide) (by decide))
  |exact HB.out.layF hd (by decide) (by decide) (by decide) (by decide)
 apply Yt rfl (fun _ => rfl)
 ·intro dn r0 K hd hdep hK w5 hB1
  have h8 : dn 11 = true := hdep ⟨11, .data⟩ (by simp) rfl
  obtain ⟨g0, e1, e2, e3⟩ := hB1.x h8
  refine Yas (((mvT s).goOn 7).setR j (Ybi 37 (v / 256 % 256))) g0 _ _ rfl (by show r0 11 = _; exact e1) rfl e3 (by cases dn 13 <;> rfl) ?_
  intro w6 hw; rw [← hw]
  exact hK _ (hB1.putS h8 e1 (by decide) (by decide) (by decide) (by decide))
 ·exact ⟨undef, fun _ => rfl, Eq.symm (by go_simp; exact rfl)⟩
 apply Yt rfl (fun _ => rfl)
 ·intro dn r0 K hd hdep hK w5 hB1
  have h8 : dn 12 = true := hdep ⟨12, .data⟩ (by simp) rfl
  obtain ⟨g0, e1, e2, e3⟩ := hB1.y h8
  refine Yav Flt.zero (cond (dn 14) Flt.zero Flt.zero) g0 _ _ rfl (by show r0 12 = _; exact e1) rfl (by rw [e3]; cases dn 14 <;> rfl) ?_
  skip
  exact hK _ (hB1.putF h8 e1 (by decide) (by decide) (by decide) (by decide))
 ·exact ⟨undef, fun _ => rfl, Eq.symm (by go_simp; exact rfl)⟩
 apply Yt rfl (fun _ => rfl)
 ·intro dn r0 K hd hdep hK w5 hB1
  skip
  skip
  have HB := Yh_ hB1
  clear hB1 hdep
  simp only [Yi]
  go_wp2_with fail
  first
  |exact hK _ (HB.out.same _ (by decide) (by decide) (by decide) (by decide) (by decide))
  |exact (HB.out.same _ (by decide) (by decide) (by decide) (by decide) (by decide))
 ·exact ⟨_, fun _ => rfl, Eq.symm (by go_simp; exact rfl)⟩
 refine Yad (fun _ r0 w33 dn hall hB2 => ?_)
 obtain ⟨ga3, gb3, e1, e2, hK⟩ := hB2.fin (hall 6 (by decide)) (hall 11 (by decide)) (hall 12 (by decide)) (hall 13 (by decide)) (hall 14 (by decide))
 have Q4 := Yh_ hK
 show wpList _ _ _ _ (Act.put (Act.put (Yi _ _ [] _) (some 21) (r0 11)) (some 22) (r0 12)) _
 rw [e1, e2]
 simp only [Yi]
 clear e1 e2 hK hall hB2 Q3
 go_wp2_with fail
 refine Yai 17 (Kd w p pb (mvM v) (mvM v) [(gb3, .cells (Yo Flt.zero) 35 (0, 0)), (ga3, .cells (St.cells (((mvT s).goOn 7).setR j (Ybi 37 (v / 256 % 256)))) 28 (0, 0)), (gb2, .cells (Yo Flt.zero) 35 (0, 0)), (ga2, .cells (St.cells (((mvT s).goOn 7).setR j (Ybi 36 (v / 256 % 256)))) 28 (0, 0)), (gb1, .cells (Yo Flt.zero) 35 (0, 0)), (ga1, .cells (St.cells (mvU s k v)) 28 (0, 0)), (gb0, .cells (Yo Flt.zero) 35 (0, 0)), (ga0, .cells (St.cells (mvT s)) 28 (0, 0)), (w.heap.size, .cells (St.cells s) 28 (0, 0))] _ (mvY s k j v) Flt.zero 7 12 13 14 15) (fun _ _ => False) (by kernel_rfl) (by decide +kernel) (fun r0 => Kd.start Q4.out (mvM v) (mvY s k j v) Flt.zero 7 12 13 14 15 r0) (fun _ _ _ h => h.elim) ?_
 simp only [List.take_succ_cons, List.take_zero, List.drop_succ_cons, List.drop_zero]
 apply Yb rfl rfl
 ·intro dn r0 K hd hdep hK w5 hB1
  skip
  skip
  have HB := Yh_ hB1
  clear hB1 hdep
  go_wp2_with fail
  first
  |exact hK _ (HB.out.same _ (by decide) (by decide) (by decide) (by decide) (by decide))
  |exact (HB.out.same _ (by decide) (by decide) (by decide) (by decide) (by decide))
 ·exact ⟨_, rfl⟩
 apply Yb rfl rfl
 ·intro dn r0 K hd hdep hK w5 hB1
  refine Yax (mvU s k v) _ _ rfl rfl (hB1.k.get 5 rfl) ?_
  exact hK _ (hB1.same _ (by decide) (by decide) (by decide) (by decide) (by decide))
 ·exact ⟨_, rfl⟩
 apply Yb rfl rfl
 ·intro dn r0 K hd hdep hK w5 hB1
  skip
  skip
  have HB := Yh_ hB1
  clear hB1 hdep
  go_wp2_with fail
  first
  |exact hK _ (HB.out.same _ (by decide) (by decide) (by decide) (by decide) (by decide))
  |exact (HB.out.same _ (by decide) (by decide) (by decide) (by decide) (by decide))
 ·exact ⟨_, rfl⟩
 apply Yb rfl rfl
 ·intro dn r0 K hd hdep hK w5 hB1
  skip
  skip
  have HB := Yh_ hB1
  clear hB1 hdep
  go_wp2_with (go_at_call 19; refine (Ycj _ _).mono ?_; rintro e w6 ⟨rfl, hu⟩)
  first
  |exact hK _ (HB.out.quiet hu _ (by decide) (by decide) (by decide) (by decide) (by decide))
  |exact (HB.out.quiet hu _ (by decide) (by decide) (by decide) (by decide) (by decide))
 ·exact ⟨_, rfl⟩
 apply Yb rfl rfl
 ·intro dn r0 K hd hdep hK w5 hB1
  skip
  skip
  have HB := Yh_ hB1
  clear hB1 hdep
  go_wp2_with fail
  first
  |exact hK _ (HB.out.same _ (by decide) (by decide) (by decide) (by decide) (by decide))
  |exact (HB.out.same _ (by decide) (by decide) (by decide) (by decide) (by decide))
 ·exact ⟨_, rfl⟩
 apply Yb rfl rfl
 ·intro dn r0 K hd hdep hK w5 hB1
  skip
  skip
  have HB := Yh_ hB1
  clear hB1 hdep
  go_wp2_with (go_at_call 19; refine (Ycj _ _).mono ?_; rintro e w6 ⟨rfl, hu⟩)
  first
  |exact hK _ (HB.out.quiet hu _ (by decide) (by decide) (by decide) (by decide) (by decide))
  |exact (HB.out.quiet hu _ (by decide) (by decide) (by decide) (by decide) (by decide))
 ·exact ⟨_, rfl⟩
 apply Yb rfl rfl
 ·intro dn r0 K hd hdep hK w5 hB1
  skip
  skip
  have HB := Yh_ hB1
  clear hB1 hdep
  go_wp2_with fail
  first
  |exact hK _ (HB.out.same _ (by decide) (by decide) (by decide) (by decide) (by decide))
  |exact (HB.out.same _ (by decide) (by decide) (by decide) (by decide) (by decide))
 ·exact ⟨_, rfl⟩
 apply Yb rfl rfl
 ·intro dn r0 K hd hdep hK w5 hB1
  have HD := Yh_ hd
  skip
  have HB := Yh_ hB1
  clear hB1 hdep
  go_wp2_with (go_at_call 15; have hm0 := HB.out.k.m; rw [HD.out] at hm0; refine (mv_y hm0 HS.out.1 HS.out.2.1 HS.out.2.2.1 HS.out.2.2.2 HX.out.1 HX.out.2).mono ?_; rintro e w6 ⟨rfl, hm6, hu6⟩; unfold Flt.val Flt.zero)
  first
  |exact hK _ (HB.out.call hm6 hu6 (by decide) (by decide) (by decide) (by decide))
  |exact (HB.out.call hm6 hu6 (by decide) (by decide) (by decide) (by decide))
 ·exact ⟨_, rfl⟩
 apply Yb rfl rfl
 ·intro dn r0 K hd hdep hK w5 hB1
  skip
  skip
  have HB := Yh_ hB1
  clear hB1 hdep
  go_wp2_with fail
  first
  |exact hK _ (HB.out.same _ (by decide) (by decide) (by decide) (by decide) (by decide))
  |exact (HB.out.same _ (by decide) (by decide) (by decide) (by decide) (by decide))
 ·exact ⟨_, rfl⟩
 apply Yb rfl rfl
 ·intro dn r0 K hd hdep hK w5 hB1
  skip
  skip
  have HB := Yh_ hB1
  clear hB1 hdep
  go_wp2_with fail
  first
  |exact hK _ (HB.out.same _ (by decide) (by decide) (by decide) (by decide) (by decide))
  |exact (HB.out.same _ (by decide) (by decide) (by decide) (by decide) (by decide))
 ·exact ⟨_, rfl⟩
 apply Yb rfl rfl
 ·intro dn r0 K hd hdep hK w5 hB1
  skip
  skip
  have HB := Yh_ hB1
  clear hB1 hdep
  go_wp2_with fail
  first
  |exact hK _ (HB.out.same _ (by decide) (by decide) (by decide) (by decide) (by decide))
  |exact (HB.out.same _ (by decide) (by decide) (by decide) (by decide) (by decide))
 ·exact ⟨_, rfl⟩
 apply Yb rfl rfl
 ·intro dn r0 K hd hdep hK w5 hB1
  skip
  skip
  have HB := Yh_ hB1
  clear hB1 hdep
  go_wp2_with fail
  first
  |exact hK _ (HB.out.same _ (by decide) (by decide) (by decide) (by decide) (by decide))
  |exact (HB.out.same _ (by decide) (by decide) (by decide) (by decide) (by decide))
 ·exact ⟨_, rfl⟩
 refine Yr rfl (fun _ => rfl) 24 rfl (by simp [Act.put]) ?_ ?_
 ·intro dn r0 K hd w5 hB1 hK
  have HB := Yh_ hB1
  clear hB1
  simp only [Yi]
  go_wp2_with fail
  first
  |exact hK (.pointer (some ⟨w5.heap.size, 0, none⟩)) _ (HB.out.layS hd (by decide) (by decide) (by decide) (by decide))
  |exact HB.out.layS hd (by decide) (by decide) (by decide) (by decide)
 refine Yr rfl (fun _ => rfl) 25 rfl (by simp [Act.put]) ?_ ?_
 ·intro dn r0 K hd w5 hB1 hK
  have HB := Yh_ hB1
  clear hB1
  simp only [Yi]
  go_wp2_with fail
  first
  |exact hK (.pointer (some ⟨w5.heap.size, 0, none⟩)) _ (HB.out.layF hd (by decide) (by decide) (by decide) (by decide))
  |exact HB.out.layF hd (by decide) (by decide) (by decide) (by decide)
 apply Yt rfl (fun _ => rfl)
 ·intro dn r0 K hd hdep hK w5 hB1
  have h8 : dn 12 = true := hdep ⟨12, .data⟩ (by simp) rfl
  obtain ⟨g0, e1, e2, e3⟩ := hB1.x h8
  refine Yas (mvY s k j v) g0 _ _ rfl (by show r0 12 = _; exact e1) rfl e3 (by cases dn 14 <;> rfl) ?_
  intro w6 hw; rw [← hw]
  exact hK _ (hB1.putS h8 e1 (by decide) (by decide) (by decide) (by decide))
 ·exact ⟨undef, fun _ => rfl, Eq.symm (by go_simp; exact rfl)⟩
 apply Yt rfl (fun _ => rfl)
 ·intro dn r0 K hd hdep hK w5 hB1
  have h8 : dn 13 = true := hdep ⟨13, .data⟩ (by simp) rfl
  obtain ⟨g0, e1, e2, e3⟩ := hB1.y h8
  refine Yav Flt.zero (cond (dn 15) Flt.zero Flt.zero) g0 _ _ rfl (by show r0 13 = _; exact e1) rfl (by rw [e3]; cases dn 15 <;> rfl) ?_
  skip
  exact hK _ (hB1.putF h8 e1 (by decide) (by decide) (by decide) (by decide))
 ·exact ⟨undef, fun _ => rfl, Eq.symm (by go_simp; exact rfl)⟩
 apply Yt rfl (fun _ => rfl)
 ·intro dn r0 K hd hdep hK w5 hB1
  skip
  skip
  have HB := Yh_ hB1
  clear hB1 hdep
  simp only [Yi]
  go_wp2_with fail
  first
  |exact hK _ (HB.out.same _ (by decide) (by decide) (by decide) (by decide) (by decide))
  |exact (HB.out.same _ (by decide) (by decide) (by decide) (by decide) (by decide))
 ·exact ⟨_, fun _ => rfl, Eq.symm (by go_simp; exact rfl)⟩
 refine Yad (fun _ r0 w34 dn hall hB2 => ?_)
 obtain ⟨ga4, gb4, e1, e2, hK⟩ := hB2.fin (hall 7 (by decide)) (hall 12 (by decide)) (hall 13 (by decide)) (hall 14 (by decide)) (hall 15 (by decide))
 have Q5 := Yh_ hK
 show wpList _ _ _ _ (Act.put (Act.put (Yi _ _ [] _) (some 24) (r0 12)) (some 25) (r0 13)) _
 rw [e1, e2]
 simp only [Yi]
 clear e1 e2 hK hall hB2 Q4
 go_wp2_with fail
 refine Yai 17 (Kd w p pb (mvM v) (mvM v) [(gb4, .cells (Yo Flt.zero) 35 (0, 0)), (ga4, .cells (St.cells (mvY s k j v)) 28 (0, 0)), (gb3, .cells (Yo Flt.zero) 35 (0, 0)), (ga3, .cells (St.cells (((mvT s).goOn 7).setR j (Ybi 37 (v / 256 % 256)))) 28 (0, 0)), (gb2, .cells (Yo Flt.zero) 35 (0, 0)), (ga2, .cells (St.cells (((mvT s).goOn 7).setR j (Ybi 36 (v / 256 % 256)))) 28 (0, 0)), (gb1, .cells (Yo Flt.zero) 35 (0, 0)), (ga1, .cells (St.cells (mvU s k v)) 28 (0, 0)), (gb0, .cells (Yo Flt.zero) 35 (0, 0)), (ga0, .cells (St.cells (mvT s)) 28 (0, 0)), (w.heap.size, .cells (St.cells s) 28 (0, 0))] _ (mvZ s k v) Flt.zero 7 12 13 14 15) (fun _ _ => False) (by kernel_rfl) (by decide +kernel) (fun r0 => Kd.start Q5.out (mvM v) (mvZ s k v) Flt.zero 7 12 13 14 15 r0) (fun _ _ _ h => h.elim) ?_
 simp only [List.take_succ_cons, List.take_zero, List.drop_succ_cons, List.drop_zero]
 apply Yb rfl rfl
 ·intro dn r0 K hd hdep hK w5 hB1
  skip
  skip
  have HB := Yh_ hB1
  clear hB1 hdep
  go_wp2_with fail
  first
  |exact hK _ (HB.out.same _ (by decide) (by decide) (by decide) (by decide) (by decide))
  |exact (HB.out.same _ (by decide) (by decide) (by decide) (by decide) (by decide))
 ·exact ⟨_, rfl⟩
 apply Yb rfl rfl
 ·intro dn r0 K hd hdep hK w5 hB1
  refine Yax (mvT s) _ _ rfl rfl (hB1.k.get 9 rfl) ?_
  exact hK _ (hB1.same _ (by decide) (by decide) (by decide) (by decide) (by decide))
 ·exact ⟨_, rfl⟩
 apply Yb rfl rfl
 ·intro dn r0 K hd hdep hK w5 hB1
  skip
  skip
  have HB := Yh_ hB1
  clear hB1 hdep
  go_wp2_with fail
  first
  |exact hK _ (HB.out.same _ (by decide) (by decide) (by decide) (by decide) (by decide))
  |exact (HB.out.same _ (by decide) (by decide) (by decide) (by decide) (by decide))
 ·exact ⟨_, rfl⟩
 apply Yb rfl rfl
 ·intro dn r0 K hd hdep hK w5 hB1
  skip
  skip
  have HB := Yh_ hB1
  clear hB1 hdep
  go_wp2_with (go_at_call 19; refine (Ycj _ _).mono ?_; rintro e w6 ⟨rfl, hu⟩)
  first
  |exact hK _ (HB.out.quiet hu _ (by decide) (by decide) (by decide) (by decide) (by decide))
  |exact (HB.out.quiet hu _ (by decide) (by decide) (by decide) (by decide) (by decide))
 ·exact ⟨_, rfl⟩
 apply Yb rfl rfl
 ·intro dn r0 K hd hdep hK w5 hB1
  skip
  skip
  have HB := Yh_ hB1
  clear hB1 hdep
  go_wp2_with fail
  first
  |exact hK _ (HB.out.same _ (by decide) (by decide) (by decide) (by decide) (by decide))
  |exact (HB.out.same _ (by decide) (by decide) (by decide) (by decide) (by decide))
 ·exact ⟨_, rfl⟩
 apply Yb rfl rfl
 ·intro dn r0 K hd hdep hK w5 hB1
  skip
  skip
  have HB := Yh_ hB1
  clear hB1 hdep
  go_wp2_with (go_at_call 17; refine (Ydb _ _).mono ?_; rintro e w6 ⟨rfl, hu⟩)
  first
  |exact hK _ (HB.out.quiet hu _ (by decide) (by decide) (by decide) (by decide) (by decide))
  |exact (HB.out.quiet hu _ (by decide) (by decide) (by decide) (by decide) (by decide))
 ·exact ⟨_, rfl⟩
 apply Yb rfl rfl
 ·intro dn r0 K hd hdep hK w5 hB1
  skip
  skip
  have HB := Yh_ hB1
  clear hB1 hdep
  go_wp2_with fail
  first
  |exact hK _ (HB.out.same _ (by decide) (by decide) (by decide) (by decide) (by decide))
  |exact (HB.out.same _ (by decide) (by decide) (by decide) (by decide) (by decide))
 ·exact ⟨_, rfl⟩
 apply Yb rfl rfl
 ·intro dn r0 K hd hdep hK w5 hB1
  have HD := Yh_ hd
  skip
  have HB := Yh_ hB1
  clear hB1 hdep
  go_wp2_with (go_at_call 15; have hm0 := HB.out.k.m; rw [HD.out] at hm0; refine (mv_z hm0 HS.out.1 HS.out.2.1 HS.out.2.2.1 HX.out.1).mono ?_; rintro e w6 ⟨rfl, hm6, hu6⟩; unfold Flt.val Flt.zero)
  first
  |exact hK _ (HB.out.call hm6 hu6 (by decide) (by decide) (by decide) (by decide))
  |exact (HB.out.call hm6 hu6 (by decide) (by decide) (by decide) (by decide))
 ·exact ⟨_, rfl⟩
 apply Yb rfl rfl
 ·intro dn r0 K hd hdep hK w5 hB1
  skip
  skip
  have HB := Yh_ hB1
  clear hB1 hdep
  go_wp2_with fail
  first
  |exact hK _ (HB.out.same _ (by decide) (by decide) (by decide) (by decide) (by decide))
  |exact (HB.out.same _ (by decide) (by decide) (by decide) (by decide) (by decide))
 ·exact ⟨_, rfl⟩
 apply Yb rfl rfl
 ·intro dn r0 K hd hdep hK w5 hB1
  skip
  skip
  have HB := Yh_ hB1
  clear hB1 hdep
  go_wp2_with fail
  first
  |exact hK _ (HB.out.same _ (by decide) (by decide) (by decide) (by decide) (by decide))
  |exact (HB.out.same _ (by decide) (by decide) (by decide) (by decide) (by decide))
 ·exact ⟨_, rfl⟩
 apply Yb rfl rfl
 ·intro dn r0 K hd hdep hK w5 hB1
  skip
  skip
  have HB := Yh_ hB1
  clear hB1 hdep
  go_wp2_with fail
  first
  |exact hK _ (HB.out.same _ (by decide) (by decide) (by decide) (by decide) (by decide))
  |exact (HB.out.same _ (by decide) (by decide) (by decide) (by decide) (by decide))
 ·exact ⟨_, rfl⟩
 apply Yb rfl rfl
 ·intro dn r0 K hd hdep hK w5 hB1
  skip
  skip
  have HB := Yh_ hB1
  clear hB1 hdep
  go_wp2_with fail
  first
  |exact hK _ (HB.out.same _ (by decide) (by decide) (by decide) (by decide) (by decide))
  |exact (HB.out.same _ (by decide) (by decide) (by decide) (by decide) (by decide))
 ·exact ⟨_, rfl⟩
 refine Yr rfl (fun _ => rfl) 27 rfl (by simp [Act.put]) ?_ ?_
 ·intro dn r0 K hd w5 hB1 hK
  have HB := Yh_ hB1
  clear hB1
  simp only [Yi]
  go_wp2_with fail
  first
  |exact hK (.pointer (some ⟨w5.heap.size, 0, none⟩)) _ (HB.out.layS hd (by decide) (by decide) (by decide) (by decide))
  |exact HB.out.layS hd (by decide) (by decide) (by decide) (by decide)
 refine Yr rfl (fun _ => rfl) 28 rfl (by simp [Act.put]) ?_ ?_
 ·intro dn r0 K hd w5 hB1 hK
  have HB := Yh_ hB1
  clear hB1
  simp only [Yi]
  go_wp2_with fail
  first
  |exact hK (.pointer (some ⟨w5.heap.size, 0, none⟩)) _ (HB.out.layF hd (by decide) (by decide) (by decide) (by decide))
  |exact HB.out.layF hd (by decide) (by decide) (by decide) (by decide)
 apply Yt rfl (fun _ => rfl)
 ·intro dn r0 K hd hdep hK w5 hB1
  have h8 : dn 12 = true := hdep ⟨12, .data⟩ (by simp) rfl
  obtain ⟨g0, e1, e2, e3⟩ := hB1.x h8
  refine Yas (mvZ s k v) g0 _ _ rfl (by show r0 12 = _; exact e1) rfl e3 (by cases dn 14 <;> rfl) ?_
  intro w6 hw; rw [← hw]
  exact hK _ (hB1.putS h8 e1 (by decide) (by decide) (by decide) (by decide))
 ·exact ⟨undef, fun _ => rfl, Eq.symm (by go_simp; exact rfl)⟩
 apply Yt rfl (fun _ => rfl)
 ·intro dn r0 K hd hdep hK w5 hB1
  have h8 : dn 13 = true := hdep ⟨13, .data⟩ (by simp) rfl
  obtain ⟨g0, e1, e2, e3⟩ := hB1.y h8
  refine Yav Flt.zero (cond (dn 15) Flt.zero Flt.zero) g0 _ _ rfl (by show r0 13 = _; exact e1) rfl (by rw [e3]; cases dn 15 <;> rfl) ?_
  skip
  exact hK _ (hB1.putF h8 e1 (by decide) (by decide) (by decide) (by decide))
 ·exact ⟨undef, fun _ => rfl, Eq.symm (by go_simp; exact rfl)⟩
 apply Yt rfl (fun _ => rfl)
 ·intro dn r0 K hd hdep hK w5 hB1
  skip
  skip
  have HB := Yh_ hB1
  clear hB1 hdep
  simp only [Yi]
  go_wp2_with fail
  first
  |exact hK _ (HB.out.same _ (by decide) (by decide) (by decide) (by decide) (by decide))
  |exact (HB.out.same _ (by decide) (by decide) (by decide) (by decide) (by decide))
 ·exact ⟨_, fun _ => rfl, Eq.symm (by go_simp; exact rfl)⟩
 refine Yad (fun _ r0 w35 dn hall hB2 => ?_)
 obtain ⟨ga5, gb5, e1, e2, hK⟩ := hB2.fin (hall 7 (by decide)) (hall 12 (by decide)) (hall 13 (by decide)) (hall 14 (by decide)) (hall 15 (by decide))
 have Q6 := Yh_ hK
 show wpList _ _ _ _ (Act.put (Act.put (Yi _ _ [] _) (some 27) (r0 12)) (some 28) (r0 13)) _
 rw [e1, e2]
 simp only [Yi]
 clear e1 e2 hK hall hB2 Q5
 have du : w35.cell? ⟨ga1, k, none⟩ = some (.int .u32 v) := ((Ya (Q6.out.get 9 rfl) k).trans (St.cR _ k HS.out.2.2.1)).trans (by rw [show (mvU s k v).R k = v from Ydp _ _ _])
 have dw : w35.cell? ⟨ga2, j, none⟩ = some (.int .u32 (v / 256 % 256)) := ((Ya (Q6.out.get 7 rfl) j).trans (St.cR _ j HS.out.2.2.2)).trans (by rw [Ydp, show Ybi 36 (v / 256 % 256) = v / 256 % 256 from rfl])
 have dx : w35.cell? ⟨ga3, j, none⟩ = some (.int .u32 (Ydr (v / 256 % 256))) := ((Ya (Q6.out.get 5 rfl) j).trans (St.cR _ j HS.out.2.2.2)).trans (by rw [Ydp, show Ybi 37 (v / 256 % 256) = Ydr (v / 256 % 256) from rfl])
 have dy : w35.cell? ⟨ga4, j, none⟩ = some (.int .u32 v) := ((Ya (Q6.out.get 3 rfl) j).trans (St.cR _ j HS.out.2.2.2)).trans (by rw [show (mvY s k j v).R j = v from Ydp _ _ _])
 have dz : w35.cell? ⟨ga5, k, none⟩ = some (.int .u32 v) := ((Ya (Q6.out.get 1 rfl) k).trans (St.cR _ k HS.out.2.2.1)).trans (by rw [show (mvZ s k v).R k = v from Ydp _ _ _])
 have dyk : w35.cell? ⟨ga4, k, none⟩ = some (.int .u32 ((mvT s).R j)) := ((Ya (Q6.out.get 3 rfl) k).trans (St.cR _ k HS.out.2.2.1)).trans (by rw [mvY_k s k j v HN.out])
 have dt : w35.cell? ⟨ga0, j, none⟩ = some (.int .u32 ((mvT s).R j)) := (Ya (Q6.out.get 11 rfl) j).trans (St.cR _ j HS.out.2.2.2)
 have dfy0 : w35.cell? ⟨ga4, 9, none⟩ = some (.bool s.cf) := Ya (Q6.out.get 3 rfl) 9
 have dfx0 : w35.cell? ⟨ga3, 9, none⟩ = some (.bool s.cf) := Ya (Q6.out.get 5 rfl) 9
 have dfs0 : w35.cell? ⟨w.heap.size, 9, none⟩ = some (.bool s.cf) := Ya (Q6.out.get 12 rfl) 9
 have dfy1 : w35.cell? ⟨ga4, 10, none⟩ = some (.bool s.pf) := Ya (Q6.out.get 3 rfl) 10
 have dfx1 : w35.cell? ⟨ga3, 10, none⟩ = some (.bool s.pf) := Ya (Q6.out.get 5 rfl) 10
 have dfs1 : w35.cell? ⟨w.heap.size, 10, none⟩ = some (.bool s.pf) := Ya (Q6.out.get 12 rfl) 10
 have dfy2 : w35.cell? ⟨ga4, 11, none⟩ = some (.bool s.af) := Ya (Q6.out.get 3 rfl) 11
 have dfx2 : w35.cell? ⟨ga3, 11, none⟩ = some (.bool s.af) := Ya (Q6.out.get 5 rfl) 11
 have dfs2 : w35.cell? ⟨w.heap.size, 11, none⟩ = some (.bool s.af) := Ya (Q6.out.get 12 rfl) 11
 have dfy3 : w35.cell? ⟨ga4, 12, none⟩ = some (.bool s.zf) := Ya (Q6.out.get 3 rfl) 12
 have dfx3 : w35.cell? ⟨ga3, 12, none⟩ = some (.bool s.zf) := Ya (Q6.out.get 5 rfl) 12
 have dfs3 : w35.cell? ⟨w.heap.size, 12, none⟩ = some (.bool s.zf) := Ya (Q6.out.get 12 rfl) 12
 have dfy4 : w35.cell? ⟨ga4, 13, none⟩ = some (.bool s.sf) := Ya (Q6.out.get 3 rfl) 13
 have dfx4 : w35.cell? ⟨ga3, 13, none⟩ = some (.bool s.sf) := Ya (Q6.out.get 5 rfl) 13
 have dfs4 : w35.cell? ⟨w.heap.size, 13, none⟩ = some (.bool s.sf) := Ya (Q6.out.get 12 rfl) 13
 have dfy5 : w35.cell? ⟨ga4, 14, none⟩ = some (.bool s.of_) := Ya (Q6.out.get 3 rfl) 14
 have dfx5 : w35.cell? ⟨ga3, 14, none⟩ = some (.bool s.of_) := Ya (Q6.out.get 5 rfl) 14
 have dfs5 : w35.cell? ⟨w.heap.size, 14, none⟩ = some (.bool s.of_) := Ya (Q6.out.get 12 rfl) 14
 have dp : w35.cell? ⟨ga0, 8, none⟩ = some (.int .u32 ((s.pc + 10) % 4294967296)) := Ya (Q6.out.get 11 rfl) 8
 have dq : w35.cell? ⟨w.heap.size, 8, none⟩ = some (.int .u32 s.pc) := Ya (Q6.out.get 12 rfl) 8
 go_wp2_with fail
 refine Yan 101 (fun w1 => ∃ n, w1 = w35.drewN n) (fun _ _ => False) (by kernel_rfl) (by decide +kernel) ⟨1, rfl⟩ (fun _ _ _ h => h.elim) ?_
 simp only [List.take_succ_cons, List.take_zero, List.drop_succ_cons, List.drop_zero]
 iterate 101
  first
  |refine Yh1 rfl rfl rfl ?_
  |(apply Yu rfl rfl
    ·intro K hK w5 hB1
     obtain ⟨n, rfl⟩ := hB1
     go_wp2_with fail
     first | exact hK _ ⟨n, rfl⟩ | exact ⟨n, rfl⟩
    ·exact ⟨_, rfl⟩)
 refine Yaf (fun _ w6 hB1 => ?_)
 obtain ⟨n, rfl⟩ := hB1
 go_wp2_with fail
 go_ret
 exact ⟨rfl, Q6.out.u.drewN _⟩
theorem Yi7 (s : St) (v a0 b0 : Int) (w : World) (hs : s.Ok) (hv : 0 ≤ v ∧ v < 4294967296) (ha : 0 ≤ a0) (hb : 0 ≤ b0) :
  Calls Tryz.prog 6 #[.agg s.cells, .int .u32 v, .int .u8 a0, .int .u8 b0] w fun e w' => e = .returned (.bool true) ∧ Upd [] w w' := by
 by_cases h : (a0 % 8).toNat = (b0 % 8).toNat
 ·exact mv_same s v a0 b0 w _ _ hs hv ha hb (by omega) (by omega) h
 ·exact mv_other s v a0 b0 w _ _ hs hv ha hb (by omega) (by omega) h
end Go.Proofs.YthakgjpejhjaoaaGreat
