/-
  Parts of the proof (their names shortened by a program). No condition.
-/
import Derived.Test.YthakgjpejhjaoaaGreatMg01
import Derived.Test.YthakgjpejhjaoaaGreatMg18
import Derived.Test.YthakgjpejhjaoaaGreatMg08
import Derived.Test.YthakgjpejhjaoaaGreatMg17
import Derived.Test.YthakgjpejhjaoaaGreatMg05
import Derived.Test.YthakgjpejhjaoaaGreatProg
import Derived.Laws.FloatArith
import Derived.Laws.Externs
import Derived.Test.YthakgjpejhjaoaaGreatMg04
import Derived.Test.YthakgjpejhjaoaaGreatMg06
namespace Go.Proofs.YthakgjpejhjaoaaGreat
open Go Go.RowKit
set_option linter.unusedVariables false
set_option linter.unusedSimpArgs false
set_option maxRecDepth 100000
set_option maxHeartbeats 16000000
theorem Yh3 (d a pb : Nat) (s : St) (i : Ins) (M : Mem) (w : World) (h : Yp w d a pb s i M) (hop : i.op = 41) (hdf : s.df = false) (hr : M.readK (s.R 6) 4 1 = true) (hk : M.writeK (s.R 7) 4 = true) :
  Calls Tryz.prog 118 #[.pointer (some ⟨d, 0, none⟩)] w fun e w' => e = .returned (.tuple #[]) ∧ Yp w' d a pb (((s.setR 6 ((s.R 6 + 4) % 4294967296)).setR 7 ((s.R 7 + 4) % 4294967296))) i ((M.writeM (s.R 7) 4 (M.readV (s.R 6) 4 1))) ∧ Upd [d, pb] w w' := by
 have HD := Yh_ (Dq.of h)
 have HO := Yh_ (And.intro hop hdf)
 have H6R := Yh_ (h.ok.R 6)
 have H7R := Yh_ (h.ok.R 7)
 have c16 : w.cell? ⟨d, 16, none⟩ = some (.bool s.df) := h.cell 16
 rw [hdf] at c16
 have c18 : w.cell? ⟨d, 18, none⟩ = some (.int .i64 i.op) := h.cell 18
 rw [hop] at c18
 have c1 : w.cell? ⟨d, 1, none⟩ = some (.int .u32 (s.R 0)) := h.cR 0 (by decide)
 have c7 : w.cell? ⟨d, 7, none⟩ = some (.int .u32 (s.R 6)) := h.cR 6 (by decide)
 have c8 : w.cell? ⟨d, 8, none⟩ = some (.int .u32 (s.R 7)) := h.cR 7 (by decide)
 clear hop hdf
 have HV := Yh_ (Yei h.m (s.R 6) 4 1)
 have HR := Yh_ hr
 clear hr
 have HK := Yh_ hk
 clear hk
 clear h
 go_enter Tryz.func118, Tryz.ntmps118
 go_wp2_with (first | (have _t := HD; clear _t; go_at_call 115; refine (Yhv d a pb s i M (s.R 6) _ HD.out.b H6R.out HR.out).mono ?_; rintro e w4 ⟨rfl, hu⟩; have H4 := Yh_ (HD.out.quiet hu); clear c7 c8 c18 c16 c1; have c8 : w4.cell? ⟨d, 8, none⟩ = some (.int .u32 (s.R 7)) := H4.out.b.cR 7 (by decide); clear hu HD) | (have _t := H4; clear _t; go_at_call 114; refine (Ygv d a pb s i M (s.R 7) (M.readV (s.R 6) 4 1) _ H4.out.b H7R.out HV.out HK.out).mono ?_; rintro e w5 ⟨rfl, hd, hu⟩; have H5 := Yh_ (H4.out.next hd (hu.mono (T := [d, pb]) (by simp))); clear c8; have c18 : w5.cell? ⟨d, 18, none⟩ = some (.int .i64 i.op) := H5.out.b.cell 18; rw [HO.out.1] at c18; clear hd hu H4))
 refine Yaq 12 (Dq w d a pb s i (M.writeM (s.R 7) 4 (M.readV (s.R 6) 4 1)) []) (fun _ _ => False) (by kernel_rfl) (by decide +kernel) H5.out.drew (fun _ _ _ h => h.elim) ?_
 simp only [List.take_succ_cons, List.take_zero, List.drop_succ_cons, List.drop_zero]
 iterate 12
  apply Yaa rfl rfl
  ·intro K hK w5 hB1
   have c7 : w5.cell? ⟨d, 7, none⟩ = some (.int .u32 (s.R 6)) := hB1.b.cR 6 (by decide)
   have HB := Yh_ hB1
   clear hB1
   go_wp2_with fail
   first
   |exact hK _ HB.out
   |exact HB.out
  ·exact ⟨_, rfl⟩
 refine Yaf (fun _ w6 hB1 => ?_)
 have c7 : w6.cell? ⟨d, 7, none⟩ = some (.int .u32 (s.R 6)) := hB1.b.cR 6 (by decide)
 have f6 := hB1.b.free
 have H6 := Yh_ hB1
 clear hB1 H5 c18
 go_wp2_with fail
 have H7 := Yh_ (H6.out.next (s2 := (s.setR 6 ((s.R 6 + 4) % 4294967296))) (H6.out.b.setR 6 (by decide) ((s.R 6 + 4) % 4294967296) (by omega)) ((Upd.refl [d, pb] w6).setCell (p := ⟨d, 7, none⟩) (.inl (by simp)) _))
 clear H6 c7 f6
 refine Yaq 12 (Dq w d a pb (s.setR 6 ((s.R 6 + 4) % 4294967296)) i (M.writeM (s.R 7) 4 (M.readV (s.R 6) 4 1)) []) (fun _ _ => False) (by kernel_rfl) (by decide +kernel) H7.out.drew (fun _ _ _ h => h.elim) ?_
 simp only [List.take_succ_cons, List.take_zero, List.drop_succ_cons, List.drop_zero]
 iterate 12
  apply Yaa rfl rfl
  ·intro K hK w5 hB1
   have c8 : w5.cell? ⟨d, 8, none⟩ = some (.int .u32 (s.R 7)) := hB1.b.cR 7 (by decide)
   have HB := Yh_ hB1
   clear hB1
   go_wp2_with fail
   first
   |exact hK _ HB.out
   |exact HB.out
  ·exact ⟨_, rfl⟩
 refine Yaf (fun _ w8 hB1 => ?_)
 have c8 : w8.cell? ⟨d, 8, none⟩ = some (.int .u32 (s.R 7)) := hB1.b.cR 7 (by decide)
 have f8 := hB1.b.free
 have H8 := Yh_ hB1
 clear hB1 H7
 go_wp2_with fail
 go_end0
 exact ⟨rfl, H8.out.b.setR 7 (by decide) ((s.R 7 + 4) % 4294967296) (by omega), H8.out.u.setCell (p := ⟨d, 8, none⟩) (.inl (by simp)) _⟩
theorem Yik (d a pb : Nat) (s : St) (i : Ins) (M : Mem) (w : World) (h : Yp w d a pb s i M) (hop : i.op = 41) (hdf : s.df = true) (hr : M.readK (s.R 6) 4 1 = true) (hk : M.writeK (s.R 7) 4 = true) :
  Calls Tryz.prog 118 #[.pointer (some ⟨d, 0, none⟩)] w fun e w' => e = .returned (.tuple #[]) ∧ Yp w' d a pb (((s.setR 6 ((s.R 6 + 4294967292) % 4294967296)).setR 7 ((s.R 7 + 4294967292) % 4294967296))) i ((M.writeM (s.R 7) 4 (M.readV (s.R 6) 4 1))) ∧ Upd [d, pb] w w' := by
 have HD := Yh_ (Dq.of h)
 have HO := Yh_ (And.intro hop hdf)
 have H6R := Yh_ (h.ok.R 6)
 have H7R := Yh_ (h.ok.R 7)
 have c16 : w.cell? ⟨d, 16, none⟩ = some (.bool s.df) := h.cell 16
 rw [hdf] at c16
 have c18 : w.cell? ⟨d, 18, none⟩ = some (.int .i64 i.op) := h.cell 18
 rw [hop] at c18
 have c1 : w.cell? ⟨d, 1, none⟩ = some (.int .u32 (s.R 0)) := h.cR 0 (by decide)
 have c7 : w.cell? ⟨d, 7, none⟩ = some (.int .u32 (s.R 6)) := h.cR 6 (by decide)
 have c8 : w.cell? ⟨d, 8, none⟩ = some (.int .u32 (s.R 7)) := h.cR 7 (by decide)
 clear hop hdf
 have HV := Yh_ (Yei h.m (s.R 6) 4 1)
 have HR := Yh_ hr
 clear hr
 have HK := Yh_ hk
 clear hk
 clear h
 go_enter Tryz.func118, Tryz.ntmps118
 go_wp2_with (first | (have _t := HD; clear _t; go_at_call 115; refine (Yhv d a pb s i M (s.R 6) _ HD.out.b H6R.out HR.out).mono ?_; rintro e w4 ⟨rfl, hu⟩; have H4 := Yh_ (HD.out.quiet hu); clear c7 c8 c18 c16 c1; have c8 : w4.cell? ⟨d, 8, none⟩ = some (.int .u32 (s.R 7)) := H4.out.b.cR 7 (by decide); clear hu HD) | (have _t := H4; clear _t; go_at_call 114; refine (Ygv d a pb s i M (s.R 7) (M.readV (s.R 6) 4 1) _ H4.out.b H7R.out HV.out HK.out).mono ?_; rintro e w5 ⟨rfl, hd, hu⟩; have H5 := Yh_ (H4.out.next hd (hu.mono (T := [d, pb]) (by simp))); clear c8; have c18 : w5.cell? ⟨d, 18, none⟩ = some (.int .i64 i.op) := H5.out.b.cell 18; rw [HO.out.1] at c18; clear hd hu H4))
 refine Yaq 12 (Dq w d a pb s i (M.writeM (s.R 7) 4 (M.readV (s.R 6) 4 1)) []) (fun _ _ => False) (by kernel_rfl) (by decide +kernel) H5.out.drew (fun _ _ _ h => h.elim) ?_
 simp only [List.take_succ_cons, List.take_zero, List.drop_succ_cons, List.drop_zero]
 iterate 12
  apply Yaa rfl rfl
  ·intro K hK w5 hB1
   have c7 : w5.cell? ⟨d, 7, none⟩ = some (.int .u32 (s.R 6)) := hB1.b.cR 6 (by decide)
   have HB := Yh_ hB1
   clear hB1
   go_wp2_with fail
   first
   |exact hK _ HB.out
   |exact HB.out
  ·exact ⟨_, rfl⟩
 refine Yaf (fun _ w6 hB1 => ?_)
 have c7 : w6.cell? ⟨d, 7, none⟩ = some (.int .u32 (s.R 6)) := hB1.b.cR 6 (by decide)
 have f6 := hB1.b.free
 have H6 := Yh_ hB1
 clear hB1 H5 c18
 go_wp2_with fail
 have H7 := Yh_ (H6.out.next (s2 := (s.setR 6 ((s.R 6 + 4294967292) % 4294967296))) (H6.out.b.setR 6 (by decide) ((s.R 6 + 4294967292) % 4294967296) (by omega)) ((Upd.refl [d, pb] w6).setCell (p := ⟨d, 7, none⟩) (.inl (by simp)) _))
 clear H6 c7 f6
 refine Yaq 12 (Dq w d a pb (s.setR 6 ((s.R 6 + 4294967292) % 4294967296)) i (M.writeM (s.R 7) 4 (M.readV (s.R 6) 4 1)) []) (fun _ _ => False) (by kernel_rfl) (by decide +kernel) H7.out.drew (fun _ _ _ h => h.elim) ?_
 simp only [List.take_succ_cons, List.take_zero, List.drop_succ_cons, List.drop_zero]
 iterate 12
  apply Yaa rfl rfl
  ·intro K hK w5 hB1
   have c8 : w5.cell? ⟨d, 8, none⟩ = some (.int .u32 (s.R 7)) := hB1.b.cR 7 (by decide)
   have HB := Yh_ hB1
   clear hB1
   go_wp2_with fail
   first
   |exact hK _ HB.out
   |exact HB.out
  ·exact ⟨_, rfl⟩
 refine Yaf (fun _ w8 hB1 => ?_)
 have c8 : w8.cell? ⟨d, 8, none⟩ = some (.int .u32 (s.R 7)) := hB1.b.cR 7 (by decide)
 have f8 := hB1.b.free
 have H8 := Yh_ hB1
 clear hB1 H7
 go_wp2_with fail
 go_end0
 exact ⟨rfl, H8.out.b.setR 7 (by decide) ((s.R 7 + 4294967292) % 4294967296) (by omega), H8.out.u.setCell (p := ⟨d, 8, none⟩) (.inl (by simp)) _⟩
theorem Yg3 : (∀ (d a pb : Nat) (s : St) (i : Ins) (M : Mem) (w : World) (h : Yp w d a pb s i M) (hop : i.op = 41) (hdf : s.df = false) (hr : M.readK (s.R 6) 4 1 = true) (hk : M.writeK (s.R 7) 4 = false), Calls Tryz.prog 118 #[.pointer (some ⟨d, 0, none⟩)] w fun e w' => e = .panicked [{ v := .iface 35 (M.wrF (s.R 7) 4).val, recovered := false }] ∧ Yl w' a pb ((M.writeM (s.R 7) 4 (M.readV (s.R 6) 4 1))) ∧ Upd [d, pb] w w') ∧
 (∀ (d a pb : Nat) (s : St) (i : Ins) (M : Mem) (w : World) (h : Yp w d a pb s i M) (hop : i.op = 41) (hdf : s.df = true) (hr : M.readK (s.R 6) 4 1 = true) (hk : M.writeK (s.R 7) 4 = false), Calls Tryz.prog 118 #[.pointer (some ⟨d, 0, none⟩)] w fun e w' => e = .panicked [{ v := .iface 35 (M.wrF (s.R 7) 4).val, recovered := false }] ∧ Yl w' a pb ((M.writeM (s.R 7) 4 (M.readV (s.R 6) 4 1))) ∧ Upd [d, pb] w w') := by
 refine ⟨fun d a pb s i M w h hop hdf hr hk => ?_, fun d a pb s i M w h hop hdf hr hk => ?_⟩
 all_goals
  have HD := Yh_ (Dq.of h)
  have HO := Yh_ (And.intro hop hdf)
  have H6R := Yh_ (h.ok.R 6)
  have H7R := Yh_ (h.ok.R 7)
  have c16 : w.cell? ⟨d, 16, none⟩ = some (.bool s.df) := h.cell 16
  rw [hdf] at c16
  have c18 : w.cell? ⟨d, 18, none⟩ = some (.int .i64 i.op) := h.cell 18
  rw [hop] at c18
  have c1 : w.cell? ⟨d, 1, none⟩ = some (.int .u32 (s.R 0)) := h.cR 0 (by decide)
  have c7 : w.cell? ⟨d, 7, none⟩ = some (.int .u32 (s.R 6)) := h.cR 6 (by decide)
  have c8 : w.cell? ⟨d, 8, none⟩ = some (.int .u32 (s.R 7)) := h.cR 7 (by decide)
  clear hop hdf
  have HV := Yh_ (Yei h.m (s.R 6) 4 1)
  have HR := Yh_ hr
  clear hr
  have HK := Yh_ hk
  clear hk
  clear h
  go_enter Tryz.func118, Tryz.ntmps118
  go_wp2_with (first | (have _t := HD; clear _t; go_at_call 115; refine (Yhv d a pb s i M (s.R 6) _ HD.out.b H6R.out HR.out).mono ?_; rintro e w4 ⟨rfl, hu⟩; have H4 := Yh_ (HD.out.quiet hu); clear c7 c8 c18 c16 c1; have c8 : w4.cell? ⟨d, 8, none⟩ = some (.int .u32 (s.R 7)) := H4.out.b.cR 7 (by decide); clear hu HD) | (have _t := H4; clear _t; go_at_call 114; refine (Yig d a pb s i M (s.R 7) (M.readV (s.R 6) 4 1) _ H4.out.b H7R.out HV.out HK.out).mono ?_; rintro e w5 ⟨rfl, hd, hu⟩; have H5 := Yh_ (H4.out.next hd (hu.mono (T := [d, pb]) (by simp))); clear c8; have c18 : w5.cell? ⟨d, 18, none⟩ = some (.int .i64 i.op) := H5.out.b.cell 18; rw [HO.out.1] at c18; clear hd hu H4))
  exact ⟨rfl, rfl, H5.out.b.m, H5.out.u⟩
theorem Yg4 : (∀ (d a pb : Nat) (s : St) (i : Ins) (M : Mem) (w : World) (h : Yp w d a pb s i M) (hop : i.op = 41) (hdf : s.df = false) (hr : M.readK (s.R 6) 4 1 = false), Calls Tryz.prog 118 #[.pointer (some ⟨d, 0, none⟩)] w fun e w' => e = .panicked [{ v := .iface 35 (M.rdF (s.R 6) 4 1).val, recovered := false }] ∧ Yl w' a pb (M) ∧ Upd [d, pb] w w') ∧
 (∀ (d a pb : Nat) (s : St) (i : Ins) (M : Mem) (w : World) (h : Yp w d a pb s i M) (hop : i.op = 41) (hdf : s.df = true) (hr : M.readK (s.R 6) 4 1 = false), Calls Tryz.prog 118 #[.pointer (some ⟨d, 0, none⟩)] w fun e w' => e = .panicked [{ v := .iface 35 (M.rdF (s.R 6) 4 1).val, recovered := false }] ∧ Yl w' a pb (M) ∧ Upd [d, pb] w w') := by
 refine ⟨fun d a pb s i M w h hop hdf hr => ?_, fun d a pb s i M w h hop hdf hr => ?_⟩
 all_goals
  have HD := Yh_ (Dq.of h)
  have HO := Yh_ (And.intro hop hdf)
  have H6R := Yh_ (h.ok.R 6)
  have H7R := Yh_ (h.ok.R 7)
  have c16 : w.cell? ⟨d, 16, none⟩ = some (.bool s.df) := h.cell 16
  rw [hdf] at c16
  have c18 : w.cell? ⟨d, 18, none⟩ = some (.int .i64 i.op) := h.cell 18
  rw [hop] at c18
  have c1 : w.cell? ⟨d, 1, none⟩ = some (.int .u32 (s.R 0)) := h.cR 0 (by decide)
  have c7 : w.cell? ⟨d, 7, none⟩ = some (.int .u32 (s.R 6)) := h.cR 6 (by decide)
  have c8 : w.cell? ⟨d, 8, none⟩ = some (.int .u32 (s.R 7)) := h.cR 7 (by decide)
  clear hop hdf
  have HR := Yh_ hr
  clear hr
  clear h
  go_enter Tryz.func118, Tryz.ntmps118
  go_wp2_with (have _t := HD; clear _t; go_at_call 115; refine (Yov d a pb s i M (s.R 6) _ HD.out.b H6R.out HR.out).mono ?_; rintro e w4 ⟨rfl, hu⟩; have H4 := Yh_ (HD.out.quiet hu); clear c7 c8 c18 c16 c1; have c8 : w4.cell? ⟨d, 8, none⟩ = some (.int .u32 (s.R 7)) := H4.out.b.cR 7 (by decide); clear hu HD)
  exact ⟨rfl, rfl, H4.out.b.m, H4.out.u⟩
theorem Yll (d a pb : Nat) (s : St) (i : Ins) (M : Mem) (w : World) (h : Yp w d a pb s i M) (hrep : i.rep = false) (s2 : St) (M2 : Mem) (hj : ∀ w1, Yp w1 d a pb s i M → Calls Tryz.prog 118 #[.pointer (some ⟨d, 0, none⟩)] w1 fun e w' => e = .returned (.tuple #[]) ∧ Yp w' d a pb (s2) i (M2) ∧ Upd [d, pb] w1 w') :
  Calls Tryz.prog 85 #[.pointer (some ⟨d, 0, none⟩)] w fun e w' => e = .returned (.tuple #[]) ∧ Yp w' d a pb (s2) i (M2) ∧ Upd [d, pb] w w' := by
 have HD := Yh_ (Dq.of h)
 have c32 : w.cell? ⟨d, 32, none⟩ = some (.bool i.rep) := h.cell 32
 rw [hrep] at c32
 have c2 : w.cell? ⟨d, 2, none⟩ = some (.int .u32 (s.R 1)) := h.cR 1 (by decide)
 have HJ := Yh_ hj
 clear hj hrep
 clear h
 go_enter Tryz.func85, Tryz.ntmps85
 go_wp2_with (have _t := HD; clear _t; go_at_call 118; refine (HJ.out _ HD.out.b).mono ?_; rintro e w4 ⟨rfl, hd, hu⟩; have H4 := Yh_ (HD.out.next hd hu); clear c2 c32; have c2 : w4.cell? ⟨d, 2, none⟩ = some (.int .u32 (s2.R 1)) := H4.out.b.cR 1 (by decide); clear hd hu HD)
 go_end0
 exact ⟨rfl, H4.out.b, H4.out.u⟩
theorem Ykh (d a pb : Nat) (s : St) (i : Ins) (M : Mem) (w : World) (h : Yp w d a pb s i M) (hrep : i.rep = false) (M2 : Mem) (F : Flt) (hj : ∀ w1, Yp w1 d a pb s i M → Calls Tryz.prog 118 #[.pointer (some ⟨d, 0, none⟩)] w1 fun e w' => e = .panicked [{ v := .iface 35 (F).val, recovered := false }] ∧ Yl w' a pb (M2) ∧ Upd [d, pb] w1 w') :
  Calls Tryz.prog 85 #[.pointer (some ⟨d, 0, none⟩)] w fun e w' => e = .panicked [{ v := .iface 35 (F).val, recovered := false }] ∧ Yl w' a pb (M2) ∧ Upd [d, pb] w w' := by
 have HD := Yh_ (Dq.of h)
 have c32 : w.cell? ⟨d, 32, none⟩ = some (.bool i.rep) := h.cell 32
 rw [hrep] at c32
 have c2 : w.cell? ⟨d, 2, none⟩ = some (.int .u32 (s.R 1)) := h.cR 1 (by decide)
 have HJ := Yh_ hj
 clear hj hrep
 clear h
 go_enter Tryz.func85, Tryz.ntmps85
 go_wp2_with (have _t := HD; clear _t; go_at_call 118; refine (HJ.out _ HD.out.b).mono ?_; rintro e w4 ⟨rfl, hd, hu⟩; have H4 := Yh_ (And.intro hd (HD.out.u.also hu (fun x hx => .inl hx))); clear hd hu HD)
 exact ⟨rfl, rfl, H4.out.1, H4.out.2⟩
theorem rep_none (d a pb : Nat) (s : St) (i : Ins) (M : Mem) (w : World) (h : Yp w d a pb s i M) (hrep : i.rep = true) (hc : s.R 1 = 0) :
  Calls Tryz.prog 85 #[.pointer (some ⟨d, 0, none⟩)] w fun e w' => e = .returned (.tuple #[]) ∧ Yp w' d a pb (s) i (M) ∧ Upd [d, pb] w w' := by
 have HD := Yh_ (Dq.of h)
 have c32 : w.cell? ⟨d, 32, none⟩ = some (.bool i.rep) := h.cell 32
 rw [hrep] at c32
 have c2 : w.cell? ⟨d, 2, none⟩ = some (.int .u32 (s.R 1)) := h.cR 1 (by decide)
 rw [hc] at c2
 clear hc hrep
 clear h
 go_enter Tryz.func85, Tryz.ntmps85
 go_wp2_with fail
 go_end0
 exact ⟨rfl, HD.out.b, HD.out.u⟩
theorem rep_bad (d a pb : Nat) (s : St) (i : Ins) (M : Mem) (w : World) (h : Yp w d a pb s i M) (hrep : i.rep = true) (hc : 0 < s.R 1) (M2 : Mem) (F : Flt) (hj : ∀ w1, Yp w1 d a pb s i M → Calls Tryz.prog 118 #[.pointer (some ⟨d, 0, none⟩)] w1 fun e w' => e = .panicked [{ v := .iface 35 (F).val, recovered := false }] ∧ Yl w' a pb (M2) ∧ Upd [d, pb] w1 w') :
  Calls Tryz.prog 85 #[.pointer (some ⟨d, 0, none⟩)] w fun e w' => e = .panicked [{ v := .iface 35 (F).val, recovered := false }] ∧ Yl w' a pb (M2) ∧ Upd [d, pb] w w' := by
 have HD := Yh_ (Dq.of h)
 have c32 : w.cell? ⟨d, 32, none⟩ = some (.bool i.rep) := h.cell 32
 rw [hrep] at c32
 have c2 : w.cell? ⟨d, 2, none⟩ = some (.int .u32 (s.R 1)) := h.cR 1 (by decide)
 have e0 : decide (0 < s.R 1) = true := by simpa using hc
 have HJ := Yh_ hj
 clear hj hrep hc
 clear h
 go_enter Tryz.func85, Tryz.ntmps85
 go_wp2_with (have _t := HD; clear _t; go_at_call 118; refine (HJ.out _ HD.out.b).mono ?_; rintro e w4 ⟨rfl, hd, hu⟩; have H4 := Yh_ (And.intro hd (HD.out.u.also hu (fun x hx => .inl hx))); clear hd hu HD)
 exact ⟨rfl, rfl, H4.out.1, H4.out.2⟩
theorem rep_last (d a pb : Nat) (s : St) (i : Ins) (M : Mem) (w : World) (h : Yp w d a pb s i M) (hrep : i.rep = true) (hc : 0 < s.R 1) (s2 : St) (M2 : Mem) (hj : ∀ w1, Yp w1 d a pb s i M → Calls Tryz.prog 118 #[.pointer (some ⟨d, 0, none⟩)] w1 fun e w' => e = .returned (.tuple #[]) ∧ Yp w' d a pb (s2) i (M2) ∧ Upd [d, pb] w1 w') (hl : ((s2.R 1 - 1) % 4294967296) = 0) :
  Calls Tryz.prog 85 #[.pointer (some ⟨d, 0, none⟩)] w fun e w' => e = .returned (.tuple #[]) ∧ Yp w' d a pb ((s2.setR 1 ((s2.R 1 - 1) % 4294967296))) i (M2) ∧ Upd [d, pb] w w' := by
 have HD := Yh_ (Dq.of h)
 have c32 : w.cell? ⟨d, 32, none⟩ = some (.bool i.rep) := h.cell 32
 rw [hrep] at c32
 have c2 : w.cell? ⟨d, 2, none⟩ = some (.int .u32 (s.R 1)) := h.cR 1 (by decide)
 have e0 : decide (0 < s.R 1) = true := by simpa using hc
 have HJ := Yh_ hj
 clear hj hrep hc
 have e1 : decide (0 < ((s2.R 1 - 1) % 4294967296)) = false := by rw [hl]; rfl
 clear hl
 clear h
 go_enter Tryz.func85, Tryz.ntmps85
 go_wp2_with (have _t := HD; clear _t; go_at_call 118; refine (HJ.out _ HD.out.b).mono ?_; rintro e w4 ⟨rfl, hd, hu⟩; have H4 := Yh_ (HD.out.next hd hu); clear c2 c32; have c2 : w4.cell? ⟨d, 2, none⟩ = some (.int .u32 (s2.R 1)) := H4.out.b.cR 1 (by decide); clear hd hu HD)
 refine Yaq 11 (Dq w d a pb s2 i M2 []) (fun _ _ => False) (by kernel_rfl) (by decide +kernel) H4.out.drew (fun _ _ _ h => h.elim) ?_
 simp only [List.take_succ_cons, List.take_zero, List.drop_succ_cons, List.drop_zero]
 iterate 11
  apply Yaa rfl rfl
  ·intro K hK w5 hB1
   have c2 : w5.cell? ⟨d, 2, none⟩ = some (.int .u32 (s2.R 1)) := hB1.b.cR 1 (by decide)
   have HB := Yh_ hB1
   clear hB1
   go_wp2_with fail
   first
   |exact hK _ HB.out
   |exact HB.out
  ·exact ⟨_, rfl⟩
 refine Yaf (fun _ w6 hB1 => ?_)
 have c2 : w6.cell? ⟨d, 2, none⟩ = some (.int .u32 (s2.R 1)) := hB1.b.cR 1 (by decide)
 have f6 := hB1.b.free
 have H6 := Yh_ hB1
 clear hB1 H4
 go_wp2_with fail
 go_end0
 have H7 := H6.out.next (s2 := (s2.setR 1 ((s2.R 1 - 1) % 4294967296))) (H6.out.b.setR 1 (by decide) ((s2.R 1 - 1) % 4294967296) (by omega)) ((Upd.refl [d, pb] w6).setCell (p := ⟨d, 2, none⟩) (.inl (by simp)) _)
 exact ⟨rfl, H7.b, H7.u⟩
theorem rep_more (d a pb : Nat) (s : St) (i : Ins) (M : Mem) (w : World) (h : Yp w d a pb s i M) (hrep : i.rep = true) (hc : 0 < s.R 1) (s2 : St) (M2 : Mem) (hj : ∀ w1, Yp w1 d a pb s i M → Calls Tryz.prog 118 #[.pointer (some ⟨d, 0, none⟩)] w1 fun e w' => e = .returned (.tuple #[]) ∧ Yp w' d a pb (s2) i (M2) ∧ Upd [d, pb] w1 w') (hl : 0 < ((s2.R 1 - 1) % 4294967296)) :
  Calls Tryz.prog 85 #[.pointer (some ⟨d, 0, none⟩)] w fun e w' => e = .returned (.tuple #[]) ∧ Yp w' d a pb ({ (s2.setR 1 ((s2.R 1 - 1) % 4294967296)) with pc := ((s2.pc - i.len) % 4294967296) }) i (M2) ∧ Upd [d, pb] w w' := by
 have HD := Yh_ (Dq.of h)
 have c32 : w.cell? ⟨d, 32, none⟩ = some (.bool i.rep) := h.cell 32
 rw [hrep] at c32
 have c2 : w.cell? ⟨d, 2, none⟩ = some (.int .u32 (s.R 1)) := h.cR 1 (by decide)
 have e0 : decide (0 < s.R 1) = true := by simpa using hc
 have HJ := Yh_ hj
 clear hj hrep hc
 have e1 : decide (0 < ((s2.R 1 - 1) % 4294967296)) = true := by simpa using hl
 clear hl
 clear h
 go_enter Tryz.func85, Tryz.ntmps85
 go_wp2_with (have _t := HD; clear _t; go_at_call 118; refine (HJ.out _ HD.out.b).mono ?_; rintro e w4 ⟨rfl, hd, hu⟩; have H4 := Yh_ (HD.out.next hd hu); clear c2 c32; have c2 : w4.cell? ⟨d, 2, none⟩ = some (.int .u32 (s2.R 1)) := H4.out.b.cR 1 (by decide); clear hd hu HD)
 refine Yaq 11 (Dq w d a pb s2 i M2 []) (fun _ _ => False) (by kernel_rfl) (by decide +kernel) H4.out.drew (fun _ _ _ h => h.elim) ?_
 simp only [List.take_succ_cons, List.take_zero, List.drop_succ_cons, List.drop_zero]
 iterate 11
  apply Yaa rfl rfl
  ·intro K hK w5 hB1
   have c2 : w5.cell? ⟨d, 2, none⟩ = some (.int .u32 (s2.R 1)) := hB1.b.cR 1 (by decide)
   have HB := Yh_ hB1
   clear hB1
   go_wp2_with fail
   first
   |exact hK _ HB.out
   |exact HB.out
  ·exact ⟨_, rfl⟩
 refine Yaf (fun _ w6 hB1 => ?_)
 have c2 : w6.cell? ⟨d, 2, none⟩ = some (.int .u32 (s2.R 1)) := hB1.b.cR 1 (by decide)
 have f6 := hB1.b.free
 have H6 := Yh_ hB1
 clear hB1 H4
 go_wp2_with fail
 have H7 := Yh_ (H6.out.next (s2 := (s2.setR 1 ((s2.R 1 - 1) % 4294967296))) (H6.out.b.setR 1 (by decide) ((s2.R 1 - 1) % 4294967296) (by omega)) ((Upd.refl [d, pb] w6).setCell (p := ⟨d, 2, none⟩) (.inl (by simp)) _))
 clear H6 c2 f6
 refine Yaq 15 (Dq w d a pb (s2.setR 1 ((s2.R 1 - 1) % 4294967296)) i M2 []) (fun _ _ => False) (by kernel_rfl) (by decide +kernel) H7.out.drew (fun _ _ _ h => h.elim) ?_
 simp only [List.take_succ_cons, List.take_zero, List.drop_succ_cons, List.drop_zero]
 iterate 15
  apply Yaa rfl rfl
  ·intro K hK w5 hB1
   have c9 : w5.cell? ⟨d, 9, none⟩ = some (.int .u32 s2.pc) := hB1.b.cell 9; have c33 : w5.cell? ⟨d, 33, none⟩ = some (.int .i64 i.len) := hB1.b.cell 33
   have HB := Yh_ hB1
   clear hB1
   go_wp2_with fail
   first
   |exact hK _ HB.out
   |exact HB.out
  ·exact ⟨_, rfl⟩
 refine Yaf (fun _ w8 hB1 => ?_)
 have c9 : w8.cell? ⟨d, 9, none⟩ = some (.int .u32 s2.pc) := hB1.b.cell 9
 have f8 := hB1.b.free
 have H8 := Yh_ hB1
 clear hB1 H7
 go_wp2_with fail
 go_end0
 exact ⟨rfl, H8.out.b.set (s' := { (s2.setR 1 ((s2.R 1 - 1) % 4294967296)) with pc := ((s2.pc - i.len) % 4294967296) }) (o := 9) rfl ⟨H8.out.b.ok.R, by dsimp only; omega, H8.out.b.ok.f⟩, H8.out.u.setCell (p := ⟨d, 9, none⟩) (.inl (by simp)) _⟩
section
structure AlW (w : World) (f g : Fl) (w1 : World) : Prop where
 z7 : w1.heap[w.heap.size]? = some (.cells f.cells 25 (0, 0))
 z9 : w1.heap[w.heap.size + 1]? = some (.cells Fl.zero.cells 25 (0, 0))
 z10 : w1.heap[w.heap.size + 1 + 1]? = some (.cells g.cells 25 (0, 0))
 u : Upd [] w w1
section
variable {w w1 w2 : World} {f g : Fl}
theorem AlW.of (w : World) (f g : Fl) : AlW w f g (((w.alloc (.cells f.cells 25)).alloc (.cells Fl.zero.cells 25)).alloc (.cells g.cells 25)) := by
 have h2 := heap_alloc_new ((w.alloc (.cells f.cells 25)).alloc (.cells Fl.zero.cells 25)) (.cells g.cells 25)
 rw [show ((w.alloc (.cells f.cells 25)).alloc (.cells Fl.zero.cells 25)).heap.size = w.heap.size + 1 + 1 from by simp] at h2
 exact ⟨Yk _ (heap_alloc2_old _ _ _), Yk _ (heap_alloc2_new _ _ _), h2, (((Upd.refl [] w).alloc _).alloc _).alloc _⟩
theorem AlW.drew (h : AlW w f g w1) : AlW w f g w1.drew := by
 have u := (Upd.refl [] w1).drew
 exact ⟨u.get h.z7 (by simp), u.get h.z9 (by simp), u.get h.z10 (by simp), h.u.drew⟩
theorem AlW.quiet (h : AlW w f g w1) (u : Upd [] w1 w2) : AlW w f g w2 := ⟨u.get h.z7 (by simp), u.get h.z9 (by simp), u.get h.z10 (by simp), h.u.also u (by simp)⟩
theorem AlW.put (h : AlW w f g w1) (k : Nat) (x : Bool) (f' : Fl) (he : f.cells.setIfInBounds k (.bool x) = f'.cells) : AlW w f' g (w1.setCell ⟨w.heap.size, k, none⟩ (.bool x)) := by
 have u := (Upd.refl [w.heap.size] w1).setCell (p := ⟨w.heap.size, k, none⟩) (.inl (by simp)) (.bool x)
 exact ⟨by rw [← he]; exact Yf h.z7 k (.bool x), u.get h.z9 (by simp), u.get h.z10 (by simp <;> omega), h.u.setCell (p := ⟨w.heap.size, k, none⟩) (.inr (Nat.le_refl _)) _⟩
theorem AlW.st (h : AlW w f g w1) (x0 x1 x2 x3 x4 x5 : Bool) : AlW w ⟨x0, x1, x2, x3, x4, x5⟩ g ((((((w1.setCell ⟨w.heap.size, 0, none⟩ (.bool x0)).setCell ⟨w.heap.size, 1, none⟩ (.bool x1)).setCell ⟨w.heap.size, 2, none⟩ (.bool x2)).setCell ⟨w.heap.size, 3, none⟩ (.bool x3)).setCell ⟨w.heap.size, 4, none⟩ (.bool x4)).setCell ⟨w.heap.size, 5, none⟩ (.bool x5)) := by
 have u := Ya4 (S := [w.heap.size]) (b := w.heap.size) (Upd.refl _ w1) (.inl (by simp)) (.bool x0) (.bool x1) (.bool x2) (.bool x3) (.bool x4) (.bool x5)
 exact ⟨Ycc h.z7 _ _ _ _ _ _, u.get h.z9 (by simp), u.get h.z10 (by simp <;> omega), Ya4 h.u (.inr (Nat.le_refl _)) _ _ _ _ _ _⟩
end
end
section
structure DrF (w : World) (d a pb cb : Nat) (s : St) (i : Ins) (M : Mem) (f : Nat) (dn : Nat → Bool) (r : Nat → Value) (w1 : World) : Prop where
 b : Yp w1 d a pb s i M
 o : w1.heap[cb]? = some (.cells i.cells 41 (0, 0))
 u : Upd [d, pb] w w1
 y : dn f = true → ∃ g, r f = .pointer (some ⟨g, 0, none⟩) ∧ cb < g ∧ w1.heap[g]? = some (.cells Fl.zero.cells 25 (0, 0))
section
variable {w w1 w2 : World} {d a pb cb : Nat} {s : St} {i : Ins} {M : Mem} {f : Nat} {dn : Nat → Bool} {r : Nat → Value}
theorem DrF.start (h : Yp w1 d a pb s i M) (ho : w1.heap[cb]? = some (.cells i.cells 41 (0, 0))) (u : Upd [d, pb] w w1) (r : Nat → Value) : DrF w d a pb cb s i M f (fun _ => false) r w1.drew :=
 ⟨h.keep (Upd.refl [] _).drew (by simp) (by simp) (by simp), ((Upd.refl [] _).drew).get ho (by simp), u.drew, fun h => (by cases h)⟩
theorem DrF.quiet (h : DrF w d a pb cb s i M f dn r w1) (u : Upd [] w1 w2) (m : Nat) (h1 : f ≠ m) : DrF w d a pb cb s i M f (Yad dn m) r w2 := by
 refine ⟨h.b.keep u (by simp) (by simp) (by simp), u.get h.o (by simp), h.u.also u (by simp), fun hy => ?_⟩
 rw [Yn h1] at hy
 obtain ⟨g, e1, e2, e3⟩ := h.y hy
 exact ⟨g, e1, e2, u.get e3 (by simp)⟩
theorem DrF.same (h : DrF w d a pb cb s i M f dn r w1) (m : Nat) (h1 : f ≠ m) : DrF w d a pb cb s i M f (Yad dn m) r w1 := h.quiet (Upd.refl [] w1) m h1
theorem DrF.lay (h : DrF w d a pb cb s i M f dn r w1) : DrF w d a pb cb s i M f (Yad dn f) (Yck r f (.pointer (some ⟨w1.heap.size, 0, none⟩))) (w1.alloc (.cells #[.bool false, .bool false, .bool false, .bool false, .bool false, .bool false] 25)) := by
 have u := (Upd.refl [] w1).alloc (.cells #[.bool false, .bool false, .bool false, .bool false, .bool false, .bool false] 25)
 exact ⟨h.b.keep u (by simp) (by simp) (by simp), u.get h.o (by simp), h.u.also u (by simp), fun _ => ⟨_, Yfj, Yh h.o, heap_alloc_new _ _⟩⟩
theorem dr_setfl (a : Nat) (s : St) (i : Ins) (F : Fl) : wr (Ybk a s i) 10 F.cells.toList = Ybk a (s.setFl F) i := by kernel_rfl
theorem Yp.putFl (h : Yp w d a pb s i M) (F : Fl) : Yp (w.setCells d 10 F.cells.toList) d a pb (s.setFl F) i M := by
 refine ⟨?_, h.m.keep ((Upd.refl [d] w).setCells (.inl (by simp)) _ _) (by simpa using fun e => h.na e.symm) (by simpa using fun e => h.np e.symm), ⟨h.ok.R, h.ok.pc, h.ok.f⟩, h.io, h.na, h.np⟩
 rw [Yz _ _ _ _ h.h, dr_setfl]
theorem fl_one (F : Fl) : F.cells.all (·.oneCell') = true := by simp [Fl.cells, Value.oneCell']
theorem fl_new {g : Nat} {F G : Fl} {t : TypeId} (hw : w.setCells g 0 F.cells.toList = w2) (hb : w.heap[g]? = some (.cells G.cells t (0, 0))) : w2.heap[g]? = some (.cells F.cells t (0, 0)) ∧ Upd [g] w w2 := by
 subst hw
 exact ⟨by rw [Yz _ _ _ _ hb]; rfl, (Upd.refl [g] w).setCells (.inl (by simp)) _ _⟩
end
theorem Ylb (d a pb : Nat) (s : St) (i : Ins) (M : Mem) (w : World) (h : Yp w d a pb s i M) (hop : 12 ≤ i.op ∧ i.op ≤ 15) (hc : Yfb M s i.a 4 3 = true) (hr : opK M s i.a 4 = true)
  (hw : Ydb M (s.setFl (Ya9 i.op (opV M s i.a 4) 0 s.fl)) i.a 4 = true) :
  Calls Tryz.prog 32 #[.pointer (some ⟨d, 0, none⟩)] w fun e w' => e = .returned (.tuple #[]) ∧ Yp w' d a pb (opS (s.setFl (Ya9 i.op (opV M s i.a 4) 0 s.fl)) i.a 4 (Ybr i.op (opV M s i.a 4) 0 s.fl)) i (opM M (s.setFl (Ya9 i.op (opV M s i.a 4) 0 s.fl)) i.a 4 (Ybr i.op (opV M s i.a 4) 0 s.fl)) ∧ Upd [d, pb] w w' := by
 have HRV := Yh_ (Ygs h i.a h.io.a 4)
 have HD := Yh_ h
 have tokL : True := trivial
 have tokS : True := trivial
 obtain ⟨op, ho⟩ : ∃ op, i.op = op := ⟨_, rfl⟩
 rw [ho] at hop hw ⊢
 have e1 : decide (3 ≤ op) = true := by simp; omega
 have e2 : decide (op ≤ 11) = false := by simp; omega
 have e3 : decide (12 ≤ op) = true := by simp; omega
 have e4 : decide (op ≤ 15) = true := by simp; omega
 have HI := Yh_ h.io
 have HOP := Yh_ (show Yh8 op = true by simp only [Yh8, Bool.and_eq_true, decide_eq_true_eq]; omega)
 obtain ⟨v, hv⟩ : ∃ v, opV M s i.a 4 = v := ⟨_, rfl⟩
 rw [hv] at hw HRV ⊢
 obtain ⟨V, hV⟩ : ∃ V, Ybr op v 0 s.fl = V := ⟨_, rfl⟩
 have HVR := Yh_ (show 0 ≤ V ∧ V < 4294967296 from hV ▸ Yn6 op v 0 s.fl HRV.out (by decide))
 obtain ⟨⟨x0, x1, x2, x3, x4, x5⟩, hF⟩ : ∃ F, Ya9 op v 0 s.fl = F := ⟨_, rfl⟩
 rw [hF] at hw ⊢
 rw [hV]
 have HC := Yh_ (And.intro hc (And.intro hr (And.intro hw (And.intro hv (And.intro hV hF)))))
 have HCC := Yh_ hc
 clear h hop hc hr hw hv hV hF
 go_enter Tryz.func32, Tryz.ntmps32
 go_wp2_with (first | (have _t := tokL; clear _t tokL; refine Yaj 41 rfl ?_; refine wpList_load_mid rfl 41 _ rfl d 18 rfl i.cells.toList _ HD.out.ri Tryz.underlying41 rfl (by rw [Array.length_toList, Ins.size]; exact Ybx) ?_; rw [Array.toArray_toList]) | (have _t := tokS; clear _t tokS; refine Yd 41 rfl ?_; refine Yc i w.heap.size rfl _ _ rfl rfl rfl (heap_alloc_new w (.cells Ins.zero.cells 41)) rfl ?_; intro w3 hw; have h3 := Yea HD.out hw; have ci := Ya h3.2.1; unfold Ins.cells at ci; have H3 := Yh_ h3; clear hw h3) | (have _t := H3; clear _t; go_at_call 46; refine (dboth_ok d a pb s i M i.a _ H3.out.1 HCC.out).mono ?_; rintro e w4 ⟨rfl, hu⟩; have H4 := Yh_ (And.intro (H3.out.1.keep hu (by simp) (by simp) (by simp)) (And.intro (hu.get H3.out.2.1 (by simp)) (H3.out.2.2.also hu (by simp)))); clear hu H3 ci))
 refine Ybn 16 (DrF w d a pb w.heap.size s i M 14) (fun _ _ => False) (by kernel_rfl) (by decide +kernel) (fun r0 => DrF.start H4.out.1 H4.out.2.1 H4.out.2.2 r0) (fun _ _ _ h => h.elim) ?_
 simp only [List.take_succ_cons, List.take_zero, List.drop_succ_cons, List.drop_zero]
 iterate 4
  apply Ym rfl rfl
  ·intro dn r0 K hd hdep hK w5 hB1
   have c10 : w5.cell? ⟨d, 10, none⟩ = some (.bool s.cf) := hB1.b.cell 10
   have c11 : w5.cell? ⟨d, 11, none⟩ = some (.bool s.pf) := hB1.b.cell 11
   have c12 : w5.cell? ⟨d, 12, none⟩ = some (.bool s.af) := hB1.b.cell 12
   have c13 : w5.cell? ⟨d, 13, none⟩ = some (.bool s.zf) := hB1.b.cell 13
   have c14 : w5.cell? ⟨d, 14, none⟩ = some (.bool s.sf) := hB1.b.cell 14
   have c15 : w5.cell? ⟨d, 15, none⟩ = some (.bool s.of_) := hB1.b.cell 15
   have ci := Ya hB1.o
   unfold Ins.cells at ci
   have HB := Yh_ hB1
   clear hB1 hdep
   go_wp2_with fail
   first
   |exact hK _ (HB.out.same _ (by decide))
   |exact HB.out.same _ (by decide)
  ·exact ⟨_, rfl⟩
 apply Ym rfl rfl
 ·intro dn r0 K hd hdep hK w5 hB1
  have HB := Yh_ hB1
  clear hB1 hdep
  go_wp2_with (go_at_call 48; refine (Yhp d a pb s i M i.a 4 _ HB.out.b HI.out.a HC.out.2.1).mono ?_; rintro e w6 ⟨rfl, hu⟩; rw [HC.out.2.2.2.1])
  first
  |exact hK _ (HB.out.quiet hu _ (by decide))
  |exact HB.out.quiet hu _ (by decide)
 ·exact ⟨_, rfl⟩
 iterate 5
  apply Ym rfl rfl
  ·intro dn r0 K hd hdep hK w5 hB1
   have c10 : w5.cell? ⟨d, 10, none⟩ = some (.bool s.cf) := hB1.b.cell 10
   have c11 : w5.cell? ⟨d, 11, none⟩ = some (.bool s.pf) := hB1.b.cell 11
   have c12 : w5.cell? ⟨d, 12, none⟩ = some (.bool s.af) := hB1.b.cell 12
   have c13 : w5.cell? ⟨d, 13, none⟩ = some (.bool s.zf) := hB1.b.cell 13
   have c14 : w5.cell? ⟨d, 14, none⟩ = some (.bool s.sf) := hB1.b.cell 14
   have c15 : w5.cell? ⟨d, 15, none⟩ = some (.bool s.of_) := hB1.b.cell 15
   have ci := Ya hB1.o
   unfold Ins.cells at ci
   have HB := Yh_ hB1
   clear hB1 hdep
   go_wp2_with fail
   first
   |exact hK _ (HB.out.same _ (by decide))
   |exact HB.out.same _ (by decide)
  ·exact ⟨_, rfl⟩
 apply Ym rfl rfl
 ·intro dn r0 K hd hdep hK w5 hB1
  have HB := Yh_ hB1
  clear hB1 hdep
  go_wp2_with (go_at_call 47; refine (Yob op v 0 s.fl _ HOP.out HRV.out (by decide)).mono ?_; rintro e w6 ⟨rfl, hu⟩; rw [HC.out.2.2.2.2.1, HC.out.2.2.2.2.2]; unfold Fl.cells)
  first
  |exact hK _ (HB.out.quiet hu _ (by decide))
  |exact HB.out.quiet hu _ (by decide)
 ·exact ⟨_, rfl⟩
 iterate 3
  apply Ym rfl rfl
  ·intro dn r0 K hd hdep hK w5 hB1
   have c10 : w5.cell? ⟨d, 10, none⟩ = some (.bool s.cf) := hB1.b.cell 10
   have c11 : w5.cell? ⟨d, 11, none⟩ = some (.bool s.pf) := hB1.b.cell 11
   have c12 : w5.cell? ⟨d, 12, none⟩ = some (.bool s.af) := hB1.b.cell 12
   have c13 : w5.cell? ⟨d, 13, none⟩ = some (.bool s.zf) := hB1.b.cell 13
   have c14 : w5.cell? ⟨d, 14, none⟩ = some (.bool s.sf) := hB1.b.cell 14
   have c15 : w5.cell? ⟨d, 15, none⟩ = some (.bool s.of_) := hB1.b.cell 15
   have ci := Ya hB1.o
   unfold Ins.cells at ci
   have HB := Yh_ hB1
   clear hB1 hdep
   go_wp2_with fail
   first
   |exact hK _ (HB.out.same _ (by decide))
   |exact HB.out.same _ (by decide)
  ·exact ⟨_, rfl⟩
 refine Ybc rfl (fun _ => rfl) 5 rfl (by simp [Act.put]) ?_ ?_
 ·intro dn r0 K hd w5 hB1 hK
  have HB := Yh_ hB1
  clear hB1
  simp only [Yu]
  go_wp2_with fail
  first
  |exact hK (.pointer (some ⟨w5.heap.size, 0, none⟩)) _ HB.out.lay
  |exact HB.out.lay
 iterate 1
  apply Ycw rfl (fun _ => rfl)
  ·intro dn r0 K hd hdep hK w5 hB1
   have c10 : w5.cell? ⟨d, 10, none⟩ = some (.bool s.cf) := hB1.b.cell 10
   have c11 : w5.cell? ⟨d, 11, none⟩ = some (.bool s.pf) := hB1.b.cell 11
   have c12 : w5.cell? ⟨d, 12, none⟩ = some (.bool s.af) := hB1.b.cell 12
   have c13 : w5.cell? ⟨d, 13, none⟩ = some (.bool s.zf) := hB1.b.cell 13
   have c14 : w5.cell? ⟨d, 14, none⟩ = some (.bool s.sf) := hB1.b.cell 14
   have c15 : w5.cell? ⟨d, 15, none⟩ = some (.bool s.of_) := hB1.b.cell 15
   have ci := Ya hB1.o
   unfold Ins.cells at ci
   have HB := Yh_ hB1
   clear hB1 hdep
   simp only [Yu]
   go_wp2_with fail
   first
   |exact hK _ (HB.out.same _ (by decide))
   |exact HB.out.same _ (by decide)
  ·exact ⟨_, fun _ => rfl, rfl⟩
 refine Ybf (fun _ r0 w5 dn hall hB1 => ?_)
 obtain ⟨g, e1', e2', e3'⟩ := hB1.y (hall 14 (by decide))
 have ci := Ya hB1.o
 unfold Ins.cells at ci
 have hcb := Yh HD.out.h
 have hpb : pb < w.heap.size := by obtain ⟨C, _, hc⟩ := HD.out.m.pg; exact Yh hc
 have hab : a < w.heap.size := by obtain ⟨C, _, hc⟩ := HD.out.m.hd; exact Yh hc
 have H5 := Yh_ (And.intro hB1.b (And.intro hB1.o (And.intro hB1.u (And.intro e3' (And.intro e2' (And.intro hcb (And.intro hpb hab)))))))
 clear hB1 e3' hall e2' hcb hpb hab
 show wpList _ _ _ _ (Act.put (Yu _ _ [] _) (some 5) (r0 14)) _
 rw [e1']
 simp only [Yu]
 clear e1'
 go_wp2_with (first | (have _t := H5; clear _t; refine Yd 25 rfl ?_; refine Yez rfl 25 _ _ rfl g 0 (Fl.cells ⟨x0, x1, x2, x3, x4, x5⟩) rfl rfl H5.out.2.2.2.1 (show 0 + 6 ≤ 6 by decide) Yio (fl_one _) ?_; intro w6 hw; have h6 := fl_new hw H5.out.2.2.2.1; have hl := H5.out.2.2.2.2; have cg := Ya h6.1; unfold Fl.cells at cg; have H6 := Yh_ (And.intro (H5.out.1.keep h6.2 (by simp; omega) (by simp; omega) (by simp; omega)) (And.intro (h6.2.get H5.out.2.1 (by simp; omega)) (H5.out.2.2.1.also (S' := [g]) h6.2 (by simp; omega)))); clear hw h6 hl H5 ci) | (have _t := H6; clear _t; refine Yd 25 rfl ?_; refine wpList_store_mid rfl 25 _ _ rfl d 10 (Fl.cells ⟨x0, x1, x2, x3, x4, x5⟩) rfl rfl (Ydt H6.out.1.h 10 6 (by rw [Ynp]; decide)) Yio (fl_one _) ?_; have u7 : Upd [d] w6 (w6.setCells d 10 (Fl.cells ⟨x0, x1, x2, x3, x4, x5⟩).toList) := (Upd.refl [d] w6).setCells (.inl (by simp)) _ _; have hcb := Yh HD.out.h; have hi7 := u7.get H6.out.2.1 (by simp; omega); have ci := Ya hi7; unfold Ins.cells at ci; have H7 := Yh_ (And.intro (H6.out.1.putFl ⟨x0, x1, x2, x3, x4, x5⟩) (H6.out.2.2.also u7 (by simp))); clear u7 hcb hi7 H6 cg) | (have _t := H7; clear _t; go_at_call 49; refine (Yoo d a pb _ i M i.a 4 V _ H7.out.1 HI.out.a HVR.out HC.out.2.2.1).mono ?_; rintro e w8 ⟨rfl, hd, hu⟩; have H8 := Yh_ (And.intro hd (H7.out.2.also hu (fun x hx => .inl hx))); clear hd hu H7))
 go_end0
 exact ⟨rfl, H8.out.1, H8.out.2⟩
end
theorem Dq.copy {w w3 : World} {d a pb : Nat} {s : St} {i : Ins} {M : Mem} (h : Yp w d a pb s i M) (hw : (w.alloc (.cells Ins.zero.cells 41)).setCells w.heap.size 0 i.cells.toList = w3) : Dq w d a pb s i M [(w.heap.size, .cells i.cells 41 (0, 0))] w3 := by
 have h3 := Yea h hw
 have hpb : pb < w.heap.size := by obtain ⟨C, _, hc⟩ := h.m.pg; exact Yh hc
 have hd := h.lt
 exact ⟨h3.1, fun p hp => by rw [List.mem_singleton.1 hp]; exact h3.2.1, h3.2.2, fun p hp => by rw [List.mem_singleton.1 hp]; dsimp only; omega⟩
theorem Dq.putFl {w w1 : World} {d a pb : Nat} {s : St} {i : Ins} {M : Mem} {L : List (Nat × Obj)} (h : Dq w d a pb s i M L w1) (F : Fl) : Dq w d a pb (s.setFl F) i M L (w1.setCells d 10 F.cells.toList) :=
 h.next (h.b.putFl F) ((Upd.refl [d, pb] w1).setCells (.inl (by simp)) _ _)
theorem Ymv (d a pb : Nat) (s : St) (i : Ins) (M : Mem) (w : World) (h : Yp w d a pb s i M) (hop : 34 ≤ i.op ∧ i.op ≤ 44) (s2 : St) (M2 : Mem) (hj : ∀ w1, Yp w1 d a pb s i M → Calls Tryz.prog 54 #[.pointer (some ⟨d, 0, none⟩)] w1 fun e w' => e = .returned (.tuple #[]) ∧ Yp w' d a pb (s2) i (M2) ∧ Upd [d, pb] w1 w') :
  Calls Tryz.prog 32 #[.pointer (some ⟨d, 0, none⟩)] w fun e w' => e = .returned (.tuple #[]) ∧ Yp w' d a pb (s2) i (M2) ∧ Upd [d, pb] w w' := by
 have HI := Yh_ h.io
 have HD := Yh_ h
 have tokL : True := trivial
 have tokS : True := trivial
 obtain ⟨op, ho⟩ : ∃ op, i.op = op := ⟨_, rfl⟩
 rw [ho] at hop
 have e0 : decide (3 ≤ op) = true := by simp; omega
 have e1 : decide (op ≤ 11) = false := by simp; omega
 have e2 : decide (12 ≤ op) = true := by simp; omega
 have e3 : decide (op ≤ 15) = false := by simp; omega
 have e4 : decide (21 ≤ op) = true := by simp; omega
 have e5 : decide (op ≤ 25) = false := by simp; omega
 have e6 : decide (16 ≤ op) = true := by simp; omega
 have e7 : decide (op ≤ 20) = false := by simp; omega
 have e8 : decide (45 ≤ op) = false := by simp; omega
 have e9 : decide (28 ≤ op) = true := by simp; omega
 have e10 : decide (op ≤ 33) = false := by simp; omega
 have HJ := Yh_ hj
 clear h hj hop
 go_enter Tryz.func32, Tryz.ntmps32
 go_wp2_with (first | (have _t := tokL; clear _t tokL; refine Yaj 41 rfl ?_; refine wpList_load_mid rfl 41 _ rfl d 18 rfl i.cells.toList _ HD.out.ri Tryz.underlying41 rfl (by rw [Array.length_toList, Ins.size]; exact Ybx) ?_; rw [Array.toArray_toList]) | (have _t := tokS; clear _t tokS; refine Yd 41 rfl ?_; refine Yc i w.heap.size rfl _ _ rfl rfl rfl (heap_alloc_new w (.cells Ins.zero.cells 41)) rfl ?_; intro w3 hw; have h3 := Dq.copy HD.out hw; have ci := h3.ins; unfold Ins.cells at ci; have H3 := Yh_ h3; clear hw h3) | (have _t := H3; clear _t; go_at_call 54; refine (HJ.out _ H3.out.b).mono ?_; rintro e w5 ⟨rfl, hd, hu⟩; have H5 := Yh_ (And.intro hd (H3.out.u.also hu (fun x hx => .inl hx))); clear hd hu H3 ci))
 go_end0
 exact ⟨rfl, H5.out.1, H5.out.2⟩
theorem Ykc (d a pb : Nat) (s : St) (i : Ins) (M : Mem) (w : World) (h : Yp w d a pb s i M) (hop : 34 ≤ i.op ∧ i.op ≤ 44) (M2 : Mem) (F : Flt) (hj : ∀ w1, Yp w1 d a pb s i M → Calls Tryz.prog 54 #[.pointer (some ⟨d, 0, none⟩)] w1 fun e w' => e = .panicked [{ v := .iface 35 (F).val, recovered := false }] ∧ Yl w' a pb (M2) ∧ Upd [d, pb] w1 w') :
  Calls Tryz.prog 32 #[.pointer (some ⟨d, 0, none⟩)] w fun e w' => e = .panicked [{ v := .iface 35 (F).val, recovered := false }] ∧ Yl w' a pb (M2) ∧ Upd [d, pb] w w' := by
 have HI := Yh_ h.io
 have HD := Yh_ h
 have tokL : True := trivial
 have tokS : True := trivial
 obtain ⟨op, ho⟩ : ∃ op, i.op = op := ⟨_, rfl⟩
 rw [ho] at hop
 have e0 : decide (3 ≤ op) = true := by simp; omega
 have e1 : decide (op ≤ 11) = false := by simp; omega
 have e2 : decide (12 ≤ op) = true := by simp; omega
 have e3 : decide (op ≤ 15) = false := by simp; omega
 have e4 : decide (21 ≤ op) = true := by simp; omega
 have e5 : decide (op ≤ 25) = false := by simp; omega
 have e6 : decide (16 ≤ op) = true := by simp; omega
 have e7 : decide (op ≤ 20) = false := by simp; omega
 have e8 : decide (45 ≤ op) = false := by simp; omega
 have e9 : decide (28 ≤ op) = true := by simp; omega
 have e10 : decide (op ≤ 33) = false := by simp; omega
 have HJ := Yh_ hj
 clear h hj hop
 go_enter Tryz.func32, Tryz.ntmps32
 go_wp2_with (first | (have _t := tokL; clear _t tokL; refine Yaj 41 rfl ?_; refine wpList_load_mid rfl 41 _ rfl d 18 rfl i.cells.toList _ HD.out.ri Tryz.underlying41 rfl (by rw [Array.length_toList, Ins.size]; exact Ybx) ?_; rw [Array.toArray_toList]) | (have _t := tokS; clear _t tokS; refine Yd 41 rfl ?_; refine Yc i w.heap.size rfl _ _ rfl rfl rfl (heap_alloc_new w (.cells Ins.zero.cells 41)) rfl ?_; intro w3 hw; have h3 := Dq.copy HD.out hw; have ci := h3.ins; unfold Ins.cells at ci; have H3 := Yh_ h3; clear hw h3) | (have _t := H3; clear _t; go_at_call 54; refine (HJ.out _ H3.out.b).mono ?_; rintro e w5 ⟨rfl, hd, hu⟩; have H5 := Yh_ (And.intro hd (H3.out.u.also hu (fun x hx => .inl hx))); clear hd hu H3 ci))
 exact ⟨rfl, rfl, H5.out.1, H5.out.2⟩
section
def mS (s : St) (x y : Int) (b1 b2 : Bool) : St := let t := if b1 = true then s.setR 0 x else s; if b2 = true then t.setR 2 y else t
theorem mS_comm (s : St) (x y : Int) : (s.setR 2 y).setR 0 x = (s.setR 0 x).setR 2 y := by
 unfold St.setR
 dsimp only
 congr 1
 funext j
 by_cases h0 : j = 0
 ·simp [h0]
 ·simp [h0]
theorem mS_first (s : St) (x y : Int) (b : Bool) : (mS s x y false b).setR 0 x = mS s x y true b := by
 cases b
 ·rfl
 ·exact mS_comm s x y
theorem mS_R0 (s : St) (x y : Int) (b2 : Bool) : (mS s x y false b2).R 0 = s.R 0 := by cases b2 <;> rfl
structure D9 (w : World) (d a pb : Nat) (s : St) (i : Ins) (M : Mem) (x y : Int) (dn : Nat → Bool) (w1 : World) : Prop where
 i1 : dn 18 = true → dn 11 = true
 i2 : dn 19 = true → dn 18 = true
 i3 : dn 20 = true → dn 19 = true
 i4 : dn 25 = true → dn 11 = true
 q : Dq w d a pb (mS s x y (dn 25) (dn 28)) i M [] w1
theorem Yfa {dn : Nat → Bool} {p q : Nat} (h : dn p = true → dn q = true) (j : Nat) (hj : p ≠ j) : Yad dn j p = true → Yad dn j q = true := by
 rw [Yn hj]
 intro hp
 by_cases e : q = j
 ·rw [e]; exact Ycy
 ·rw [Yn e]; exact h hp
theorem imp_at {dn : Nat → Bool} {p q : Nat} (h : dn q = true) : Yad dn p p = true → Yad dn p q = true := by
 intro _
 by_cases e : q = p
 ·rw [e]; exact Ycy
 ·rw [Yn e]; exact h
section
variable {w w1 w2 : World} {d a pb : Nat} {s : St} {i : Ins} {M : Mem} {x y : Int} {dn : Nat → Bool}
theorem D9.start (h : Dq w d a pb s i M [] w1) : D9 w d a pb s i M x y (fun _ => false) w1.drew :=
 ⟨fun h => (by cases h), fun h => (by cases h), fun h => (by cases h), fun h => (by cases h), h.drew⟩
theorem D9.same (h : D9 w d a pb s i M x y dn w1) (u : Upd [] w1 w2) (j : Nat) (h1 : 18 ≠ j) (h2 : 19 ≠ j) (h3 : 20 ≠ j) (h4 : 25 ≠ j) (h5 : 28 ≠ j) : D9 w d a pb s i M x y (Yad dn j) w2 :=
 ⟨Yfa h.i1 j h1, Yfa h.i2 j h2, Yfa h.i3 j h3, Yfa h.i4 j h4, by rw [Yn h4, Yn h5]; exact h.q.quiet u⟩
theorem D9.call (h : D9 w d a pb s i M x y dn w1) (u : Upd [] w1 w2) (hd : dn 11 = true) : D9 w d a pb s i M x y (Yad dn 18) w2 :=
 ⟨imp_at hd, Yfa h.i2 18 (by decide), Yfa h.i3 18 (by decide), Yfa h.i4 18 (by decide), by rw [Yn (by decide), Yn (by decide)]; exact h.q.quiet u⟩
theorem D9.c1 (h : D9 w d a pb s i M x y dn w1) (hd : dn 11 = false) : w1.cell? ⟨d, 1, none⟩ = some (.int .u32 (s.R 0)) := by
 have h0 : dn 25 = false := by
  cases e : dn 25 with
  |false => rfl
  |true => rw [h.i4 e] at hd; cases hd
 have := h.q.b.cR 0 (by decide)
 rw [h0, mS_R0] at this
 exact this
structure D6 (w : World) (d a pb : Nat) (s : St) (i : Ins) (M : Mem) (x : Int) (dn : Nat → Bool) (w1 : World) : Prop where
 q : Dq w d a pb (mS s x 0 (dn 6) false) i M [] w1
theorem D6.start (h : Dq w d a pb s i M [] w1) : D6 w d a pb s i M x (fun _ => false) w1.drew := ⟨h.drew⟩
theorem D6.same (h : D6 w d a pb s i M x dn w1) (j : Nat) (hj : 6 ≠ j) : D6 w d a pb s i M x (Yad dn j) w1 := ⟨by rw [Yn hj]; exact h.q⟩
theorem D6.put (h : D6 w d a pb s i M x dn w1) (h0 : dn 6 = false) (hx : 0 ≤ x ∧ x < 4294967296) : D6 w d a pb s i M x (Yad dn 6) (w1.setCell ⟨d, 1, none⟩ (.int .u32 x)) := by
 have hq := h.q
 rw [h0] at hq
 refine ⟨?_⟩
 rw [Ycy, ← mS_first]
 exact hq.next (hq.b.setR 0 (by decide) x hx) ((Upd.refl [d, pb] w1).setCell (p := ⟨d, 1, none⟩) (.inl (by simp)) _)
end
end
structure Hs where
 x : Nat → Int
 mem : Value
 pc : Int
 why : Int
def Hs.at_ (H : Hs) (k : Nat) : Value := if k < 32 then .int .u32 (H.x k) else if k = 32 then H.mem else if k = 33 then .int .u32 H.pc else .int .u32 H.why
def Hs.cells (H : Hs) : Array Value := (Array.range 35).map H.at_
def Hs.set (H : Hs) (i : Nat) (v : Int) : Hs := { H with x := fun j => if j = i then v else H.x j }
def Hs.get (H : Hs) (i : Int) : Int := if i < 1 ∨ 32 ≤ i then 0 else H.x i.toNat
def Hs.put (H : Hs) (i v : Int) : Hs := if i < 1 ∨ 32 ≤ i then H else H.set i.toNat v
theorem Hs.cell (H : Hs) (k : Nat) (h : k < 35) : H.cells[k]? = some (H.at_ k) := by simp [Hs.cells, h]
theorem Hs.size (H : Hs) : H.cells.size = 35 := by simp [Hs.cells]
def Hs.zero (m : Nat) : Hs := ⟨fun _ => 0, .slice (some ⟨m, 0, none⟩) 32768 32768, 1024, 0⟩
def Hs.two (H : Hs) (i : Int) : Int := H.get (10 + i) + H.get (11 + i) * 4294967296
section
def cS (s : St) (z p : Bool) (b1 b2 : Bool) : St := { s with zf := cond b1 z s.zf, pf := cond b2 p s.pf }
structure D21 (w : World) (d a pb : Nat) (s : St) (i : Ins) (M : Mem) (z p : Bool) (dn : Nat → Bool) (w1 : World) : Prop where
 q : Dq w d a pb (cS s z p (dn 17) (dn 21)) i M [] w1
def mM (M M2 : Mem) (b : Bool) : Mem := cond b M2 M
structure D5 (w : World) (d a pb : Nat) (s : St) (i : Ins) (M M2 : Mem) (n0 : Nat) (V : Array Value) (dn : Nat → Bool) (r : Nat → Value) (w1 : World) : Prop where
 q : Dq w d a pb s i (mM M M2 (dn 17)) [] w1
 b : n0 ≤ w1.heap.size
 lt : (d < n0 ∧ a < n0 ∧ pb < n0) ∧ w.heap.size ≤ n0
 x : dn 21 = true → ∃ g, r 21 = .pointer (some ⟨g, 0, none⟩) ∧ n0 ≤ g ∧ w1.heap[g]? = some (.cells (if dn 22 = true then V else Yac Flt.zero) 35 (0, 0))
 xo : dn 22 = true → dn 21 = true
section
variable {w w1 w2 : World} {d a pb n0 : Nat} {s : St} {i : Ins} {M M2 : Mem} {z p : Bool} {V : Array Value} {dn : Nat → Bool} {r : Nat → Value}
theorem D21.start (h : Dq w d a pb s i M [] w1) : D21 w d a pb s i M z p (fun _ => false) w1.drew := ⟨h.drew⟩
theorem D21.quiet (h : D21 w d a pb s i M z p dn w1) (u : Upd [] w1 w2) (j : Nat) (h1 : 17 ≠ j) (h2 : 21 ≠ j) : D21 w d a pb s i M z p (Yad dn j) w2 := ⟨by rw [Yn h1, Yn h2]; exact h.q.quiet u⟩
theorem D21.next (h : D21 w d a pb s i M z p dn w1) (hd : Yp w2 d a pb (cS s z p (dn 17) (dn 21)) i M) (u : Upd [d, pb] w1 w2) (j : Nat) (h1 : 17 ≠ j) (h2 : 21 ≠ j) : D21 w d a pb s i M z p (Yad dn j) w2 := ⟨by rw [Yn h1, Yn h2]; exact h.q.next hd u⟩
theorem D5.start (h : Dq w d a pb s i M [] w1) (M2 : Mem) (V : Array Value) (r : Nat → Value) : D5 w d a pb s i M M2 w1.heap.size V (fun _ => false) r w1.drew :=
 ⟨h.drew, ((Upd.refl [] w1).drew).size, ⟨⟨h.lts.1, h.lts.2.1, h.lts.2.2.1⟩, h.u.size⟩, fun h => (by cases h), fun h => (by cases h)⟩
theorem D5.quiet (h : D5 w d a pb s i M M2 n0 V dn r w1) (u : Upd [] w1 w2) (j : Nat) (h0 : 17 ≠ j) (h1 : 21 ≠ j) (h2 : 22 ≠ j) : D5 w d a pb s i M M2 n0 V (Yad dn j) r w2 := by
 refine ⟨by rw [Yn h0]; exact h.q.quiet u, Nat.le_trans h.b u.size, h.lt, fun hx => ?_, fun hx => ?_⟩
 ·rw [Yn h1] at hx
  obtain ⟨g, e1, e2, e3⟩ := h.x hx
  exact ⟨g, e1, e2, by rw [Yn h2]; exact u.get e3 (by simp)⟩
 ·rw [Yn h2] at hx; rw [Yn h1]; exact h.xo hx
theorem D5.same (h : D5 w d a pb s i M M2 n0 V dn r w1) (j : Nat) (h0 : 17 ≠ j) (h1 : 21 ≠ j) (h2 : 22 ≠ j) : D5 w d a pb s i M M2 n0 V (Yad dn j) r w1 := h.quiet (Upd.refl [] w1) j h0 h1 h2
theorem D5.call (h : D5 w d a pb s i M M2 n0 V dn r w1) (hm : Yl w2 a pb M2) (u : Upd [pb] w1 w2) : D5 w d a pb s i M M2 n0 V (Yad dn 17) r w2 := by
 have hl := h.lt
 refine ⟨by rw [Ycy]; exact h.q.next (h.q.b.mem u hm) (u.mono (by simp)), Nat.le_trans h.b u.size, h.lt, fun hx => ?_, fun hx => ?_⟩
 ·rw [Yn (by decide)] at hx
  obtain ⟨g, e1, e2, e3⟩ := h.x hx
  exact ⟨g, e1, e2, by rw [Yn (by decide)]; exact u.get e3 (by simp; omega)⟩
 ·rw [Yn (by decide)] at hx; rw [Yn (by decide)]; exact h.xo hx
theorem D5.lay (h : D5 w d a pb s i M M2 n0 V dn r w1) (hd : dn 21 = false) : D5 w d a pb s i M M2 n0 V (Yad dn 21) (Yck r 21 (.pointer (some ⟨w1.heap.size, 0, none⟩))) (w1.alloc (.cells (Yac Flt.zero) 35)) := by
 have hdm : dn 22 = false := by
  cases e : dn 22 with
  |false => rfl
  |true => rw [h.xo e] at hd; cases hd
 have u := (Upd.refl [] w1).alloc (.cells (Yac Flt.zero) 35)
 refine ⟨by rw [Yn (by decide)]; exact h.q.quiet u, Nat.le_trans h.b u.size, h.lt, fun _ => ⟨_, Yfj, h.b, ?_⟩, fun _ => Ycy⟩
 rw [Yn (by decide), hdm]
 exact heap_alloc_new _ _
theorem D5.put (h : D5 w d a pb s i M M2 n0 V dn r w1) (hd : dn 21 = true) {g : Nat} (e1 : r 21 = .pointer (some ⟨g, 0, none⟩)) (hv : ∀ c, (c = V ∨ c = Yac Flt.zero) → wr c 0 V.toList = V) : D5 w d a pb s i M M2 n0 V (Yad dn 22) r (w1.setCells g 0 V.toList) := by
 obtain ⟨g', e1', e2, e3⟩ := h.x hd
 obtain rfl : g' = g := by rw [e1] at e1'; injection e1' with e; injection e with e; injection e with e; exact e.symm
 have u := (Upd.refl [g'] w1).setCells (q := g') (.inl (by simp)) V.toList 0
 have hl := h.lt.1
 refine ⟨by rw [Yn (by decide)]; exact ⟨h.q.b.keep u (by simp; omega) (by simp; omega) (by simp; omega), by simp, h.q.u.also u (fun x hx => .inr (by rw [List.mem_singleton.1 hx]; exact Nat.le_trans h.lt.2 e2)), by simp⟩, Nat.le_trans h.b u.size, h.lt, fun _ => ⟨g', e1, e2, ?_⟩, fun _ => by rw [Yn (by decide)]; exact hd⟩
 rw [Ycy, if_pos rfl, Yz _ _ _ _ e3, hv _ (by split <;> simp)]
end
end
theorem outs_yes (kb sb ub : Nat) (w : World) (hk : w.heap[kb]? = some (.cells #[.bool true] 4 (0, 0))) :
  CallsD Tryz.prog 30 #[.pointer (some ⟨kb, 0, none⟩), .pointer (some ⟨sb, 0, none⟩), .pointer (some ⟨ub, 0, none⟩)] .returning w fun e u' w' => e = .returned (.tuple #[]) ∧ u' = .returning ∧ w = w' := by
 refine callsD_of_wpS Tryz.func30 rfl fun c₀ cs hu => ?_
 simp only [Tryz.ntmps30, List.size_toArray, List.length_cons, List.length_nil, Nat.reduceAdd, Nat.reduceSub, Array.replicate_succ, Array.replicate_zero, List.push_toArray, List.append_toArray, List.nil_append, List.cons_append]
 refine wpS_of_wp ?_
 have ck := Ya hk
 have HU := Yh_ hu
 clear hu hk
 go_wp2_with fail
 refine ⟨rfl, .returning, ?_, _, results_none rfl _ _ _, rfl, rfl, rfl⟩
 rw [← HU.out]
theorem outs_no (kb sb ub : Nat) (s : St) (c : Array Value) (w : World) (hk : w.heap[kb]? = some (.cells #[.bool false] 4 (0, 0))) (hs : w.heap[sb]? = some (.cells s.cells 28 (0, 0))) (hb : w.heap[ub]? = some (.cells c 28 (0, 0))) (hc : c.size = 17) :
  CallsD Tryz.prog 30 #[.pointer (some ⟨kb, 0, none⟩), .pointer (some ⟨sb, 0, none⟩), .pointer (some ⟨ub, 0, none⟩)] .returning w fun e u' w' => e = .returned (.tuple #[]) ∧ u' = .returning ∧ w' = w.setCells ub 0 s.cells.toList := by
 refine callsD_of_wpS Tryz.func30 rfl fun c₀ cs hu => ?_
 simp only [Tryz.ntmps30, List.size_toArray, List.length_cons, List.length_nil, Nat.reduceAdd, Nat.reduceSub, Array.replicate_succ, Array.replicate_zero, List.push_toArray, List.append_toArray, List.nil_append, List.cons_append]
 refine wpS_of_wp ?_
 have ck := Ya hk
 have HU := Yh_ (And.intro hu (And.intro hs hb))
 clear hu hk hs hb
 have tokL : True := trivial
 have tokS : True := trivial
 go_wp2_with (first | (have _t := tokL; clear _t tokL; refine Yaj 28 rfl ?_; refine Ys s sb rfl _ rfl rfl HU.out.2.1 ?_) | (have _t := tokS; clear _t tokS; refine Yd 28 rfl ?_; refine Ycx s ub rfl _ _ rfl rfl rfl HU.out.2.2 hc ?_))
 refine ⟨rfl, .returning, ?_, _, results_none rfl _ _ _, rfl, rfl, rfl⟩
 rw [← HU.out.1]
theorem Yjk (a : Nat) (s : St) (i : Ins) (w : World) : (Instr.build 86 #[(0, .pointer (some ⟨a, 0, none⟩)), (1, .agg s.cells), (2, .agg i.cells)]).run Tryz.prog w = .ok (.agg (Ybk a s i)) w := by
 unfold St.cells Ins.cells Ybk
 kernel_rfl
theorem Yfo {ops : Array Oper} {rest : List Oper} {o : Oper} {a : Act} {w : World} {Q : Exit → Act → World → Prop} (hgd : o.guard = none) (p : Nat) (s : St) (i : Ins) (x y z : Operand) (ho : o.op = .build 86 #[(0, x), (1, y), (2, z)]) (hx : a.eval x = .pointer (some ⟨p, 0, none⟩)) (hy : a.eval y = .agg s.cells) (hz : a.eval z = .agg i.cells)
  (h : wpList Tryz.prog ops Q rest (a.put o.dst (.agg (Ybk p s i))) w) : wpList Tryz.prog ops Q (o :: rest) a w := by
 refine wpList_plain hgd fun _ hK => ?_
 unfold Oper.wp execOp
 simp only [ho, List.map_toArray, List.map_cons, List.map_nil, hx, hy, hz, Sem.run_bind, Yjk, Result.andThen_ok, Sem.run_pure]
 exact hK _ _ h
def St.goOn (s : St) (n : Int) : St := { s with pc := (s.pc + n) % 4294967296 }
theorem St.goOn_ok {s : St} (h : s.Ok) (n : Int) : (s.goOn n).Ok := ⟨h.R, by simp only [St.goOn]; omega, h.f⟩
def Ykf (pc : Int) (fb kb sb ub : Nat) : List Deferred :=
 [{ target := .fn (.func 31) #[], args := #[.int .u32 pc, .pointer (some ⟨fb, 0, none⟩), .pointer (some ⟨kb, 0, none⟩)] },
  { target := .fn (.func 30) #[.pointer (some ⟨kb, 0, none⟩), .pointer (some ⟨sb, 0, none⟩), .pointer (some ⟨ub, 0, none⟩)], args := #[] }]
theorem Yn8 {fn : Func} {tmps : Array Value} {R : Ending → World → Prop} {w1 : World} {pc : Int} {fb kb sb ub : Nat} (V : Value) (hk : w1.heap[kb]? = some (.cells #[.bool true] 4 (0, 0))) (hres : (results fn tmps).run Tryz.prog w1 = .ok V w1) (hR : R (.returned V) w1) :
  Leaves Tryz.prog fn tmps R (Ykf pc fb kb sb ub) .returning w1 := by
 refine leaves_cons (f := 31) (args := #[.int .u32 pc, .pointer (some ⟨fb, 0, none⟩), .pointer (some ⟨kb, 0, none⟩)]) (by simp) (by simp [go_sem]) ?_
 refine (Ygw _ _ _ w1).mono ?_
 rintro e u' w2 ⟨rfl, rfl, rfl⟩
 simp only [settle]
 refine leaves_cons (f := 30) (args := #[.pointer (some ⟨kb, 0, none⟩), .pointer (some ⟨sb, 0, none⟩), .pointer (some ⟨ub, 0, none⟩)]) (by simp) (by simp [go_sem]) ?_
 refine (outs_yes kb sb ub _ hk).mono ?_
 rintro e u' w2 ⟨rfl, rfl, rfl⟩
 simp only [settle]
 exact ⟨_, hres, hR⟩
theorem Yjy {fn : Func} {tmps : Array Value} {R : Ending → World → Prop} {w1 : World} {pc : Int} {fb kb sb ub : Nat} {y0 y1 y2 y3 k0 : Value} {s : St} {c : Array Value} (F : Flt) (V : Value)
  (hf : w1.heap[fb]? = some (.cells #[y0, y1, y2, y3] 35 (0, 0))) (hk : w1.heap[kb]? = some (.cells #[k0] 4 (0, 0))) (hs : w1.heap[sb]? = some (.cells s.cells 28 (0, 0))) (hu : w1.heap[ub]? = some (.cells c 28 (0, 0))) (hc : c.size = 17)
  (hne : fb ≠ kb ∧ fb ≠ sb ∧ fb ≠ ub ∧ kb ≠ sb ∧ kb ≠ ub ∧ sb ≠ ub)
  (hres : ∀ w2, w2.heap[fb]? = some (.cells #[.int .i64 F.k, .int .u32 pc, .int .u32 F.a, .int .i64 F.wt] 35 (0, 0)) → w2.heap[kb]? = some (.cells #[.bool false] 4 (0, 0)) → w2.heap[ub]? = some (.cells s.cells 28 (0, 0)) → (results fn tmps).run Tryz.prog w2 = .ok V w2)
  (hR : ∀ w2, Upd [fb, kb, ub] w1 w2 → R (.returned V) w2) :
  Leaves Tryz.prog fn tmps R (Ykf pc fb kb sb ub) (.panicking [{ v := .iface 35 F.val, recovered := false }]) w1 := by
 refine leaves_cons (f := 31) (args := #[.int .u32 pc, .pointer (some ⟨fb, 0, none⟩), .pointer (some ⟨kb, 0, none⟩)]) (by simp) (by simp [go_sem]) ?_
 refine (Yey pc fb kb _ _ _ _ _ _ _ _ _ [] w1 hf hk hne.1).mono ?_
 rintro e u' w2 ⟨rfl, rfl, hf2, hk2, hU⟩
 simp only [settle, List.dropWhile_nil]
 have hs2 := hU.get hs (by simp; omega)
 have hu2 := hU.get hu (by simp; omega)
 refine leaves_cons (f := 30) (args := #[.pointer (some ⟨kb, 0, none⟩), .pointer (some ⟨sb, 0, none⟩), .pointer (some ⟨ub, 0, none⟩)]) (by simp) (by simp [go_sem]) ?_
 refine (outs_no kb sb ub s c _ hk2 hs2 hu2 hc).mono ?_
 rintro e u' w3 ⟨rfl, rfl, rfl⟩
 simp only [settle]
 have u3 : Upd [ub] w2 (w2.setCells ub 0 s.cells.toList) := (Upd.refl [ub] w2).setCells (.inl (by simp)) _ _
 exact ⟨_, hres _ (u3.get hf2 (by simp; omega)) (u3.get hk2 (by simp; omega)) (Ya7 s hu2 hc), hR _ ((hU.mono (by simp)).trans u3 (fun _ h => h) (fun x hx => .inl (by simp at hx; simp [hx])))⟩
structure DoS (w : World) (s : St) (i : Ins) (w1 : World) : Prop where
 zs : w1.heap[w.heap.size]? = some (.cells s.cells 28 (0, 0))
 zi : w1.heap[w.heap.size + 1]? = some (.cells i.cells 41 (0, 0))
 zo : w1.heap[w.heap.size + 1 + 1]? = some (.cells St.zero.cells 28 (0, 0))
 zf : w1.heap[w.heap.size + 1 + 1 + 1]? = some (.cells #[.int .i64 0, .int .u32 0, .int .u32 0, .int .i64 0] 35 (0, 0))
 zk : w1.heap[w.heap.size + 1 + 1 + 1 + 1]? = some (.cells #[.bool false] 4 (0, 0))
theorem DoS.keep {w w1 w2 : World} {s : St} {i : Ins} {S : List Nat} (h : DoS w s i w1) (u : Upd S w1 w2) (hS : ∀ x, x ∈ S → x < w.heap.size ∨ w.heap.size + 4 < x) : DoS w s i w2 := by
 have n : ∀ k, k ≤ 4 → w.heap.size + k ∉ S := fun k hk hh => by have := hS _ hh; omega
 exact ⟨u.get h.zs (n 0 (by decide)), u.get h.zi (n 1 (by decide)), u.get h.zo (n 2 (by decide)), u.get h.zf (n 3 (by decide)), u.get h.zk (n 4 (by decide))⟩
def doW (w : World) (s : St) (i : Ins) : World := ((((w.alloc (.cells s.cells 28)).alloc (.cells i.cells 41)).alloc (.cells St.zero.cells 28)).alloc (.cells #[.int .i64 0, .int .u32 0, .int .u32 0, .int .i64 0] 35)).alloc (.cells #[.bool false] 4)
theorem doW_up (w : World) (s : St) (i : Ins) : Upd [] w (doW w s i) := (((((Upd.refl [] w).alloc _).alloc _).alloc _).alloc _).alloc _
theorem DoS.start (w : World) (s : St) (i : Ins) : DoS w s i (doW w s i) := by
 have h2 := heap_alloc_new ((w.alloc (.cells s.cells 28)).alloc (.cells i.cells 41)) (.cells St.zero.cells 28)
 have h3 := heap_alloc_new (((w.alloc (.cells s.cells 28)).alloc (.cells i.cells 41)).alloc (.cells St.zero.cells 28)) (.cells #[.int .i64 0, .int .u32 0, .int .u32 0, .int .i64 0] 35)
 have h4 := heap_alloc_new ((((w.alloc (.cells s.cells 28)).alloc (.cells i.cells 41)).alloc (.cells St.zero.cells 28)).alloc (.cells #[.int .i64 0, .int .u32 0, .int .u32 0, .int .i64 0] 35)) (.cells #[.bool false] 4)
 rw [show ((w.alloc (.cells s.cells 28)).alloc (.cells i.cells 41)).heap.size = w.heap.size + 1 + 1 from by simp] at h2
 rw [show (((w.alloc (.cells s.cells 28)).alloc (.cells i.cells 41)).alloc (.cells St.zero.cells 28)).heap.size = w.heap.size + 1 + 1 + 1 from by simp] at h3
 rw [show ((((w.alloc (.cells s.cells 28)).alloc (.cells i.cells 41)).alloc (.cells St.zero.cells 28)).alloc (.cells #[.int .i64 0, .int .u32 0, .int .u32 0, .int .i64 0] 35)).heap.size = w.heap.size + 1 + 1 + 1 + 1 from by simp] at h4
 exact ⟨Yk _ (Yk _ (Yk _ (heap_alloc2_old _ _ _))), Yk _ (Yk _ (Yk _ (heap_alloc2_new _ _ _))), Yk _ (Yk _ h2), Yk _ h3, h4⟩
end Go.Proofs.YthakgjpejhjaoaaGreat
