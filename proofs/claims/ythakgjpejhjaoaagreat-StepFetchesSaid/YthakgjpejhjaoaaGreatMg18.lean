/-
  Parts of the proof (their names shortened by a program). No condition.
-/
import Derived.Test.YthakgjpejhjaoaaGreatMg01
import Derived.Test.YthakgjpejhjaoaaGreatMg17
namespace Go.Proofs.YthakgjpejhjaoaaGreat
open Go Go.RowKit
set_option linter.unusedVariables false
set_option linter.unusedSimpArgs false
set_option maxRecDepth 100000
set_option maxHeartbeats 16000000
theorem Yij (a b : Int) (ha : 0 ≤ a ∧ a < 4294967296) (hb : 0 ≤ b ∧ b < 4294967296) : 0 ≤ bits .and .u32 a b ∧ bits .and .u32 a b < 4294967296 := by
 obtain ⟨a, rfl⟩ := Int.eq_ofNat_of_zero_le ha.1
 obtain ⟨b, rfl⟩ := Int.eq_ofNat_of_zero_le hb.1
 rw [u32_and_nat a b (by omega) (by omega)]
 have : a &&& b ≤ a := Nat.and_le_left
 omega
theorem or_u32 (a b : Int) (ha : 0 ≤ a ∧ a < 4294967296) (hb : 0 ≤ b ∧ b < 4294967296) : 0 ≤ bits .or .u32 a b ∧ bits .or .u32 a b < 4294967296 := by
 obtain ⟨a, rfl⟩ := Int.eq_ofNat_of_zero_le ha.1
 obtain ⟨b, rfl⟩ := Int.eq_ofNat_of_zero_le hb.1
 rw [u32_or_nat a b (by omega) (by omega)]
 have : a ||| b < 2 ^ 32 := Nat.or_lt_two_pow (by omega) (by omega)
 omega
theorem Yim (a b : Int) (ha : 0 ≤ a ∧ a < 4294967296) (hb : 0 ≤ b ∧ b < 4294967296) : 0 ≤ bits .xor .u32 a b ∧ bits .xor .u32 a b < 4294967296 := by
 obtain ⟨a, rfl⟩ := Int.eq_ofNat_of_zero_le ha.1
 obtain ⟨b, rfl⟩ := Int.eq_ofNat_of_zero_le hb.1
 rw [u32_xor_nat a b (by omega) (by omega)]
 have : a ^^^ b < 2 ^ 32 := Nat.xor_lt_two_pow (by omega) (by omega)
 omega
structure AlS (w : World) (f : Fl) (w1 : World) : Prop where
 z7 : w1.heap[w.heap.size]? = some (.cells f.cells 25 (0, 0))
 z9 : w1.heap[w.heap.size + 1]? = some (.cells Fl.zero.cells 25 (0, 0))
 z10 : w1.heap[w.heap.size + 1 + 1]? = some (.cells f.cells 25 (0, 0))
 u : Upd [] w w1
theorem AlS.of {w w1 : World} {f : Fl} (hu : Upd [] (((w.alloc (.cells f.cells 25)).alloc (.cells Fl.zero.cells 25)).alloc (.cells f.cells 25)) w1) : AlS w f w1 := by
 have h2 := heap_alloc_new ((w.alloc (.cells f.cells 25)).alloc (.cells Fl.zero.cells 25)) (.cells f.cells 25)
 rw [show ((w.alloc (.cells f.cells 25)).alloc (.cells Fl.zero.cells 25)).heap.size = w.heap.size + 1 + 1 from by simp] at h2
 exact ⟨hu.get (Yl _ (heap_alloc2_old _ _ _)) (by simp), hu.get (Yl _ (heap_alloc2_new _ _ _)) (by simp), hu.get h2 (by simp), ((((Upd.refl [] w).alloc _).alloc _).alloc _).also hu (by simp)⟩
structure AlE (w : World) (f : Fl) (w1 : World) : Prop where
 r7 : w1.heap[w.heap.size]? = some (.cells f.cells 25 (0, 0))
 r9 : w1.heap[w.heap.size + 1]? = some (.cells Fl.zero.cells 25 (0, 0))
 u : Upd [] w w1
theorem AlE.drew {w w1 : World} {f : Fl} (h : AlE w f w1) : AlE w f w1.drew := by
 have u := (Upd.refl [] w1).drew
 exact ⟨u.get h.r7 (by simp), u.get h.r9 (by simp), h.u.drew⟩
theorem AlS.st {w w1 : World} {f : Fl} (h : AlS w f w1) (x0 x1 x2 x3 x4 x5 : Bool) : AlE w ⟨x0, x1, x2, x3, x4, x5⟩ ((((((w1.setCell ⟨w.heap.size, 0, none⟩ (.bool x0)).setCell ⟨w.heap.size, 1, none⟩ (.bool x1)).setCell ⟨w.heap.size, 2, none⟩ (.bool x2)).setCell ⟨w.heap.size, 3, none⟩ (.bool x3)).setCell ⟨w.heap.size, 4, none⟩ (.bool x4)).setCell ⟨w.heap.size, 5, none⟩ (.bool x5)) :=
 ⟨Ycm h.z7 _ _ _ _ _ _, (Ybg (S := [w.heap.size]) (Upd.refl _ w1) (.inl (by simp)) _ _ _ _ _ _).get h.z9 (by simp), Ybg h.u (.inr (Nat.le_refl _)) _ _ _ _ _ _⟩
theorem AlE.cf {w w1 : World} {f : Fl} (h : AlE w f w1) (x : Bool) : AlE w { f with cf := x } (w1.setCell ⟨w.heap.size, 0, none⟩ (.bool x)) :=
 ⟨Yg h.r7 0 (.bool x), ((Upd.refl [w.heap.size] w1).setCell (p := ⟨w.heap.size, 0, none⟩) (.inl (by simp)) (.bool x)).get h.r9 (by simp), h.u.setCell (p := ⟨w.heap.size, 0, none⟩) (.inr (Nat.le_refl _)) _⟩
theorem AlE.start {w : World} {f : Fl} : AlE w f (((w.alloc (.cells f.cells 25)).alloc (.cells Fl.zero.cells 25)).alloc (.cells f.cells 25)) :=
 ⟨(AlS.of (Upd.refl [] _)).z7, (AlS.of (Upd.refl [] _)).z9, (AlS.of (Upd.refl [] _)).u⟩
theorem aluDo_3 (a b : Int) (f : Fl) (w : World) (ha : 0 ≤ a ∧ a < 4294967296) (hb : 0 ≤ b ∧ b < 4294967296) :
  Calls Tryz.prog 47 #[.int .i64 3, .int .u32 a, .int .u32 b, .agg f.cells] w fun e w' => e = .returned (.tuple #[.int .u32 (Ybz 3 a b f), .agg (Ybd 3 a b f).cells]) ∧ Upd [] w w' := by
 obtain ⟨c, d, e', z, n, o⟩ := f
 have HA := Yh_ (And.intro ha hb)
 obtain ⟨⟨x0, x1, x2, x3, x4, x5⟩, hF⟩ : ∃ F, addF a b false = F := ⟨_, rfl⟩
 have HF := Yh_ hF
 have HV := Yh_ (show Ybd 3 a b ⟨c, d, e', z, n, o⟩ = ⟨x0, x1, x2, x3, x4, x5⟩ by simp [Ybd, hF])
 clear hF
 have tok : True := trivial
 clear ha hb
 rw [HV.out]
 simp only [Ybz]
 unfold Fl.cells
 go_enter Tryz.func47, Tryz.ntmps47
 go_wp2_with (have _t := tok; clear _t; go_at_call 61; refine (Yhn a b false _ HA.out.1 HA.out.2).mono ?_; rintro e w1 ⟨rfl, hu⟩; rw [HF.out]; unfold Fl.cells; have h1 := AlS.of (f := ⟨c, d, e', z, n, o⟩) hu; have ch := Ya h1.z7; have fh := Yi h1.z7; have c10 := Ya h1.z10; unfold Fl.cells at ch c10; have H1 := Yh_ h1; clear hu h1 tok)
 refine Yaz 3 (AlE w ⟨x0, x1, x2, x3, x4, x5⟩) (fun _ _ => False) (by kernel_rfl) (by decide +kernel) ((H1.out.st x0 x1 x2 x3 x4 x5)).drew (fun _ _ _ h => h.elim) ?_
 simp only [List.take_succ_cons, List.take_zero, List.drop_succ_cons, List.drop_zero]
 iterate 3
  apply Yaf rfl rfl
  ·intro K hK w5 hB1
   have c7 := Ya hB1.r7
   unfold Fl.cells at c7
   have HB := Yh_ hB1
   clear hB1
   go_wp2_with fail
   first
   |exact hK _ HB.out
   |exact HB.out
  ·exact ⟨_, rfl⟩
 refine Yal (fun _ w5 hB1 => ?_)
 have c9 := Ya hB1.r9
 have f9 := Yi hB1.r9
 unfold Fl.cells Fl.zero at c9
 have HB := Yh_ hB1
 clear hB1
 go_wp2_with fail
 exact bodyPost_ret (Yar rfl (Yt 8 rfl) (Ycn 9 (w.heap.size + 1) ⟨x0, x1, x2, x3, x4, x5⟩ rfl (Ycm HB.out.r9 _ _ _ _ _ _))) rfl ⟨rfl, Ybg HB.out.u (.inr (by omega)) _ _ _ _ _ _⟩
theorem aluDo_5 (a b : Int) (f : Fl) (w : World) (ha : 0 ≤ a ∧ a < 4294967296) (hb : 0 ≤ b ∧ b < 4294967296) :
  Calls Tryz.prog 47 #[.int .i64 5, .int .u32 a, .int .u32 b, .agg f.cells] w fun e w' => e = .returned (.tuple #[.int .u32 (Ybz 5 a b f), .agg (Ybd 5 a b f).cells]) ∧ Upd [] w w' := by
 obtain ⟨c, d, e', z, n, o⟩ := f
 have HA := Yh_ (And.intro ha hb)
 obtain ⟨⟨x0, x1, x2, x3, x4, x5⟩, hF⟩ : ∃ F, addF a b c = F := ⟨_, rfl⟩
 have HF := Yh_ hF
 have HV := Yh_ (show Ybd 5 a b ⟨c, d, e', z, n, o⟩ = ⟨x0, x1, x2, x3, x4, x5⟩ by simp [Ybd, hF])
 clear hF
 have tok : True := trivial
 clear ha hb
 rw [HV.out]
 simp only [Ybz]
 unfold Fl.cells
 go_enter Tryz.func47, Tryz.ntmps47
 go_wp2_with (have _t := tok; clear _t; go_at_call 61; refine (Yhn a b c _ HA.out.1 HA.out.2).mono ?_; rintro e w1 ⟨rfl, hu⟩; rw [HF.out]; unfold Fl.cells; have h1 := AlS.of (f := ⟨c, d, e', z, n, o⟩) hu; have ch := Ya h1.z7; have fh := Yi h1.z7; have c10 := Ya h1.z10; unfold Fl.cells at ch c10; have H1 := Yh_ h1; clear hu h1 tok)
 refine Yaz 3 (AlE w ⟨x0, x1, x2, x3, x4, x5⟩) (fun _ _ => False) (by kernel_rfl) (by decide +kernel) ((H1.out.st x0 x1 x2 x3 x4 x5)).drew (fun _ _ _ h => h.elim) ?_
 simp only [List.take_succ_cons, List.take_zero, List.drop_succ_cons, List.drop_zero]
 iterate 3
  apply Yaf rfl rfl
  ·intro K hK w5 hB1
   have c7 := Ya hB1.r7
   unfold Fl.cells at c7
   have HB := Yh_ hB1
   clear hB1
   go_wp2_with fail
   first
   |exact hK _ HB.out
   |exact HB.out
  ·exact ⟨_, rfl⟩
 refine Yal (fun _ w5 hB1 => ?_)
 have c9 := Ya hB1.r9
 have f9 := Yi hB1.r9
 unfold Fl.cells Fl.zero at c9
 have HB := Yh_ hB1
 clear hB1
 go_wp2_with fail
 exact bodyPost_ret (Yar rfl (Yt 8 rfl) (Ycn 9 (w.heap.size + 1) ⟨x0, x1, x2, x3, x4, x5⟩ rfl (Ycm HB.out.r9 _ _ _ _ _ _))) rfl ⟨rfl, Ybg HB.out.u (.inr (by omega)) _ _ _ _ _ _⟩
theorem aluDo_8 (a b : Int) (f : Fl) (w : World) (ha : 0 ≤ a ∧ a < 4294967296) (hb : 0 ≤ b ∧ b < 4294967296) :
  Calls Tryz.prog 47 #[.int .i64 8, .int .u32 a, .int .u32 b, .agg f.cells] w fun e w' => e = .returned (.tuple #[.int .u32 (Ybz 8 a b f), .agg (Ybd 8 a b f).cells]) ∧ Upd [] w w' := by
 obtain ⟨c, d, e', z, n, o⟩ := f
 have HA := Yh_ (And.intro ha hb)
 obtain ⟨⟨x0, x1, x2, x3, x4, x5⟩, hF⟩ : ∃ F, Ye0 a b false = F := ⟨_, rfl⟩
 have HF := Yh_ hF
 have HV := Yh_ (show Ybd 8 a b ⟨c, d, e', z, n, o⟩ = ⟨x0, x1, x2, x3, x4, x5⟩ by simp [Ybd, hF])
 clear hF
 have tok : True := trivial
 clear ha hb
 rw [HV.out]
 simp only [Ybz]
 unfold Fl.cells
 go_enter Tryz.func47, Tryz.ntmps47
 go_wp2_with (have _t := tok; clear _t; go_at_call 62; refine (Yeu a b false _ HA.out.1 HA.out.2).mono ?_; rintro e w1 ⟨rfl, hu⟩; rw [HF.out]; unfold Fl.cells; have h1 := AlS.of (f := ⟨c, d, e', z, n, o⟩) hu; have ch := Ya h1.z7; have fh := Yi h1.z7; have c10 := Ya h1.z10; unfold Fl.cells at ch c10; have H1 := Yh_ h1; clear hu h1 tok)
 refine Yaz 3 (AlE w ⟨x0, x1, x2, x3, x4, x5⟩) (fun _ _ => False) (by kernel_rfl) (by decide +kernel) ((H1.out.st x0 x1 x2 x3 x4 x5)).drew (fun _ _ _ h => h.elim) ?_
 simp only [List.take_succ_cons, List.take_zero, List.drop_succ_cons, List.drop_zero]
 iterate 3
  apply Yaf rfl rfl
  ·intro K hK w5 hB1
   have c7 := Ya hB1.r7
   unfold Fl.cells at c7
   have HB := Yh_ hB1
   clear hB1
   go_wp2_with fail
   first
   |exact hK _ HB.out
   |exact HB.out
  ·exact ⟨_, rfl⟩
 refine Yal (fun _ w5 hB1 => ?_)
 have c9 := Ya hB1.r9
 have f9 := Yi hB1.r9
 unfold Fl.cells Fl.zero at c9
 have HB := Yh_ hB1
 clear hB1
 go_wp2_with fail
 exact bodyPost_ret (Yar rfl (Yt 8 rfl) (Ycn 9 (w.heap.size + 1) ⟨x0, x1, x2, x3, x4, x5⟩ rfl (Ycm HB.out.r9 _ _ _ _ _ _))) rfl ⟨rfl, Ybg HB.out.u (.inr (by omega)) _ _ _ _ _ _⟩
theorem aluDo_6 (a b : Int) (f : Fl) (w : World) (ha : 0 ≤ a ∧ a < 4294967296) (hb : 0 ≤ b ∧ b < 4294967296) :
  Calls Tryz.prog 47 #[.int .i64 6, .int .u32 a, .int .u32 b, .agg f.cells] w fun e w' => e = .returned (.tuple #[.int .u32 (Ybz 6 a b f), .agg (Ybd 6 a b f).cells]) ∧ Upd [] w w' := by
 obtain ⟨c, d, e', z, n, o⟩ := f
 have HA := Yh_ (And.intro ha hb)
 obtain ⟨⟨x0, x1, x2, x3, x4, x5⟩, hF⟩ : ∃ F, Ye0 a b c = F := ⟨_, rfl⟩
 have HF := Yh_ hF
 have HV := Yh_ (show Ybd 6 a b ⟨c, d, e', z, n, o⟩ = ⟨x0, x1, x2, x3, x4, x5⟩ by simp [Ybd, hF])
 clear hF
 have tok : True := trivial
 clear ha hb
 rw [HV.out]
 simp only [Ybz]
 unfold Fl.cells
 go_enter Tryz.func47, Tryz.ntmps47
 go_wp2_with (have _t := tok; clear _t; go_at_call 62; refine (Yeu a b c _ HA.out.1 HA.out.2).mono ?_; rintro e w1 ⟨rfl, hu⟩; rw [HF.out]; unfold Fl.cells; have h1 := AlS.of (f := ⟨c, d, e', z, n, o⟩) hu; have ch := Ya h1.z7; have fh := Yi h1.z7; have c10 := Ya h1.z10; unfold Fl.cells at ch c10; have H1 := Yh_ h1; clear hu h1 tok)
 refine Yaz 3 (AlE w ⟨x0, x1, x2, x3, x4, x5⟩) (fun _ _ => False) (by kernel_rfl) (by decide +kernel) ((H1.out.st x0 x1 x2 x3 x4 x5)).drew (fun _ _ _ h => h.elim) ?_
 simp only [List.take_succ_cons, List.take_zero, List.drop_succ_cons, List.drop_zero]
 iterate 3
  apply Yaf rfl rfl
  ·intro K hK w5 hB1
   have c7 := Ya hB1.r7
   unfold Fl.cells at c7
   have HB := Yh_ hB1
   clear hB1
   go_wp2_with fail
   first
   |exact hK _ HB.out
   |exact HB.out
  ·exact ⟨_, rfl⟩
 refine Yal (fun _ w5 hB1 => ?_)
 have c9 := Ya hB1.r9
 have f9 := Yi hB1.r9
 unfold Fl.cells Fl.zero at c9
 have HB := Yh_ hB1
 clear hB1
 go_wp2_with fail
 exact bodyPost_ret (Yar rfl (Yt 8 rfl) (Ycn 9 (w.heap.size + 1) ⟨x0, x1, x2, x3, x4, x5⟩ rfl (Ycm HB.out.r9 _ _ _ _ _ _))) rfl ⟨rfl, Ybg HB.out.u (.inr (by omega)) _ _ _ _ _ _⟩
theorem aluDo_10 (a b : Int) (f : Fl) (w : World) (ha : 0 ≤ a ∧ a < 4294967296) (hb : 0 ≤ b ∧ b < 4294967296) :
  Calls Tryz.prog 47 #[.int .i64 10, .int .u32 a, .int .u32 b, .agg f.cells] w fun e w' => e = .returned (.tuple #[.int .u32 (Ybz 10 a b f), .agg (Ybd 10 a b f).cells]) ∧ Upd [] w w' := by
 obtain ⟨c, d, e', z, n, o⟩ := f
 have HA := Yh_ (And.intro ha hb)
 obtain ⟨⟨x0, x1, x2, x3, x4, x5⟩, hF⟩ : ∃ F, Ye0 a b false = F := ⟨_, rfl⟩
 have HF := Yh_ hF
 have HV := Yh_ (show Ybd 10 a b ⟨c, d, e', z, n, o⟩ = ⟨x0, x1, x2, x3, x4, x5⟩ by simp [Ybd, hF])
 clear hF
 have tok : True := trivial
 clear ha hb
 rw [HV.out]
 simp only [Ybz]
 unfold Fl.cells
 go_enter Tryz.func47, Tryz.ntmps47
 go_wp2_with (have _t := tok; clear _t; go_at_call 62; refine (Yeu a b false _ HA.out.1 HA.out.2).mono ?_; rintro e w1 ⟨rfl, hu⟩; rw [HF.out]; unfold Fl.cells; have h1 := AlS.of (f := ⟨c, d, e', z, n, o⟩) hu; have ch := Ya h1.z7; have fh := Yi h1.z7; have c10 := Ya h1.z10; unfold Fl.cells at ch c10; have H1 := Yh_ h1; clear hu h1 tok)
 refine Yaz 3 (AlE w ⟨x0, x1, x2, x3, x4, x5⟩) (fun _ _ => False) (by kernel_rfl) (by decide +kernel) ((H1.out.st x0 x1 x2 x3 x4 x5)).drew (fun _ _ _ h => h.elim) ?_
 simp only [List.take_succ_cons, List.take_zero, List.drop_succ_cons, List.drop_zero]
 iterate 3
  apply Yaf rfl rfl
  ·intro K hK w5 hB1
   have c7 := Ya hB1.r7
   unfold Fl.cells at c7
   have HB := Yh_ hB1
   clear hB1
   go_wp2_with fail
   first
   |exact hK _ HB.out
   |exact HB.out
  ·exact ⟨_, rfl⟩
 refine Yal (fun _ w5 hB1 => ?_)
 have c9 := Ya hB1.r9
 have f9 := Yi hB1.r9
 unfold Fl.cells Fl.zero at c9
 have HB := Yh_ hB1
 clear hB1
 go_wp2_with fail
 exact bodyPost_ret (Yar rfl (Yt 8 rfl) (Ycn 9 (w.heap.size + 1) ⟨x0, x1, x2, x3, x4, x5⟩ rfl (Ycm HB.out.r9 _ _ _ _ _ _))) rfl ⟨rfl, Ybg HB.out.u (.inr (by omega)) _ _ _ _ _ _⟩
theorem aluDo_12 (a b : Int) (f : Fl) (w : World) (ha : 0 ≤ a ∧ a < 4294967296) (hb : 0 ≤ b ∧ b < 4294967296) :
  Calls Tryz.prog 47 #[.int .i64 12, .int .u32 a, .int .u32 b, .agg f.cells] w fun e w' => e = .returned (.tuple #[.int .u32 (Ybz 12 a b f), .agg (Ybd 12 a b f).cells]) ∧ Upd [] w w' := by
 obtain ⟨c, d, e', z, n, o⟩ := f
 have HA := Yh_ (And.intro ha hb)
 obtain ⟨⟨x0, x1, x2, x3, x4, x5⟩, hF⟩ : ∃ F, addF a 1 false = F := ⟨_, rfl⟩
 have HF := Yh_ hF
 have HV := Yh_ (show Ybd 12 a b ⟨c, d, e', z, n, o⟩ = ⟨c, x1, x2, x3, x4, x5⟩ by simp [Ybd, hF])
 clear hF
 have tok : True := trivial
 clear ha hb
 rw [HV.out]
 simp only [Ybz]
 unfold Fl.cells
 go_enter Tryz.func47, Tryz.ntmps47
 go_wp2_with (have _t := tok; clear _t; go_at_call 61; refine (Yhn a 1 false _ HA.out.1 (by decide)).mono ?_; rintro e w1 ⟨rfl, hu⟩; rw [HF.out]; unfold Fl.cells; have h1 := AlS.of (f := ⟨c, d, e', z, n, o⟩) hu; have ch := Ya h1.z7; have fh := Yi h1.z7; have c10 := Ya h1.z10; unfold Fl.cells at ch c10; have H1 := Yh_ h1; clear hu h1 tok)
 refine Yaz 3 (AlE w ⟨c, x1, x2, x3, x4, x5⟩) (fun _ _ => False) (by kernel_rfl) (by decide +kernel) (((H1.out.st x0 x1 x2 x3 x4 x5).cf c)).drew (fun _ _ _ h => h.elim) ?_
 simp only [List.take_succ_cons, List.take_zero, List.drop_succ_cons, List.drop_zero]
 iterate 3
  apply Yaf rfl rfl
  ·intro K hK w5 hB1
   have c7 := Ya hB1.r7
   unfold Fl.cells at c7
   have HB := Yh_ hB1
   clear hB1
   go_wp2_with fail
   first
   |exact hK _ HB.out
   |exact HB.out
  ·exact ⟨_, rfl⟩
 refine Yal (fun _ w5 hB1 => ?_)
 have c9 := Ya hB1.r9
 have f9 := Yi hB1.r9
 unfold Fl.cells Fl.zero at c9
 have HB := Yh_ hB1
 clear hB1
 go_wp2_with fail
 exact bodyPost_ret (Yar rfl (Yt 8 rfl) (Ycn 9 (w.heap.size + 1) ⟨c, x1, x2, x3, x4, x5⟩ rfl (Ycm HB.out.r9 _ _ _ _ _ _))) rfl ⟨rfl, Ybg HB.out.u (.inr (by omega)) _ _ _ _ _ _⟩
theorem aluDo_13 (a b : Int) (f : Fl) (w : World) (ha : 0 ≤ a ∧ a < 4294967296) (hb : 0 ≤ b ∧ b < 4294967296) :
  Calls Tryz.prog 47 #[.int .i64 13, .int .u32 a, .int .u32 b, .agg f.cells] w fun e w' => e = .returned (.tuple #[.int .u32 (Ybz 13 a b f), .agg (Ybd 13 a b f).cells]) ∧ Upd [] w w' := by
 obtain ⟨c, d, e', z, n, o⟩ := f
 have HA := Yh_ (And.intro ha hb)
 obtain ⟨⟨x0, x1, x2, x3, x4, x5⟩, hF⟩ : ∃ F, Ye0 a 1 false = F := ⟨_, rfl⟩
 have HF := Yh_ hF
 have HV := Yh_ (show Ybd 13 a b ⟨c, d, e', z, n, o⟩ = ⟨c, x1, x2, x3, x4, x5⟩ by simp [Ybd, hF])
 clear hF
 have tok : True := trivial
 clear ha hb
 rw [HV.out]
 simp only [Ybz]
 unfold Fl.cells
 go_enter Tryz.func47, Tryz.ntmps47
 go_wp2_with (have _t := tok; clear _t; go_at_call 62; refine (Yeu a 1 false _ HA.out.1 (by decide)).mono ?_; rintro e w1 ⟨rfl, hu⟩; rw [HF.out]; unfold Fl.cells; have h1 := AlS.of (f := ⟨c, d, e', z, n, o⟩) hu; have ch := Ya h1.z7; have fh := Yi h1.z7; have c10 := Ya h1.z10; unfold Fl.cells at ch c10; have H1 := Yh_ h1; clear hu h1 tok)
 refine Yaz 3 (AlE w ⟨c, x1, x2, x3, x4, x5⟩) (fun _ _ => False) (by kernel_rfl) (by decide +kernel) (((H1.out.st x0 x1 x2 x3 x4 x5).cf c)).drew (fun _ _ _ h => h.elim) ?_
 simp only [List.take_succ_cons, List.take_zero, List.drop_succ_cons, List.drop_zero]
 iterate 3
  apply Yaf rfl rfl
  ·intro K hK w5 hB1
   have c7 := Ya hB1.r7
   unfold Fl.cells at c7
   have HB := Yh_ hB1
   clear hB1
   go_wp2_with fail
   first
   |exact hK _ HB.out
   |exact HB.out
  ·exact ⟨_, rfl⟩
 refine Yal (fun _ w5 hB1 => ?_)
 have c9 := Ya hB1.r9
 have f9 := Yi hB1.r9
 unfold Fl.cells Fl.zero at c9
 have HB := Yh_ hB1
 clear hB1
 go_wp2_with fail
 exact bodyPost_ret (Yar rfl (Yt 8 rfl) (Ycn 9 (w.heap.size + 1) ⟨c, x1, x2, x3, x4, x5⟩ rfl (Ycm HB.out.r9 _ _ _ _ _ _))) rfl ⟨rfl, Ybg HB.out.u (.inr (by omega)) _ _ _ _ _ _⟩
theorem aluDo_15 (a b : Int) (f : Fl) (w : World) (ha : 0 ≤ a ∧ a < 4294967296) (hb : 0 ≤ b ∧ b < 4294967296) :
  Calls Tryz.prog 47 #[.int .i64 15, .int .u32 a, .int .u32 b, .agg f.cells] w fun e w' => e = .returned (.tuple #[.int .u32 (Ybz 15 a b f), .agg (Ybd 15 a b f).cells]) ∧ Upd [] w w' := by
 obtain ⟨c, d, e', z, n, o⟩ := f
 have HA := Yh_ (And.intro ha hb)
 obtain ⟨⟨x0, x1, x2, x3, x4, x5⟩, hF⟩ : ∃ F, Ye0 0 a false = F := ⟨_, rfl⟩
 have HF := Yh_ hF
 have HV := Yh_ (show Ybd 15 a b ⟨c, d, e', z, n, o⟩ = ⟨x0, x1, x2, x3, x4, x5⟩ by simp [Ybd, hF])
 clear hF
 have tok : True := trivial
 clear ha hb
 rw [HV.out]
 simp only [Ybz]
 unfold Fl.cells
 go_enter Tryz.func47, Tryz.ntmps47
 go_wp2_with (have _t := tok; clear _t; go_at_call 62; refine (Yeu 0 a false _ (by decide) HA.out.1).mono ?_; rintro e w1 ⟨rfl, hu⟩; rw [HF.out]; unfold Fl.cells; have h1 := AlS.of (f := ⟨c, d, e', z, n, o⟩) hu; have ch := Ya h1.z7; have fh := Yi h1.z7; have c10 := Ya h1.z10; unfold Fl.cells at ch c10; have H1 := Yh_ h1; clear hu h1 tok)
 refine Yaz 3 (AlE w ⟨x0, x1, x2, x3, x4, x5⟩) (fun _ _ => False) (by kernel_rfl) (by decide +kernel) ((H1.out.st x0 x1 x2 x3 x4 x5)).drew (fun _ _ _ h => h.elim) ?_
 simp only [List.take_succ_cons, List.take_zero, List.drop_succ_cons, List.drop_zero]
 iterate 3
  apply Yaf rfl rfl
  ·intro K hK w5 hB1
   have c7 := Ya hB1.r7
   unfold Fl.cells at c7
   have HB := Yh_ hB1
   clear hB1
   go_wp2_with fail
   first
   |exact hK _ HB.out
   |exact HB.out
  ·exact ⟨_, rfl⟩
 refine Yal (fun _ w5 hB1 => ?_)
 have c9 := Ya hB1.r9
 have f9 := Yi hB1.r9
 unfold Fl.cells Fl.zero at c9
 have HB := Yh_ hB1
 clear hB1
 go_wp2_with fail
 exact bodyPost_ret (Yar rfl (Yt 8 rfl) (Ycn 9 (w.heap.size + 1) ⟨x0, x1, x2, x3, x4, x5⟩ rfl (Ycm HB.out.r9 _ _ _ _ _ _))) rfl ⟨rfl, Ybg HB.out.u (.inr (by omega)) _ _ _ _ _ _⟩
theorem aluDo_7 (a b : Int) (f : Fl) (w : World) (ha : 0 ≤ a ∧ a < 4294967296) (hb : 0 ≤ b ∧ b < 4294967296) :
  Calls Tryz.prog 47 #[.int .i64 7, .int .u32 a, .int .u32 b, .agg f.cells] w fun e w' => e = .returned (.tuple #[.int .u32 (Ybz 7 a b f), .agg (Ybd 7 a b f).cells]) ∧ Upd [] w w' := by
 obtain ⟨c, d, e', z, n, o⟩ := f
 have HA := Yh_ (And.intro ha hb)
 obtain ⟨⟨x0, x1, x2, x3, x4, x5⟩, hF⟩ : ∃ F, Fl.by Fl.zero (bits .and .u32 a b) = F := ⟨_, rfl⟩
 have HF := Yh_ hF
 have HV := Yh_ (show Ybd 7 a b ⟨c, d, e', z, n, o⟩ = ⟨x0, x1, x2, x3, x4, x5⟩ by simp [Ybd, hF])
 clear hF
 have tok : True := trivial
 clear ha hb
 rw [HV.out]
 simp only [Ybz]
 unfold Fl.cells
 go_enter Tryz.func47, Tryz.ntmps47
 go_wp2_with (have _t := tok; clear _t; go_at_call 63; refine (Yf9 Fl.zero (bits .and .u32 a b) _ (Yij a b HA.out.1 HA.out.2)).mono ?_; rintro e w1 ⟨rfl, hu⟩; rw [HF.out]; unfold Fl.cells; have h1 := AlS.of (f := ⟨c, d, e', z, n, o⟩) hu; have ch := Ya h1.z7; have fh := Yi h1.z7; unfold Fl.cells at ch; have H1 := Yh_ h1; clear hu h1 tok)
 refine Yaz 3 (AlE w ⟨x0, x1, x2, x3, x4, x5⟩) (fun _ _ => False) (by kernel_rfl) (by decide +kernel) ((H1.out.st x0 x1 x2 x3 x4 x5)).drew (fun _ _ _ h => h.elim) ?_
 simp only [List.take_succ_cons, List.take_zero, List.drop_succ_cons, List.drop_zero]
 iterate 3
  apply Yaf rfl rfl
  ·intro K hK w5 hB1
   have c7 := Ya hB1.r7
   unfold Fl.cells at c7
   have HB := Yh_ hB1
   clear hB1
   go_wp2_with fail
   first
   |exact hK _ HB.out
   |exact HB.out
  ·exact ⟨_, rfl⟩
 refine Yal (fun _ w5 hB1 => ?_)
 have c9 := Ya hB1.r9
 have f9 := Yi hB1.r9
 unfold Fl.cells Fl.zero at c9
 have HB := Yh_ hB1
 clear hB1
 go_wp2_with fail
 exact bodyPost_ret (Yar rfl (Yt 8 rfl) (Ycn 9 (w.heap.size + 1) ⟨x0, x1, x2, x3, x4, x5⟩ rfl (Ycm HB.out.r9 _ _ _ _ _ _))) rfl ⟨rfl, Ybg HB.out.u (.inr (by omega)) _ _ _ _ _ _⟩
theorem aluDo_4 (a b : Int) (f : Fl) (w : World) (ha : 0 ≤ a ∧ a < 4294967296) (hb : 0 ≤ b ∧ b < 4294967296) :
  Calls Tryz.prog 47 #[.int .i64 4, .int .u32 a, .int .u32 b, .agg f.cells] w fun e w' => e = .returned (.tuple #[.int .u32 (Ybz 4 a b f), .agg (Ybd 4 a b f).cells]) ∧ Upd [] w w' := by
 obtain ⟨c, d, e', z, n, o⟩ := f
 have HA := Yh_ (And.intro ha hb)
 obtain ⟨⟨x0, x1, x2, x3, x4, x5⟩, hF⟩ : ∃ F, Fl.by Fl.zero (bits .or .u32 a b) = F := ⟨_, rfl⟩
 have HF := Yh_ hF
 have HV := Yh_ (show Ybd 4 a b ⟨c, d, e', z, n, o⟩ = ⟨x0, x1, x2, x3, x4, x5⟩ by simp [Ybd, hF])
 clear hF
 have tok : True := trivial
 clear ha hb
 rw [HV.out]
 simp only [Ybz]
 unfold Fl.cells
 go_enter Tryz.func47, Tryz.ntmps47
 go_wp2_with (have _t := tok; clear _t; go_at_call 63; refine (Yf9 Fl.zero (bits .or .u32 a b) _ (or_u32 a b HA.out.1 HA.out.2)).mono ?_; rintro e w1 ⟨rfl, hu⟩; rw [HF.out]; unfold Fl.cells; have h1 := AlS.of (f := ⟨c, d, e', z, n, o⟩) hu; have ch := Ya h1.z7; have fh := Yi h1.z7; unfold Fl.cells at ch; have H1 := Yh_ h1; clear hu h1 tok)
 refine Yaz 3 (AlE w ⟨x0, x1, x2, x3, x4, x5⟩) (fun _ _ => False) (by kernel_rfl) (by decide +kernel) ((H1.out.st x0 x1 x2 x3 x4 x5)).drew (fun _ _ _ h => h.elim) ?_
 simp only [List.take_succ_cons, List.take_zero, List.drop_succ_cons, List.drop_zero]
 iterate 3
  apply Yaf rfl rfl
  ·intro K hK w5 hB1
   have c7 := Ya hB1.r7
   unfold Fl.cells at c7
   have HB := Yh_ hB1
   clear hB1
   go_wp2_with fail
   first
   |exact hK _ HB.out
   |exact HB.out
  ·exact ⟨_, rfl⟩
 refine Yal (fun _ w5 hB1 => ?_)
 have c9 := Ya hB1.r9
 have f9 := Yi hB1.r9
 unfold Fl.cells Fl.zero at c9
 have HB := Yh_ hB1
 clear hB1
 go_wp2_with fail
 exact bodyPost_ret (Yar rfl (Yt 8 rfl) (Ycn 9 (w.heap.size + 1) ⟨x0, x1, x2, x3, x4, x5⟩ rfl (Ycm HB.out.r9 _ _ _ _ _ _))) rfl ⟨rfl, Ybg HB.out.u (.inr (by omega)) _ _ _ _ _ _⟩
theorem aluDo_9 (a b : Int) (f : Fl) (w : World) (ha : 0 ≤ a ∧ a < 4294967296) (hb : 0 ≤ b ∧ b < 4294967296) :
  Calls Tryz.prog 47 #[.int .i64 9, .int .u32 a, .int .u32 b, .agg f.cells] w fun e w' => e = .returned (.tuple #[.int .u32 (Ybz 9 a b f), .agg (Ybd 9 a b f).cells]) ∧ Upd [] w w' := by
 obtain ⟨c, d, e', z, n, o⟩ := f
 have HA := Yh_ (And.intro ha hb)
 obtain ⟨⟨x0, x1, x2, x3, x4, x5⟩, hF⟩ : ∃ F, Fl.by Fl.zero (bits .xor .u32 a b) = F := ⟨_, rfl⟩
 have HF := Yh_ hF
 have HV := Yh_ (show Ybd 9 a b ⟨c, d, e', z, n, o⟩ = ⟨x0, x1, x2, x3, x4, x5⟩ by simp [Ybd, hF])
 clear hF
 have tok : True := trivial
 clear ha hb
 rw [HV.out]
 simp only [Ybz]
 unfold Fl.cells
 go_enter Tryz.func47, Tryz.ntmps47
 go_wp2_with (have _t := tok; clear _t; go_at_call 63; refine (Yf9 Fl.zero (bits .xor .u32 a b) _ (Yim a b HA.out.1 HA.out.2)).mono ?_; rintro e w1 ⟨rfl, hu⟩; rw [HF.out]; unfold Fl.cells; have h1 := AlS.of (f := ⟨c, d, e', z, n, o⟩) hu; have ch := Ya h1.z7; have fh := Yi h1.z7; unfold Fl.cells at ch; have H1 := Yh_ h1; clear hu h1 tok)
 refine Yaz 3 (AlE w ⟨x0, x1, x2, x3, x4, x5⟩) (fun _ _ => False) (by kernel_rfl) (by decide +kernel) ((H1.out.st x0 x1 x2 x3 x4 x5)).drew (fun _ _ _ h => h.elim) ?_
 simp only [List.take_succ_cons, List.take_zero, List.drop_succ_cons, List.drop_zero]
 iterate 3
  apply Yaf rfl rfl
  ·intro K hK w5 hB1
   have c7 := Ya hB1.r7
   unfold Fl.cells at c7
   have HB := Yh_ hB1
   clear hB1
   go_wp2_with fail
   first
   |exact hK _ HB.out
   |exact HB.out
  ·exact ⟨_, rfl⟩
 refine Yal (fun _ w5 hB1 => ?_)
 have c9 := Ya hB1.r9
 have f9 := Yi hB1.r9
 unfold Fl.cells Fl.zero at c9
 have HB := Yh_ hB1
 clear hB1
 go_wp2_with fail
 exact bodyPost_ret (Yar rfl (Yt 8 rfl) (Ycn 9 (w.heap.size + 1) ⟨x0, x1, x2, x3, x4, x5⟩ rfl (Ycm HB.out.r9 _ _ _ _ _ _))) rfl ⟨rfl, Ybg HB.out.u (.inr (by omega)) _ _ _ _ _ _⟩
theorem aluDo_11 (a b : Int) (f : Fl) (w : World) (ha : 0 ≤ a ∧ a < 4294967296) (hb : 0 ≤ b ∧ b < 4294967296) :
  Calls Tryz.prog 47 #[.int .i64 11, .int .u32 a, .int .u32 b, .agg f.cells] w fun e w' => e = .returned (.tuple #[.int .u32 (Ybz 11 a b f), .agg (Ybd 11 a b f).cells]) ∧ Upd [] w w' := by
 obtain ⟨c, d, e', z, n, o⟩ := f
 have HA := Yh_ (And.intro ha hb)
 obtain ⟨⟨x0, x1, x2, x3, x4, x5⟩, hF⟩ : ∃ F, Fl.by Fl.zero (bits .and .u32 a b) = F := ⟨_, rfl⟩
 have HF := Yh_ hF
 have HV := Yh_ (show Ybd 11 a b ⟨c, d, e', z, n, o⟩ = ⟨x0, x1, x2, x3, x4, x5⟩ by simp [Ybd, hF])
 clear hF
 have tok : True := trivial
 clear ha hb
 rw [HV.out]
 simp only [Ybz]
 unfold Fl.cells
 go_enter Tryz.func47, Tryz.ntmps47
 go_wp2_with (have _t := tok; clear _t; go_at_call 63; refine (Yf9 Fl.zero (bits .and .u32 a b) _ (Yij a b HA.out.1 HA.out.2)).mono ?_; rintro e w1 ⟨rfl, hu⟩; rw [HF.out]; unfold Fl.cells; have h1 := AlS.of (f := ⟨c, d, e', z, n, o⟩) hu; have ch := Ya h1.z7; have fh := Yi h1.z7; unfold Fl.cells at ch; have H1 := Yh_ h1; clear hu h1 tok)
 refine Yaz 3 (AlE w ⟨x0, x1, x2, x3, x4, x5⟩) (fun _ _ => False) (by kernel_rfl) (by decide +kernel) ((H1.out.st x0 x1 x2 x3 x4 x5)).drew (fun _ _ _ h => h.elim) ?_
 simp only [List.take_succ_cons, List.take_zero, List.drop_succ_cons, List.drop_zero]
 iterate 3
  apply Yaf rfl rfl
  ·intro K hK w5 hB1
   have c7 := Ya hB1.r7
   unfold Fl.cells at c7
   have HB := Yh_ hB1
   clear hB1
   go_wp2_with fail
   first
   |exact hK _ HB.out
   |exact HB.out
  ·exact ⟨_, rfl⟩
 refine Yal (fun _ w5 hB1 => ?_)
 have c9 := Ya hB1.r9
 have f9 := Yi hB1.r9
 unfold Fl.cells Fl.zero at c9
 have HB := Yh_ hB1
 clear hB1
 go_wp2_with fail
 exact bodyPost_ret (Yar rfl (Yt 8 rfl) (Ycn 9 (w.heap.size + 1) ⟨x0, x1, x2, x3, x4, x5⟩ rfl (Ycm HB.out.r9 _ _ _ _ _ _))) rfl ⟨rfl, Ybg HB.out.u (.inr (by omega)) _ _ _ _ _ _⟩
theorem aluDo_14 (a b : Int) (f : Fl) (w : World) (ha : 0 ≤ a ∧ a < 4294967296) (hb : 0 ≤ b ∧ b < 4294967296) :
  Calls Tryz.prog 47 #[.int .i64 14, .int .u32 a, .int .u32 b, .agg f.cells] w fun e w' => e = .returned (.tuple #[.int .u32 (Ybz 14 a b f), .agg (Ybd 14 a b f).cells]) ∧ Upd [] w w' := by
 obtain ⟨c, d, e', z, n, o⟩ := f
 have HA := Yh_ (And.intro ha hb)
 have HV := Yh_ (show Ybd 14 a b ⟨c, d, e', z, n, o⟩ = ⟨c, d, e', z, n, o⟩ by simp [Ybd])
 have tok : True := trivial
 clear ha hb
 rw [HV.out]
 simp only [Ybz]
 unfold Fl.cells
 go_enter Tryz.func47, Tryz.ntmps47
 go_wp2_with fail
 refine Yaz 3 (AlE w ⟨c, d, e', z, n, o⟩) (fun _ _ => False) (by kernel_rfl) (by decide +kernel) (AlE.start).drew (fun _ _ _ h => h.elim) ?_
 simp only [List.take_succ_cons, List.take_zero, List.drop_succ_cons, List.drop_zero]
 iterate 3
  apply Yaf rfl rfl
  ·intro K hK w5 hB1
   have c7 := Ya hB1.r7
   unfold Fl.cells at c7
   have HB := Yh_ hB1
   clear hB1
   go_wp2_with fail
   first
   |exact hK _ HB.out
   |exact HB.out
  ·exact ⟨_, rfl⟩
 refine Yal (fun _ w5 hB1 => ?_)
 have c9 := Ya hB1.r9
 have f9 := Yi hB1.r9
 unfold Fl.cells Fl.zero at c9
 have HB := Yh_ hB1
 clear hB1
 go_wp2_with fail
 exact bodyPost_ret (Yar rfl (Yt 8 rfl) (Ycn 9 (w.heap.size + 1) ⟨c, d, e', z, n, o⟩ rfl (Ycm HB.out.r9 _ _ _ _ _ _))) rfl ⟨rfl, Ybg HB.out.u (.inr (by omega)) _ _ _ _ _ _⟩
def Yid (op : Int) : Bool := (decide (3 ≤ op) && decide (op ≤ 15))
theorem Yn8 (op a b : Int) (f : Fl) (w : World) (hop : Yid op = true) (ha : 0 ≤ a ∧ a < 4294967296) (hb : 0 ≤ b ∧ b < 4294967296) :
  Calls Tryz.prog 47 #[.int .i64 op, .int .u32 a, .int .u32 b, .agg f.cells] w fun e w' => e = .returned (.tuple #[.int .u32 (Ybz op a b f), .agg (Ybd op a b f).cells]) ∧ Upd [] w w' := by
 have h : op = 3 ∨ op = 4 ∨ op = 5 ∨ op = 6 ∨ op = 7 ∨ op = 8 ∨ op = 9 ∨ op = 10 ∨ op = 11 ∨ op = 12 ∨ op = 13 ∨ op = 14 ∨ op = 15 := by
  simp only [Yid, Bool.and_eq_true, decide_eq_true_eq] at hop
  omega
 rcases h with rfl | rfl | rfl | rfl | rfl | rfl | rfl | rfl | rfl | rfl | rfl | rfl | rfl
 ·exact aluDo_3 a b f w ha hb
 ·exact aluDo_4 a b f w ha hb
 ·exact aluDo_5 a b f w ha hb
 ·exact aluDo_6 a b f w ha hb
 ·exact aluDo_7 a b f w ha hb
 ·exact aluDo_8 a b f w ha hb
 ·exact aluDo_9 a b f w ha hb
 ·exact aluDo_10 a b f w ha hb
 ·exact aluDo_11 a b f w ha hb
 ·exact aluDo_12 a b f w ha hb
 ·exact aluDo_13 a b f w ha hb
 ·exact aluDo_14 a b f w ha hb
 ·exact aluDo_15 a b f w ha hb
theorem Ynb (op a b : Int) (f : Fl) (ha : 0 ≤ a ∧ a < 4294967296) (hb : 0 ≤ b ∧ b < 4294967296) : 0 ≤ Ybz op a b f ∧ Ybz op a b f < 4294967296 := by
 unfold Ybz
 repeat' split
 all_goals first | exact Yh7 _ _ _ | exact Yhx _ _ _ | exact Yij a b ha hb | exact or_u32 a b ha hb | exact Yim a b ha hb | exact Yim 4294967295 a (by decide) ha | exact ha
section
structure DrF (w : World) (d a pb cb : Nat) (s : St) (i : Ins) (M : Mem) (f : Nat) (dn : Nat → Bool) (r : Nat → Value) (w1 : World) : Prop where
 b : Yag w1 d a pb s i M
 o : w1.heap[cb]? = some (.cells i.cells 41 (0, 0))
 u : Upd [d, pb] w w1
 y : dn f = true → ∃ g, r f = .pointer (some ⟨g, 0, none⟩) ∧ cb < g ∧ w1.heap[g]? = some (.cells Fl.zero.cells 25 (0, 0))
section
variable {w w1 w2 : World} {d a pb cb : Nat} {s : St} {i : Ins} {M : Mem} {f : Nat} {dn : Nat → Bool} {r : Nat → Value}
theorem DrF.start (h : Yag w1 d a pb s i M) (ho : w1.heap[cb]? = some (.cells i.cells 41 (0, 0))) (u : Upd [d, pb] w w1) (r : Nat → Value) : DrF w d a pb cb s i M f (fun _ => false) r w1.drew :=
 ⟨h.keep (Upd.refl [] _).drew (by simp) (by simp) (by simp), ((Upd.refl [] _).drew).get ho (by simp), u.drew, fun h => (by cases h)⟩
theorem DrF.quiet (h : DrF w d a pb cb s i M f dn r w1) (u : Upd [] w1 w2) (m : Nat) (h1 : f ≠ m) : DrF w d a pb cb s i M f (Yaq dn m) r w2 := by
 refine ⟨h.b.keep u (by simp) (by simp) (by simp), u.get h.o (by simp), h.u.also u (by simp), fun hy => ?_⟩
 rw [Yax h1] at hy
 obtain ⟨g, e1, e2, e3⟩ := h.y hy
 exact ⟨g, e1, e2, u.get e3 (by simp)⟩
theorem DrF.same (h : DrF w d a pb cb s i M f dn r w1) (m : Nat) (h1 : f ≠ m) : DrF w d a pb cb s i M f (Yaq dn m) r w1 := h.quiet (Upd.refl [] w1) m h1
theorem DrF.lay (h : DrF w d a pb cb s i M f dn r w1) : DrF w d a pb cb s i M f (Yaq dn f) (Ydd r f (.pointer (some ⟨w1.heap.size, 0, none⟩))) (w1.alloc (.cells #[.bool false, .bool false, .bool false, .bool false, .bool false, .bool false] 25)) := by
 have u := (Upd.refl [] w1).alloc (.cells #[.bool false, .bool false, .bool false, .bool false, .bool false, .bool false] 25)
 exact ⟨h.b.keep u (by simp) (by simp) (by simp), u.get h.o (by simp), h.u.also u (by simp), fun _ => ⟨_, vq_eq, Yh h.o, heap_alloc_new _ _⟩⟩
theorem dr_setfl (a : Nat) (s : St) (i : Ins) (F : Fl) : wr (Ybm a s i) 10 F.cells.toList = Ybm a (s.setFl F) i := by kernel_rfl
theorem Yag.putFl (h : Yag w d a pb s i M) (F : Fl) : Yag (w.setCells d 10 F.cells.toList) d a pb (s.setFl F) i M := by
 refine ⟨?_, h.m.keep ((Upd.refl [d] w).setCells (.inl (by simp)) _ _) (by simpa using fun e => h.na e.symm) (by simpa using fun e => h.np e.symm), ⟨h.ok.R, h.ok.pc, h.ok.f⟩, h.io, h.na, h.np⟩
 rw [Yan _ _ _ _ h.h, dr_setfl]
theorem fl_one (F : Fl) : F.cells.all (·.oneCell') = true := by simp [Fl.cells, Value.oneCell']
theorem fl_new {g : Nat} {F G : Fl} {t : TypeId} (hw : w.setCells g 0 F.cells.toList = w2) (hb : w.heap[g]? = some (.cells G.cells t (0, 0))) : w2.heap[g]? = some (.cells F.cells t (0, 0)) ∧ Upd [g] w w2 := by
 subst hw
 exact ⟨by rw [Yan _ _ _ _ hb]; rfl, (Upd.refl [g] w).setCells (.inl (by simp)) _ _⟩
end
theorem Yk2 (d a pb : Nat) (s : St) (i : Ins) (M : Mem) (w : World) (h : Yag w d a pb s i M) (hop : 12 ≤ i.op ∧ i.op ≤ 15) (hc : Yfi M s i.a 4 3 = true) (hr : opK M s i.a 4 = true)
  (hw : Ydi M (s.setFl (Ybd i.op (opV M s i.a 4) 0 s.fl)) i.a 4 = true) :
  Calls Tryz.prog 32 #[.pointer (some ⟨d, 0, none⟩)] w fun e w' => e = .returned (.tuple #[]) ∧ Yag w' d a pb (opS (s.setFl (Ybd i.op (opV M s i.a 4) 0 s.fl)) i.a 4 (Ybz i.op (opV M s i.a 4) 0 s.fl)) i (opM M (s.setFl (Ybd i.op (opV M s i.a 4) 0 s.fl)) i.a 4 (Ybz i.op (opV M s i.a 4) 0 s.fl)) ∧ Upd [d, pb] w w' := by
 have HRV := Yh_ (Yg4 h i.a h.io.a 4)
 have HD := Yh_ h
 have tokL : True := trivial
 have tokS : True := trivial
 obtain ⟨op, ho⟩ : ∃ op, i.op = op := ⟨_, rfl⟩
 rw [ho] at hop hw ⊢
 have e1 : decide (3 ≤ op) = true := by simp; omega
 have e2 : decide (op ≤ 11) = false := by simp; omega
 have e3 : decide (12 ≤ op) = true := by simp; omega
 have e4 : decide (op ≤ 15) = true := by simp; omega
 have HI := Yh_ h.io
 have HOP := Yh_ (show Yid op = true by simp only [Yid, Bool.and_eq_true, decide_eq_true_eq]; omega)
 obtain ⟨v, hv⟩ : ∃ v, opV M s i.a 4 = v := ⟨_, rfl⟩
 rw [hv] at hw HRV ⊢
 obtain ⟨V, hV⟩ : ∃ V, Ybz op v 0 s.fl = V := ⟨_, rfl⟩
 have HVR := Yh_ (show 0 ≤ V ∧ V < 4294967296 from hV ▸ Ynb op v 0 s.fl HRV.out (by decide))
 obtain ⟨⟨x0, x1, x2, x3, x4, x5⟩, hF⟩ : ∃ F, Ybd op v 0 s.fl = F := ⟨_, rfl⟩
 rw [hF] at hw ⊢
 rw [hV]
 have HC := Yh_ (And.intro hc (And.intro hr (And.intro hw (And.intro hv (And.intro hV hF)))))
 have HCC := Yh_ hc
 clear h hop hc hr hw hv hV hF
 go_enter Tryz.func32, Tryz.ntmps32
 go_wp2_with (first | (have _t := tokL; clear _t tokL; refine Yat 41 rfl ?_; refine wpList_load_mid rfl 41 _ rfl d 18 rfl i.cells.toList _ HD.out.ri Tryz.underlying41 rfl (by rw [Array.length_toList, Ins.size]; exact Ycl) ?_; rw [Array.toArray_toList]) | (have _t := tokS; clear _t tokS; refine Ye 41 rfl ?_; refine Yc i w.heap.size rfl _ _ rfl rfl rfl (heap_alloc_new w (.cells Ins.zero.cells 41)) rfl ?_; intro w3 hw; have h3 := Yfb HD.out hw; have ci := Ya h3.2.1; unfold Ins.cells at ci; have H3 := Yh_ h3; clear hw h3) | (have _t := H3; clear _t; go_at_call 46; refine (dboth_ok d a pb s i M i.a _ H3.out.1 HCC.out).mono ?_; rintro e w4 ⟨rfl, hu⟩; have H4 := Yh_ (And.intro (H3.out.1.keep hu (by simp) (by simp) (by simp)) (And.intro (hu.get H3.out.2.1 (by simp)) (H3.out.2.2.also hu (by simp)))); clear hu H3 ci))
 refine Yb5 16 (DrF w d a pb w.heap.size s i M 14) (fun _ _ => False) (by kernel_rfl) (by decide +kernel) (fun r0 => DrF.start H4.out.1 H4.out.2.1 H4.out.2.2 r0) (fun _ _ _ h => h.elim) ?_
 simp only [List.take_succ_cons, List.take_zero, List.drop_succ_cons, List.drop_zero]
 iterate 4
  apply Yn rfl rfl
  ·intro dn r0 K hd hdep hK w5 hB1
   have c10 : w5.cell? ⟨d, 10, none⟩ = some (.bool s.cf) := hB1.b.cell 10
   have c11 : w5.cell? ⟨d, 11, none⟩ = some (.bool s.pf) := hB1.b.cell 11
   have c12 : w5.cell? ⟨d, 12, none⟩ = some (.bool s.af) := hB1.b.cell 12
   have c13 : w5.cell? ⟨d, 13, none⟩ = some (.bool s.zf) := hB1.b.cell 13
   have c14 : w5.cell? ⟨d, 14, none⟩ = some (.bool s.sf) := hB1.b.cell 14
   have c15 : w5.cell? ⟨d, 15, none⟩ = some (.bool s.of_) := hB1.b.cell 15
   have ci := Ya hB1.o
   unfold Ins.cells at ci
   have HB := Yh_ hB1
   clear hB1 hdep
   go_wp2_with fail
   first
   |exact hK _ (HB.out.same _ (by decide))
   |exact HB.out.same _ (by decide)
  ·exact ⟨_, rfl⟩
 apply Yn rfl rfl
 ·intro dn r0 K hd hdep hK w5 hB1
  have HB := Yh_ hB1
  clear hB1 hdep
  go_wp2_with (go_at_call 48; refine (Yhh d a pb s i M i.a 4 _ HB.out.b HI.out.a HC.out.2.1).mono ?_; rintro e w6 ⟨rfl, hu⟩; rw [HC.out.2.2.2.1])
  first
  |exact hK _ (HB.out.quiet hu _ (by decide))
  |exact HB.out.quiet hu _ (by decide)
 ·exact ⟨_, rfl⟩
 iterate 5
  apply Yn rfl rfl
  ·intro dn r0 K hd hdep hK w5 hB1
   have c10 : w5.cell? ⟨d, 10, none⟩ = some (.bool s.cf) := hB1.b.cell 10
   have c11 : w5.cell? ⟨d, 11, none⟩ = some (.bool s.pf) := hB1.b.cell 11
   have c12 : w5.cell? ⟨d, 12, none⟩ = some (.bool s.af) := hB1.b.cell 12
   have c13 : w5.cell? ⟨d, 13, none⟩ = some (.bool s.zf) := hB1.b.cell 13
   have c14 : w5.cell? ⟨d, 14, none⟩ = some (.bool s.sf) := hB1.b.cell 14
   have c15 : w5.cell? ⟨d, 15, none⟩ = some (.bool s.of_) := hB1.b.cell 15
   have ci := Ya hB1.o
   unfold Ins.cells at ci
   have HB := Yh_ hB1
   clear hB1 hdep
   go_wp2_with fail
   first
   |exact hK _ (HB.out.same _ (by decide))
   |exact HB.out.same _ (by decide)
  ·exact ⟨_, rfl⟩
 apply Yn rfl rfl
 ·intro dn r0 K hd hdep hK w5 hB1
  have HB := Yh_ hB1
  clear hB1 hdep
  go_wp2_with (go_at_call 47; refine (Yn8 op v 0 s.fl _ HOP.out HRV.out (by decide)).mono ?_; rintro e w6 ⟨rfl, hu⟩; rw [HC.out.2.2.2.2.1, HC.out.2.2.2.2.2]; unfold Fl.cells)
  first
  |exact hK _ (HB.out.quiet hu _ (by decide))
  |exact HB.out.quiet hu _ (by decide)
 ·exact ⟨_, rfl⟩
 iterate 3
  apply Yn rfl rfl
  ·intro dn r0 K hd hdep hK w5 hB1
   have c10 : w5.cell? ⟨d, 10, none⟩ = some (.bool s.cf) := hB1.b.cell 10
   have c11 : w5.cell? ⟨d, 11, none⟩ = some (.bool s.pf) := hB1.b.cell 11
   have c12 : w5.cell? ⟨d, 12, none⟩ = some (.bool s.af) := hB1.b.cell 12
   have c13 : w5.cell? ⟨d, 13, none⟩ = some (.bool s.zf) := hB1.b.cell 13
   have c14 : w5.cell? ⟨d, 14, none⟩ = some (.bool s.sf) := hB1.b.cell 14
   have c15 : w5.cell? ⟨d, 15, none⟩ = some (.bool s.of_) := hB1.b.cell 15
   have ci := Ya hB1.o
   unfold Ins.cells at ci
   have HB := Yh_ hB1
   clear hB1 hdep
   go_wp2_with fail
   first
   |exact hK _ (HB.out.same _ (by decide))
   |exact HB.out.same _ (by decide)
  ·exact ⟨_, rfl⟩
 refine Ybs rfl (fun _ => rfl) 5 rfl (by simp [Act.put]) ?_ ?_
 ·intro dn r0 K hd w5 hB1 hK
  have HB := Yh_ hB1
  clear hB1
  simp only [Yw]
  go_wp2_with fail
  first
  |exact hK (.pointer (some ⟨w5.heap.size, 0, none⟩)) _ HB.out.lay
  |exact HB.out.lay
 iterate 1
  apply Ydo rfl (fun _ => rfl)
  ·intro dn r0 K hd hdep hK w5 hB1
   have c10 : w5.cell? ⟨d, 10, none⟩ = some (.bool s.cf) := hB1.b.cell 10
   have c11 : w5.cell? ⟨d, 11, none⟩ = some (.bool s.pf) := hB1.b.cell 11
   have c12 : w5.cell? ⟨d, 12, none⟩ = some (.bool s.af) := hB1.b.cell 12
   have c13 : w5.cell? ⟨d, 13, none⟩ = some (.bool s.zf) := hB1.b.cell 13
   have c14 : w5.cell? ⟨d, 14, none⟩ = some (.bool s.sf) := hB1.b.cell 14
   have c15 : w5.cell? ⟨d, 15, none⟩ = some (.bool s.of_) := hB1.b.cell 15
   have ci := Ya hB1.o
   unfold Ins.cells at ci
   have HB := Yh_ hB1
   clear hB1 hdep
   simp only [Yw]
   go_wp2_with fail
   first
   |exact hK _ (HB.out.same _ (by decide))
   |exact HB.out.same _ (by decide)
  ·exact ⟨_, fun _ => rfl, rfl⟩
 refine Ybv (fun _ r0 w5 dn hall hB1 => ?_)
 obtain ⟨g, e1', e2', e3'⟩ := hB1.y (hall 14 (by decide))
 have ci := Ya hB1.o
 unfold Ins.cells at ci
 have hcb := Yh HD.out.h
 have hpb : pb < w.heap.size := by obtain ⟨C, _, hc⟩ := HD.out.m.pg; exact Yh hc
 have hab : a < w.heap.size := by obtain ⟨C, _, hc⟩ := HD.out.m.hd; exact Yh hc
 have H5 := Yh_ (And.intro hB1.b (And.intro hB1.o (And.intro hB1.u (And.intro e3' (And.intro e2' (And.intro hcb (And.intro hpb hab)))))))
 clear hB1 e3' hall e2' hcb hpb hab
 show wpList _ _ _ _ (Act.put (Yw _ _ [] _) (some 5) (r0 14)) _
 rw [e1']
 simp only [Yw]
 clear e1'
 go_wp2_with (first | (have _t := H5; clear _t; refine Ye 25 rfl ?_; refine Ye1 rfl 25 _ _ rfl g 0 (Fl.cells ⟨x0, x1, x2, x3, x4, x5⟩) rfl rfl H5.out.2.2.2.1 (show 0 + 6 ≤ 6 by decide) Yio (fl_one _) ?_; intro w6 hw; have h6 := fl_new hw H5.out.2.2.2.1; have hl := H5.out.2.2.2.2; have cg := Ya h6.1; unfold Fl.cells at cg; have H6 := Yh_ (And.intro (H5.out.1.keep h6.2 (by simp; omega) (by simp; omega) (by simp; omega)) (And.intro (h6.2.get H5.out.2.1 (by simp; omega)) (H5.out.2.2.1.also (S' := [g]) h6.2 (by simp; omega)))); clear hw h6 hl H5 ci) | (have _t := H6; clear _t; refine Ye 25 rfl ?_; refine wpList_store_mid rfl 25 _ _ rfl d 10 (Fl.cells ⟨x0, x1, x2, x3, x4, x5⟩) rfl rfl (Yd4 H6.out.1.h 10 6 (by rw [Ymy]; decide)) Yio (fl_one _) ?_; have u7 : Upd [d] w6 (w6.setCells d 10 (Fl.cells ⟨x0, x1, x2, x3, x4, x5⟩).toList) := (Upd.refl [d] w6).setCells (.inl (by simp)) _ _; have hcb := Yh HD.out.h; have hi7 := u7.get H6.out.2.1 (by simp; omega); have ci := Ya hi7; unfold Ins.cells at ci; have H7 := Yh_ (And.intro (H6.out.1.putFl ⟨x0, x1, x2, x3, x4, x5⟩) (H6.out.2.2.also u7 (by simp))); clear u7 hcb hi7 H6 cg) | (have _t := H7; clear _t; go_at_call 49; refine (Yn9 d a pb _ i M i.a 4 V _ H7.out.1 HI.out.a HVR.out HC.out.2.2.1).mono ?_; rintro e w8 ⟨rfl, hd, hu⟩; have H8 := Yh_ (And.intro hd (H7.out.2.also hu (fun x hx => .inl hx))); clear hd hu H7))
 go_end0
 exact ⟨rfl, H8.out.1, H8.out.2⟩
end
section
structure DrC (w : World) (d a pb : Nat) (s : St) (i : Ins) (M : Mem) (dn : Nat → Bool) (r : Nat → Value) (w1 : World) : Prop where
 b : Yag w1 d a pb s i M
 u : Upd [] w w1
 x : dn 7 = true → ∃ g Z, r 7 = .pointer (some ⟨g, 0, none⟩) ∧ w.heap.size ≤ g ∧ w1.heap[g]? = some (.cells Z 41 (0, 0)) ∧ Z.size = 16 ∧ (dn 8 = true → Z = i.cells)
 xo : dn 8 = true → dn 7 = true
section
variable {w w1 w2 : World} {d a pb : Nat} {s : St} {i : Ins} {M : Mem} {dn : Nat → Bool} {r : Nat → Value}
theorem DrC.start (h : Yag w d a pb s i M) (r : Nat → Value) : DrC w d a pb s i M (fun _ => false) r w.drew :=
 ⟨h.keep (Upd.refl [] _).drew (by simp) (by simp) (by simp), (Upd.refl [] w).drew, fun h => (by cases h), fun h => (by cases h)⟩
theorem DrC.same (h : DrC w d a pb s i M dn r w1) (m : Nat) (h1 : 7 ≠ m) (h2 : 8 ≠ m) : DrC w d a pb s i M (Yaq dn m) r w1 := by
 refine ⟨h.b, h.u, fun hx => ?_, fun hx => ?_⟩
 ·rw [Yax h1] at hx
  obtain ⟨g, Z, e1, e2, e3, e4, e5⟩ := h.x hx
  exact ⟨g, Z, e1, e2, e3, e4, fun hk => e5 (by rwa [Yax h2] at hk)⟩
 ·rw [Yax h2] at hx; rw [Yax h1]; exact h.xo hx
theorem DrC.lay (h : DrC w d a pb s i M dn r w1) (hd : dn 7 = false) : DrC w d a pb s i M (Yaq dn 7) (Ydd r 7 (.pointer (some ⟨w1.heap.size, 0, none⟩))) (w1.alloc (.cells Ins.zero.cells 41)) := by
 have u := (Upd.refl [] w1).alloc (.cells Ins.zero.cells 41)
 refine ⟨h.b.keep u (by simp) (by simp) (by simp), h.u.also u (by simp), fun _ => ⟨_, _, vq_eq, h.u.size, heap_alloc_new _ _, rfl, fun hk => ?_⟩, fun _ => bq_eq⟩
 rw [Yax (by decide)] at hk
 rw [h.xo hk] at hd; cases hd
theorem DrC.put (h : DrC w d a pb s i M dn r w1) {g : Nat} {Z : Array Value} (hg : r 7 = .pointer (some ⟨g, 0, none⟩)) (hl : w.heap.size ≤ g) (hdl : d < w.heap.size ∧ a < w.heap.size ∧ pb < w.heap.size) (hb : w1.heap[g]? = some (.cells Z 41 (0, 0))) (hZ : Z.size = 16) (hd : dn 7 = true) : DrC w d a pb s i M (Yaq dn 8) r (w1.setCells g 0 i.cells.toList) := by
 obtain ⟨z1, z2⟩ := Yay (S := [g]) (w0 := w1) (w' := w1.setCells g 0 i.cells.toList) rfl hb hZ (Upd.refl _ _) (.inl (by simp))
 exact ⟨h.b.keep z2 (by simp; omega) (by simp; omega) (by simp; omega), h.u.also z2 (by simp; omega), fun _ => ⟨g, i.cells, hg, hl, z1, rfl, fun _ => rfl⟩, fun _ => by rw [Yax (by decide)]; exact hd⟩
end
theorem moves_43 (d a pb : Nat) (s : St) (i : Ins) (M : Mem) (w : World) (h : Yag w d a pb s i M) (hop : i.op = 43) :
  Calls Tryz.prog 54 #[.pointer (some ⟨d, 0, none⟩)] w fun e w' => e = .returned (.tuple #[]) ∧ Yag w' d a pb s i M ∧ Upd [d, pb] w w' := by
 have hlt : d < w.heap.size ∧ a < w.heap.size ∧ pb < w.heap.size := ⟨h.lt, by obtain ⟨C, _, hc⟩ := h.m.hd; exact Yh hc, by obtain ⟨C, _, hc⟩ := h.m.pg; exact Yh hc⟩
 have HD := Yh_ (And.intro h hlt)
 clear h hlt
 go_enter Tryz.func54, Tryz.ntmps54
 go_wp2_with fail
 refine Yb5 9 (DrC w d a pb s i M) (fun _ _ => False) (by kernel_rfl) (by decide +kernel) (fun r0 => DrC.start HD.out.1 r0) (fun _ _ _ h => h.elim) ?_
 simp only [List.take_succ_cons, List.take_zero, List.drop_succ_cons, List.drop_zero]
 iterate 3
  apply Yn rfl rfl
  ·intro dn r0 K hd hdep hK w5 hB1
   have HB := Yh_ hB1
   clear hB1 hdep
   go_wp2_with fail
   first
   |exact hK _ (HB.out.same _ (by decide) (by decide))
   |exact HB.out.same _ (by decide) (by decide)
  ·exact ⟨_, rfl⟩
 apply Yn rfl rfl
 ·intro dn r0 K hd hdep hK w5 hB1
  refine wp_load_mid 41 _ rfl d 18 rfl i.cells.toList _ hB1.b.ri Tryz.underlying41 rfl (by rw [Array.length_toList, Ins.size]; exact Ycl) ?_
  rw [Array.toArray_toList]
  exact hK _ (hB1.same _ (by decide) (by decide))
 ·exact ⟨_, rfl⟩
 iterate 3
  apply Yn rfl rfl
  ·intro dn r0 K hd hdep hK w5 hB1
   have HB := Yh_ hB1
   clear hB1 hdep
   go_wp2_with fail
   first
   |exact hK _ (HB.out.same _ (by decide) (by decide))
   |exact HB.out.same _ (by decide) (by decide)
  ·exact ⟨_, rfl⟩
 refine Ybs rfl (fun _ => rfl) 2 rfl (by simp [Act.put]) ?_ ?_
 ·intro dn r0 K hd w5 hB1 hK
  have HB := Yh_ hB1
  clear hB1
  simp only [Yw]
  go_wp2_with fail
  first
  |exact hK (.pointer (some ⟨w5.heap.size, 0, none⟩)) _ (HB.out.lay hd)
  |exact HB.out.lay hd
 apply Ydo rfl (fun _ => rfl)
 ·intro dn r0 K hd hdep hK w5 hB1
  have h8 : dn 7 = true := hdep ⟨7, .data⟩ (by simp) rfl
  obtain ⟨g, Z, e1, e2, e3, e4, _⟩ := hB1.x h8
  refine Yg3 i g _ _ rfl (by show r0 7 = _; exact e1) rfl e3 e4 ?_
  intro w6 hw
  rw [← hw]
  exact hK _ (hB1.put e1 e2 HD.out.2 e3 e4 h8)
 ·exact ⟨_, fun _ => rfl, rfl⟩
 refine Ybv (fun _ r0 w5 dn hall hB1 => ?_)
 obtain ⟨g, Z, e1, e2, e3, _, e5⟩ := hB1.x (hall 7 (by decide))
 rw [e5 (hall 8 (by decide))] at e3
 have ci := Ya e3
 unfold Ins.cells at ci
 have H3 := Yh_ (And.intro hB1.b (And.intro e3 (hB1.u.mono (T := [d, pb]) (by simp))))
 clear hB1 hall e2 e3 e5
 show wpList _ _ _ _ (Act.put (Yw _ _ [] _) (some 2) (r0 7)) _
 rw [e1]
 simp only [Yw]
 clear e1
 go_wp2_with fail
 go_end0
 exact ⟨rfl, H3.out.1, H3.out.2.2⟩
theorem does_43 (d a pb : Nat) (s : St) (i : Ins) (M : Mem) (w : World) (h : Yag w d a pb s i M) (hop : i.op = 43) :
  Calls Tryz.prog 32 #[.pointer (some ⟨d, 0, none⟩)] w fun e w' => e = .returned (.tuple #[]) ∧ Yag w' d a pb s i M ∧ Upd [d, pb] w w' := by
 have HD := Yh_ h
 have tokL : True := trivial
 have tokS : True := trivial
 have HO := Yh_ hop
 clear h
 go_enter Tryz.func32, Tryz.ntmps32
 go_wp2_with (first | (have _t := tokL; clear _t tokL; refine Yat 41 rfl ?_; refine wpList_load_mid rfl 41 _ rfl d 18 rfl i.cells.toList _ HD.out.ri Tryz.underlying41 rfl (by rw [Array.length_toList, Ins.size]; exact Ycl) ?_; rw [Array.toArray_toList]) | (have _t := tokS; clear _t tokS; refine Ye 41 rfl ?_; refine Yc i w.heap.size rfl _ _ rfl rfl rfl (heap_alloc_new w (.cells Ins.zero.cells 41)) rfl ?_; intro w3 hw; have h3 := Yfb HD.out hw; have ci := Ya h3.2.1; unfold Ins.cells at ci; have H3 := Yh_ h3; clear hw h3) | (have _t := H3; clear _t; go_at_call 54; refine (moves_43 d a pb s i M _ H3.out.1 HO.out).mono ?_; rintro e w5 ⟨rfl, hd, hu⟩; have H5 := Yh_ (And.intro hd (H3.out.2.2.also hu (fun x hx => .inl hx))); clear hd hu H3 ci))
 go_end0
 exact ⟨rfl, H5.out.1, H5.out.2⟩
end
theorem outs_yes (kb sb ub : Nat) (w : World) (hk : w.heap[kb]? = some (.cells #[.bool true] 4 (0, 0))) :
  CallsD Tryz.prog 30 #[.pointer (some ⟨kb, 0, none⟩), .pointer (some ⟨sb, 0, none⟩), .pointer (some ⟨ub, 0, none⟩)] .returning w fun e u' w' => e = .returned (.tuple #[]) ∧ u' = .returning ∧ w = w' := by
 refine callsD_of_wpS Tryz.func30 rfl fun c₀ cs hu => ?_
 simp only [Tryz.ntmps30, List.size_toArray, List.length_cons, List.length_nil, Nat.reduceAdd, Nat.reduceSub, Array.replicate_succ, Array.replicate_zero, List.push_toArray, List.append_toArray, List.nil_append, List.cons_append]
 refine wpS_of_wp ?_
 have ck := Ya hk
 have HU := Yh_ hu
 clear hu hk
 go_wp2_with fail
 refine ⟨rfl, .returning, ?_, _, results_none rfl _ _ _, rfl, rfl, rfl⟩
 rw [← HU.out]
theorem outs_no (kb sb ub : Nat) (s : St) (c : Array Value) (w : World) (hk : w.heap[kb]? = some (.cells #[.bool false] 4 (0, 0))) (hs : w.heap[sb]? = some (.cells s.cells 28 (0, 0))) (hb : w.heap[ub]? = some (.cells c 28 (0, 0))) (hc : c.size = 17) :
  CallsD Tryz.prog 30 #[.pointer (some ⟨kb, 0, none⟩), .pointer (some ⟨sb, 0, none⟩), .pointer (some ⟨ub, 0, none⟩)] .returning w fun e u' w' => e = .returned (.tuple #[]) ∧ u' = .returning ∧ w' = w.setCells ub 0 s.cells.toList := by
 refine callsD_of_wpS Tryz.func30 rfl fun c₀ cs hu => ?_
 simp only [Tryz.ntmps30, List.size_toArray, List.length_cons, List.length_nil, Nat.reduceAdd, Nat.reduceSub, Array.replicate_succ, Array.replicate_zero, List.push_toArray, List.append_toArray, List.nil_append, List.cons_append]
 refine wpS_of_wp ?_
 have ck := Ya hk
 have HU := Yh_ (And.intro hu (And.intro hs hb))
 clear hu hk hs hb
 have tokL : True := trivial
 have tokS : True := trivial
 go_wp2_with (first | (have _t := tokL; clear _t tokL; refine Yat 28 rfl ?_; refine Yaa s sb rfl _ rfl rfl HU.out.2.1 ?_) | (have _t := tokS; clear _t tokS; refine Ye 28 rfl ?_; refine Yc1 s ub rfl _ _ rfl rfl rfl HU.out.2.2 hc ?_))
 refine ⟨rfl, .returning, ?_, _, results_none rfl _ _ _, rfl, rfl, rfl⟩
 rw [← HU.out.1]
theorem Yjb (a : Nat) (s : St) (i : Ins) (w : World) : (Instr.build 86 #[(0, .pointer (some ⟨a, 0, none⟩)), (1, .agg s.cells), (2, .agg i.cells)]).run Tryz.prog w = .ok (.agg (Ybm a s i)) w := by
 unfold St.cells Ins.cells Ybm
 kernel_rfl
theorem Yfv {ops : Array Oper} {rest : List Oper} {o : Oper} {a : Act} {w : World} {Q : Exit → Act → World → Prop} (hgd : o.guard = none) (p : Nat) (s : St) (i : Ins) (x y z : Operand) (ho : o.op = .build 86 #[(0, x), (1, y), (2, z)]) (hx : a.eval x = .pointer (some ⟨p, 0, none⟩)) (hy : a.eval y = .agg s.cells) (hz : a.eval z = .agg i.cells)
  (h : wpList Tryz.prog ops Q rest (a.put o.dst (.agg (Ybm p s i))) w) : wpList Tryz.prog ops Q (o :: rest) a w := by
 refine wpList_plain hgd fun _ hK => ?_
 unfold Oper.wp execOp
 simp only [ho, List.map_toArray, List.map_cons, List.map_nil, hx, hy, hz, Sem.run_bind, Yjb, Result.andThen_ok, Sem.run_pure]
 exact hK _ _ h
def St.goOn (s : St) (n : Int) : St := { s with pc := (s.pc + n) % 4294967296 }
theorem St.goOn_ok {s : St} (h : s.Ok) (n : Int) : (s.goOn n).Ok := ⟨h.R, by simp only [St.goOn]; omega, h.f⟩
def Yjp (pc : Int) (fb kb sb ub : Nat) : List Deferred :=
 [{ target := .fn (.func 31) #[], args := #[.int .u32 pc, .pointer (some ⟨fb, 0, none⟩), .pointer (some ⟨kb, 0, none⟩)] },
  { target := .fn (.func 30) #[.pointer (some ⟨kb, 0, none⟩), .pointer (some ⟨sb, 0, none⟩), .pointer (some ⟨ub, 0, none⟩)], args := #[] }]
theorem Yna {fn : Func} {tmps : Array Value} {R : Ending → World → Prop} {w1 : World} {pc : Int} {fb kb sb ub : Nat} (V : Value) (hk : w1.heap[kb]? = some (.cells #[.bool true] 4 (0, 0))) (hres : (results fn tmps).run Tryz.prog w1 = .ok V w1) (hR : R (.returned V) w1) :
  Leaves Tryz.prog fn tmps R (Yjp pc fb kb sb ub) .returning w1 := by
 refine leaves_cons (f := 31) (args := #[.int .u32 pc, .pointer (some ⟨fb, 0, none⟩), .pointer (some ⟨kb, 0, none⟩)]) (by simp) (by simp [go_sem]) ?_
 refine (Ygw _ _ _ w1).mono ?_
 rintro e u' w2 ⟨rfl, rfl, rfl⟩
 simp only [settle]
 refine leaves_cons (f := 30) (args := #[.pointer (some ⟨kb, 0, none⟩), .pointer (some ⟨sb, 0, none⟩), .pointer (some ⟨ub, 0, none⟩)]) (by simp) (by simp [go_sem]) ?_
 refine (outs_yes kb sb ub _ hk).mono ?_
 rintro e u' w2 ⟨rfl, rfl, rfl⟩
 simp only [settle]
 exact ⟨_, hres, hR⟩
theorem Yje {fn : Func} {tmps : Array Value} {R : Ending → World → Prop} {w1 : World} {pc : Int} {fb kb sb ub : Nat} {y0 y1 y2 y3 k0 : Value} {s : St} {c : Array Value} (F : Flt) (V : Value)
  (hf : w1.heap[fb]? = some (.cells #[y0, y1, y2, y3] 35 (0, 0))) (hk : w1.heap[kb]? = some (.cells #[k0] 4 (0, 0))) (hs : w1.heap[sb]? = some (.cells s.cells 28 (0, 0))) (hu : w1.heap[ub]? = some (.cells c 28 (0, 0))) (hc : c.size = 17)
  (hne : fb ≠ kb ∧ fb ≠ sb ∧ fb ≠ ub ∧ kb ≠ sb ∧ kb ≠ ub ∧ sb ≠ ub)
  (hres : ∀ w2, w2.heap[fb]? = some (.cells #[.int .i64 F.k, .int .u32 pc, .int .u32 F.a, .int .i64 F.wt] 35 (0, 0)) → w2.heap[kb]? = some (.cells #[.bool false] 4 (0, 0)) → w2.heap[ub]? = some (.cells s.cells 28 (0, 0)) → (results fn tmps).run Tryz.prog w2 = .ok V w2)
  (hR : ∀ w2, Upd [fb, kb, ub] w1 w2 → R (.returned V) w2) :
  Leaves Tryz.prog fn tmps R (Yjp pc fb kb sb ub) (.panicking [{ v := .iface 35 F.val, recovered := false }]) w1 := by
 refine leaves_cons (f := 31) (args := #[.int .u32 pc, .pointer (some ⟨fb, 0, none⟩), .pointer (some ⟨kb, 0, none⟩)]) (by simp) (by simp [go_sem]) ?_
 refine (Ye2 pc fb kb _ _ _ _ _ _ _ _ _ [] w1 hf hk hne.1).mono ?_
 rintro e u' w2 ⟨rfl, rfl, hf2, hk2, hU⟩
 simp only [settle, List.dropWhile_nil]
 have hs2 := hU.get hs (by simp; omega)
 have hu2 := hU.get hu (by simp; omega)
 refine leaves_cons (f := 30) (args := #[.pointer (some ⟨kb, 0, none⟩), .pointer (some ⟨sb, 0, none⟩), .pointer (some ⟨ub, 0, none⟩)]) (by simp) (by simp [go_sem]) ?_
 refine (outs_no kb sb ub s c _ hk2 hs2 hu2 hc).mono ?_
 rintro e u' w3 ⟨rfl, rfl, rfl⟩
 simp only [settle]
 have u3 : Upd [ub] w2 (w2.setCells ub 0 s.cells.toList) := (Upd.refl [ub] w2).setCells (.inl (by simp)) _ _
 exact ⟨_, hres _ (u3.get hf2 (by simp; omega)) (u3.get hk2 (by simp; omega)) (Ybb s hu2 hc), hR _ ((hU.mono (by simp)).trans u3 (fun _ h => h) (fun x hx => .inl (by simp at hx; simp [hx])))⟩
structure DoS (w : World) (s : St) (i : Ins) (w1 : World) : Prop where
 zs : w1.heap[w.heap.size]? = some (.cells s.cells 28 (0, 0))
 zi : w1.heap[w.heap.size + 1]? = some (.cells i.cells 41 (0, 0))
 zo : w1.heap[w.heap.size + 1 + 1]? = some (.cells St.zero.cells 28 (0, 0))
 zf : w1.heap[w.heap.size + 1 + 1 + 1]? = some (.cells #[.int .i64 0, .int .u32 0, .int .u32 0, .int .i64 0] 35 (0, 0))
 zk : w1.heap[w.heap.size + 1 + 1 + 1 + 1]? = some (.cells #[.bool false] 4 (0, 0))
theorem DoS.keep {w w1 w2 : World} {s : St} {i : Ins} {S : List Nat} (h : DoS w s i w1) (u : Upd S w1 w2) (hS : ∀ x, x ∈ S → x < w.heap.size ∨ w.heap.size + 4 < x) : DoS w s i w2 := by
 have n : ∀ k, k ≤ 4 → w.heap.size + k ∉ S := fun k hk hh => by have := hS _ hh; omega
 exact ⟨u.get h.zs (n 0 (by decide)), u.get h.zi (n 1 (by decide)), u.get h.zo (n 2 (by decide)), u.get h.zf (n 3 (by decide)), u.get h.zk (n 4 (by decide))⟩
def doW (w : World) (s : St) (i : Ins) : World := ((((w.alloc (.cells s.cells 28)).alloc (.cells i.cells 41)).alloc (.cells St.zero.cells 28)).alloc (.cells #[.int .i64 0, .int .u32 0, .int .u32 0, .int .i64 0] 35)).alloc (.cells #[.bool false] 4)
theorem doW_up (w : World) (s : St) (i : Ins) : Upd [] w (doW w s i) := (((((Upd.refl [] w).alloc _).alloc _).alloc _).alloc _).alloc _
theorem DoS.start (w : World) (s : St) (i : Ins) : DoS w s i (doW w s i) := by
 have h2 := heap_alloc_new ((w.alloc (.cells s.cells 28)).alloc (.cells i.cells 41)) (.cells St.zero.cells 28)
 have h3 := heap_alloc_new (((w.alloc (.cells s.cells 28)).alloc (.cells i.cells 41)).alloc (.cells St.zero.cells 28)) (.cells #[.int .i64 0, .int .u32 0, .int .u32 0, .int .i64 0] 35)
 have h4 := heap_alloc_new ((((w.alloc (.cells s.cells 28)).alloc (.cells i.cells 41)).alloc (.cells St.zero.cells 28)).alloc (.cells #[.int .i64 0, .int .u32 0, .int .u32 0, .int .i64 0] 35)) (.cells #[.bool false] 4)
 rw [show ((w.alloc (.cells s.cells 28)).alloc (.cells i.cells 41)).heap.size = w.heap.size + 1 + 1 from by simp] at h2
 rw [show (((w.alloc (.cells s.cells 28)).alloc (.cells i.cells 41)).alloc (.cells St.zero.cells 28)).heap.size = w.heap.size + 1 + 1 + 1 from by simp] at h3
 rw [show ((((w.alloc (.cells s.cells 28)).alloc (.cells i.cells 41)).alloc (.cells St.zero.cells 28)).alloc (.cells #[.int .i64 0, .int .u32 0, .int .u32 0, .int .i64 0] 35)).heap.size = w.heap.size + 1 + 1 + 1 + 1 from by simp] at h4
 exact ⟨Yl _ (Yl _ (Yl _ (heap_alloc2_old _ _ _))), Yl _ (Yl _ (Yl _ (heap_alloc2_new _ _ _))), Yl _ (Yl _ h2), Yl _ h3, h4⟩
end Go.Proofs.YthakgjpejhjaoaaGreat
