/-
  Parts of the proof (their names shortened by a program). No condition.
-/
import Derived.Test.YthakgjpejhjaoaaGreatMg01
import Derived.Test.YthakgjpejhjaoaaGreatMg17
import Derived.Test.YthakgjpejhjaoaaGreatMg05
import Derived.Test.YthakgjpejhjaoaaGreatMg08
namespace Go.Proofs.YthakgjpejhjaoaaGreat
open Go Go.RowKit
set_option linter.unusedVariables false
set_option linter.unusedSimpArgs false
set_option maxRecDepth 100000
set_option maxHeartbeats 16000000
theorem Yi5 (a b : Int) (ha : 0 ≤ a ∧ a < 4294967296) (hb : 0 ≤ b ∧ b < 4294967296) : 0 ≤ bits .and .u32 a b ∧ bits .and .u32 a b < 4294967296 := by
 obtain ⟨a, rfl⟩ := Int.eq_ofNat_of_zero_le ha.1
 obtain ⟨b, rfl⟩ := Int.eq_ofNat_of_zero_le hb.1
 rw [u32_and_nat a b (by omega) (by omega)]
 have : a &&& b ≤ a := Nat.and_le_left
 omega
theorem or_u32 (a b : Int) (ha : 0 ≤ a ∧ a < 4294967296) (hb : 0 ≤ b ∧ b < 4294967296) : 0 ≤ bits .or .u32 a b ∧ bits .or .u32 a b < 4294967296 := by
 obtain ⟨a, rfl⟩ := Int.eq_ofNat_of_zero_le ha.1
 obtain ⟨b, rfl⟩ := Int.eq_ofNat_of_zero_le hb.1
 rw [u32_or_nat a b (by omega) (by omega)]
 have : a ||| b < 2 ^ 32 := Nat.or_lt_two_pow (by omega) (by omega)
 omega
theorem Yi0 (a b : Int) (ha : 0 ≤ a ∧ a < 4294967296) (hb : 0 ≤ b ∧ b < 4294967296) : 0 ≤ bits .xor .u32 a b ∧ bits .xor .u32 a b < 4294967296 := by
 obtain ⟨a, rfl⟩ := Int.eq_ofNat_of_zero_le ha.1
 obtain ⟨b, rfl⟩ := Int.eq_ofNat_of_zero_le hb.1
 rw [u32_xor_nat a b (by omega) (by omega)]
 have : a ^^^ b < 2 ^ 32 := Nat.xor_lt_two_pow (by omega) (by omega)
 omega
structure AlS (w : World) (f : Fl) (w1 : World) : Prop where
 z7 : w1.heap[w.heap.size]? = some (.cells f.cells 25 (0, 0))
 z9 : w1.heap[w.heap.size + 1]? = some (.cells Fl.zero.cells 25 (0, 0))
 z10 : w1.heap[w.heap.size + 1 + 1]? = some (.cells f.cells 25 (0, 0))
 u : Upd [] w w1
theorem AlS.of {w w1 : World} {f : Fl} (hu : Upd [] (((w.alloc (.cells f.cells 25)).alloc (.cells Fl.zero.cells 25)).alloc (.cells f.cells 25)) w1) : AlS w f w1 := by
 have h2 := heap_alloc_new ((w.alloc (.cells f.cells 25)).alloc (.cells Fl.zero.cells 25)) (.cells f.cells 25)
 rw [show ((w.alloc (.cells f.cells 25)).alloc (.cells Fl.zero.cells 25)).heap.size = w.heap.size + 1 + 1 from by simp] at h2
 exact ⟨hu.get (Yj _ (heap_alloc2_old _ _ _)) (by simp), hu.get (Yj _ (heap_alloc2_new _ _ _)) (by simp), hu.get h2 (by simp), ((((Upd.refl [] w).alloc _).alloc _).alloc _).also hu (by simp)⟩
structure AlE (w : World) (f : Fl) (w1 : World) : Prop where
 r7 : w1.heap[w.heap.size]? = some (.cells f.cells 25 (0, 0))
 r9 : w1.heap[w.heap.size + 1]? = some (.cells Fl.zero.cells 25 (0, 0))
 u : Upd [] w w1
theorem AlE.drew {w w1 : World} {f : Fl} (h : AlE w f w1) : AlE w f w1.drew := by
 have u := (Upd.refl [] w1).drew
 exact ⟨u.get h.r7 (by simp), u.get h.r9 (by simp), h.u.drew⟩
theorem AlS.st {w w1 : World} {f : Fl} (h : AlS w f w1) (x0 x1 x2 x3 x4 x5 : Bool) : AlE w ⟨x0, x1, x2, x3, x4, x5⟩ ((((((w1.setCell ⟨w.heap.size, 0, none⟩ (.bool x0)).setCell ⟨w.heap.size, 1, none⟩ (.bool x1)).setCell ⟨w.heap.size, 2, none⟩ (.bool x2)).setCell ⟨w.heap.size, 3, none⟩ (.bool x3)).setCell ⟨w.heap.size, 4, none⟩ (.bool x4)).setCell ⟨w.heap.size, 5, none⟩ (.bool x5)) :=
 ⟨Ycd h.z7 _ _ _ _ _ _, (Ya7 (S := [w.heap.size]) (Upd.refl _ w1) (.inl (by simp)) _ _ _ _ _ _).get h.z9 (by simp), Ya7 h.u (.inr (Nat.le_refl _)) _ _ _ _ _ _⟩
theorem AlE.cf {w w1 : World} {f : Fl} (h : AlE w f w1) (x : Bool) : AlE w { f with cf := x } (w1.setCell ⟨w.heap.size, 0, none⟩ (.bool x)) :=
 ⟨Yi h.r7 0 (.bool x), ((Upd.refl [w.heap.size] w1).setCell (p := ⟨w.heap.size, 0, none⟩) (.inl (by simp)) (.bool x)).get h.r9 (by simp), h.u.setCell (p := ⟨w.heap.size, 0, none⟩) (.inr (Nat.le_refl _)) _⟩
theorem AlE.start {w : World} {f : Fl} : AlE w f (((w.alloc (.cells f.cells 25)).alloc (.cells Fl.zero.cells 25)).alloc (.cells f.cells 25)) :=
 ⟨(AlS.of (Upd.refl [] _)).z7, (AlS.of (Upd.refl [] _)).z9, (AlS.of (Upd.refl [] _)).u⟩
theorem aluDo_3 (a b : Int) (f : Fl) (w : World) (ha : 0 ≤ a ∧ a < 4294967296) (hb : 0 ≤ b ∧ b < 4294967296) :
  Calls Tryz.prog 47 #[.int .i64 3, .int .u32 a, .int .u32 b, .agg f.cells] w fun e w' => e = .returned (.tuple #[.int .u32 (Ybs 3 a b f), .agg (Ybd 3 a b f).cells]) ∧ Upd [] w w' := by
 obtain ⟨c, d, e', z, n, o⟩ := f
 have HA := Yh_ (And.intro ha hb)
 obtain ⟨⟨x0, x1, x2, x3, x4, x5⟩, hF⟩ : ∃ F, addF a b false = F := ⟨_, rfl⟩
 have HF := Yh_ hF
 have HV := Yh_ (show Ybd 3 a b ⟨c, d, e', z, n, o⟩ = ⟨x0, x1, x2, x3, x4, x5⟩ by simp [Ybd, hF])
 clear hF
 have tok : True := trivial
 clear ha hb
 rw [HV.out]
 simp only [Ybs]
 unfold Fl.cells
 go_enter Tryz.func47, Tryz.ntmps47
 go_wp2_with (have _t := tok; clear _t; go_at_call 61; refine (Yho a b false _ HA.out.1 HA.out.2).mono ?_; rintro e w1 ⟨rfl, hu⟩; rw [HF.out]; unfold Fl.cells; have h1 := AlS.of (f := ⟨c, d, e', z, n, o⟩) hu; have ch := Ya h1.z7; have fh := Yg h1.z7; have c10 := Ya h1.z10; unfold Fl.cells at ch c10; have H1 := Yh_ h1; clear hu h1 tok)
 refine Yax 3 (AlE w ⟨x0, x1, x2, x3, x4, x5⟩) (fun _ _ => False) (by kernel_rfl) (by decide +kernel) ((H1.out.st x0 x1 x2 x3 x4 x5)).drew (fun _ _ _ h => h.elim) ?_
 simp only [List.take_succ_cons, List.take_zero, List.drop_succ_cons, List.drop_zero]
 iterate 3
  apply Yab rfl rfl
  ·intro K hK w5 hB1
   have c7 := Ya hB1.r7
   unfold Fl.cells at c7
   have HB := Yh_ hB1
   clear hB1
   go_wp2_with fail
   first
   |exact hK _ HB.out
   |exact HB.out
  ·exact ⟨_, rfl⟩
 refine Yal (fun _ w5 hB1 => ?_)
 have c9 := Ya hB1.r9
 have f9 := Yg hB1.r9
 unfold Fl.cells Fl.zero at c9
 have HB := Yh_ hB1
 clear hB1
 go_wp2_with fail
 exact bodyPost_ret (Yap rfl (Yad 8 rfl) (Ycg 9 (w.heap.size + 1) ⟨x0, x1, x2, x3, x4, x5⟩ rfl (Ycd HB.out.r9 _ _ _ _ _ _))) rfl ⟨rfl, Ya7 HB.out.u (.inr (by omega)) _ _ _ _ _ _⟩
theorem aluDo_5 (a b : Int) (f : Fl) (w : World) (ha : 0 ≤ a ∧ a < 4294967296) (hb : 0 ≤ b ∧ b < 4294967296) :
  Calls Tryz.prog 47 #[.int .i64 5, .int .u32 a, .int .u32 b, .agg f.cells] w fun e w' => e = .returned (.tuple #[.int .u32 (Ybs 5 a b f), .agg (Ybd 5 a b f).cells]) ∧ Upd [] w w' := by
 obtain ⟨c, d, e', z, n, o⟩ := f
 have HA := Yh_ (And.intro ha hb)
 obtain ⟨⟨x0, x1, x2, x3, x4, x5⟩, hF⟩ : ∃ F, addF a b c = F := ⟨_, rfl⟩
 have HF := Yh_ hF
 have HV := Yh_ (show Ybd 5 a b ⟨c, d, e', z, n, o⟩ = ⟨x0, x1, x2, x3, x4, x5⟩ by simp [Ybd, hF])
 clear hF
 have tok : True := trivial
 clear ha hb
 rw [HV.out]
 simp only [Ybs]
 unfold Fl.cells
 go_enter Tryz.func47, Tryz.ntmps47
 go_wp2_with (have _t := tok; clear _t; go_at_call 61; refine (Yho a b c _ HA.out.1 HA.out.2).mono ?_; rintro e w1 ⟨rfl, hu⟩; rw [HF.out]; unfold Fl.cells; have h1 := AlS.of (f := ⟨c, d, e', z, n, o⟩) hu; have ch := Ya h1.z7; have fh := Yg h1.z7; have c10 := Ya h1.z10; unfold Fl.cells at ch c10; have H1 := Yh_ h1; clear hu h1 tok)
 refine Yax 3 (AlE w ⟨x0, x1, x2, x3, x4, x5⟩) (fun _ _ => False) (by kernel_rfl) (by decide +kernel) ((H1.out.st x0 x1 x2 x3 x4 x5)).drew (fun _ _ _ h => h.elim) ?_
 simp only [List.take_succ_cons, List.take_zero, List.drop_succ_cons, List.drop_zero]
 iterate 3
  apply Yab rfl rfl
  ·intro K hK w5 hB1
   have c7 := Ya hB1.r7
   unfold Fl.cells at c7
   have HB := Yh_ hB1
   clear hB1
   go_wp2_with fail
   first
   |exact hK _ HB.out
   |exact HB.out
  ·exact ⟨_, rfl⟩
 refine Yal (fun _ w5 hB1 => ?_)
 have c9 := Ya hB1.r9
 have f9 := Yg hB1.r9
 unfold Fl.cells Fl.zero at c9
 have HB := Yh_ hB1
 clear hB1
 go_wp2_with fail
 exact bodyPost_ret (Yap rfl (Yad 8 rfl) (Ycg 9 (w.heap.size + 1) ⟨x0, x1, x2, x3, x4, x5⟩ rfl (Ycd HB.out.r9 _ _ _ _ _ _))) rfl ⟨rfl, Ya7 HB.out.u (.inr (by omega)) _ _ _ _ _ _⟩
theorem aluDo_8 (a b : Int) (f : Fl) (w : World) (ha : 0 ≤ a ∧ a < 4294967296) (hb : 0 ≤ b ∧ b < 4294967296) :
  Calls Tryz.prog 47 #[.int .i64 8, .int .u32 a, .int .u32 b, .agg f.cells] w fun e w' => e = .returned (.tuple #[.int .u32 (Ybs 8 a b f), .agg (Ybd 8 a b f).cells]) ∧ Upd [] w w' := by
 obtain ⟨c, d, e', z, n, o⟩ := f
 have HA := Yh_ (And.intro ha hb)
 obtain ⟨⟨x0, x1, x2, x3, x4, x5⟩, hF⟩ : ∃ F, Yex a b false = F := ⟨_, rfl⟩
 have HF := Yh_ hF
 have HV := Yh_ (show Ybd 8 a b ⟨c, d, e', z, n, o⟩ = ⟨x0, x1, x2, x3, x4, x5⟩ by simp [Ybd, hF])
 clear hF
 have tok : True := trivial
 clear ha hb
 rw [HV.out]
 simp only [Ybs]
 unfold Fl.cells
 go_enter Tryz.func47, Tryz.ntmps47
 go_wp2_with (have _t := tok; clear _t; go_at_call 62; refine (Yeu a b false _ HA.out.1 HA.out.2).mono ?_; rintro e w1 ⟨rfl, hu⟩; rw [HF.out]; unfold Fl.cells; have h1 := AlS.of (f := ⟨c, d, e', z, n, o⟩) hu; have ch := Ya h1.z7; have fh := Yg h1.z7; have c10 := Ya h1.z10; unfold Fl.cells at ch c10; have H1 := Yh_ h1; clear hu h1 tok)
 refine Yax 3 (AlE w ⟨x0, x1, x2, x3, x4, x5⟩) (fun _ _ => False) (by kernel_rfl) (by decide +kernel) ((H1.out.st x0 x1 x2 x3 x4 x5)).drew (fun _ _ _ h => h.elim) ?_
 simp only [List.take_succ_cons, List.take_zero, List.drop_succ_cons, List.drop_zero]
 iterate 3
  apply Yab rfl rfl
  ·intro K hK w5 hB1
   have c7 := Ya hB1.r7
   unfold Fl.cells at c7
   have HB := Yh_ hB1
   clear hB1
   go_wp2_with fail
   first
   |exact hK _ HB.out
   |exact HB.out
  ·exact ⟨_, rfl⟩
 refine Yal (fun _ w5 hB1 => ?_)
 have c9 := Ya hB1.r9
 have f9 := Yg hB1.r9
 unfold Fl.cells Fl.zero at c9
 have HB := Yh_ hB1
 clear hB1
 go_wp2_with fail
 exact bodyPost_ret (Yap rfl (Yad 8 rfl) (Ycg 9 (w.heap.size + 1) ⟨x0, x1, x2, x3, x4, x5⟩ rfl (Ycd HB.out.r9 _ _ _ _ _ _))) rfl ⟨rfl, Ya7 HB.out.u (.inr (by omega)) _ _ _ _ _ _⟩
theorem aluDo_6 (a b : Int) (f : Fl) (w : World) (ha : 0 ≤ a ∧ a < 4294967296) (hb : 0 ≤ b ∧ b < 4294967296) :
  Calls Tryz.prog 47 #[.int .i64 6, .int .u32 a, .int .u32 b, .agg f.cells] w fun e w' => e = .returned (.tuple #[.int .u32 (Ybs 6 a b f), .agg (Ybd 6 a b f).cells]) ∧ Upd [] w w' := by
 obtain ⟨c, d, e', z, n, o⟩ := f
 have HA := Yh_ (And.intro ha hb)
 obtain ⟨⟨x0, x1, x2, x3, x4, x5⟩, hF⟩ : ∃ F, Yex a b c = F := ⟨_, rfl⟩
 have HF := Yh_ hF
 have HV := Yh_ (show Ybd 6 a b ⟨c, d, e', z, n, o⟩ = ⟨x0, x1, x2, x3, x4, x5⟩ by simp [Ybd, hF])
 clear hF
 have tok : True := trivial
 clear ha hb
 rw [HV.out]
 simp only [Ybs]
 unfold Fl.cells
 go_enter Tryz.func47, Tryz.ntmps47
 go_wp2_with (have _t := tok; clear _t; go_at_call 62; refine (Yeu a b c _ HA.out.1 HA.out.2).mono ?_; rintro e w1 ⟨rfl, hu⟩; rw [HF.out]; unfold Fl.cells; have h1 := AlS.of (f := ⟨c, d, e', z, n, o⟩) hu; have ch := Ya h1.z7; have fh := Yg h1.z7; have c10 := Ya h1.z10; unfold Fl.cells at ch c10; have H1 := Yh_ h1; clear hu h1 tok)
 refine Yax 3 (AlE w ⟨x0, x1, x2, x3, x4, x5⟩) (fun _ _ => False) (by kernel_rfl) (by decide +kernel) ((H1.out.st x0 x1 x2 x3 x4 x5)).drew (fun _ _ _ h => h.elim) ?_
 simp only [List.take_succ_cons, List.take_zero, List.drop_succ_cons, List.drop_zero]
 iterate 3
  apply Yab rfl rfl
  ·intro K hK w5 hB1
   have c7 := Ya hB1.r7
   unfold Fl.cells at c7
   have HB := Yh_ hB1
   clear hB1
   go_wp2_with fail
   first
   |exact hK _ HB.out
   |exact HB.out
  ·exact ⟨_, rfl⟩
 refine Yal (fun _ w5 hB1 => ?_)
 have c9 := Ya hB1.r9
 have f9 := Yg hB1.r9
 unfold Fl.cells Fl.zero at c9
 have HB := Yh_ hB1
 clear hB1
 go_wp2_with fail
 exact bodyPost_ret (Yap rfl (Yad 8 rfl) (Ycg 9 (w.heap.size + 1) ⟨x0, x1, x2, x3, x4, x5⟩ rfl (Ycd HB.out.r9 _ _ _ _ _ _))) rfl ⟨rfl, Ya7 HB.out.u (.inr (by omega)) _ _ _ _ _ _⟩
theorem aluDo_10 (a b : Int) (f : Fl) (w : World) (ha : 0 ≤ a ∧ a < 4294967296) (hb : 0 ≤ b ∧ b < 4294967296) :
  Calls Tryz.prog 47 #[.int .i64 10, .int .u32 a, .int .u32 b, .agg f.cells] w fun e w' => e = .returned (.tuple #[.int .u32 (Ybs 10 a b f), .agg (Ybd 10 a b f).cells]) ∧ Upd [] w w' := by
 obtain ⟨c, d, e', z, n, o⟩ := f
 have HA := Yh_ (And.intro ha hb)
 obtain ⟨⟨x0, x1, x2, x3, x4, x5⟩, hF⟩ : ∃ F, Yex a b false = F := ⟨_, rfl⟩
 have HF := Yh_ hF
 have HV := Yh_ (show Ybd 10 a b ⟨c, d, e', z, n, o⟩ = ⟨x0, x1, x2, x3, x4, x5⟩ by simp [Ybd, hF])
 clear hF
 have tok : True := trivial
 clear ha hb
 rw [HV.out]
 simp only [Ybs]
 unfold Fl.cells
 go_enter Tryz.func47, Tryz.ntmps47
 go_wp2_with (have _t := tok; clear _t; go_at_call 62; refine (Yeu a b false _ HA.out.1 HA.out.2).mono ?_; rintro e w1 ⟨rfl, hu⟩; rw [HF.out]; unfold Fl.cells; have h1 := AlS.of (f := ⟨c, d, e', z, n, o⟩) hu; have ch := Ya h1.z7; have fh := Yg h1.z7; have c10 := Ya h1.z10; unfold Fl.cells at ch c10; have H1 := Yh_ h1; clear hu h1 tok)
 refine Yax 3 (AlE w ⟨x0, x1, x2, x3, x4, x5⟩) (fun _ _ => False) (by kernel_rfl) (by decide +kernel) ((H1.out.st x0 x1 x2 x3 x4 x5)).drew (fun _ _ _ h => h.elim) ?_
 simp only [List.take_succ_cons, List.take_zero, List.drop_succ_cons, List.drop_zero]
 iterate 3
  apply Yab rfl rfl
  ·intro K hK w5 hB1
   have c7 := Ya hB1.r7
   unfold Fl.cells at c7
   have HB := Yh_ hB1
   clear hB1
   go_wp2_with fail
   first
   |exact hK _ HB.out
   |exact HB.out
  ·exact ⟨_, rfl⟩
 refine Yal (fun _ w5 hB1 => ?_)
 have c9 := Ya hB1.r9
 have f9 := Yg hB1.r9
 unfold Fl.cells Fl.zero at c9
 have HB := Yh_ hB1
 clear hB1
 go_wp2_with fail
 exact bodyPost_ret (Yap rfl (Yad 8 rfl) (Ycg 9 (w.heap.size + 1) ⟨x0, x1, x2, x3, x4, x5⟩ rfl (Ycd HB.out.r9 _ _ _ _ _ _))) rfl ⟨rfl, Ya7 HB.out.u (.inr (by omega)) _ _ _ _ _ _⟩
theorem aluDo_12 (a b : Int) (f : Fl) (w : World) (ha : 0 ≤ a ∧ a < 4294967296) (hb : 0 ≤ b ∧ b < 4294967296) :
  Calls Tryz.prog 47 #[.int .i64 12, .int .u32 a, .int .u32 b, .agg f.cells] w fun e w' => e = .returned (.tuple #[.int .u32 (Ybs 12 a b f), .agg (Ybd 12 a b f).cells]) ∧ Upd [] w w' := by
 obtain ⟨c, d, e', z, n, o⟩ := f
 have HA := Yh_ (And.intro ha hb)
 obtain ⟨⟨x0, x1, x2, x3, x4, x5⟩, hF⟩ : ∃ F, addF a 1 false = F := ⟨_, rfl⟩
 have HF := Yh_ hF
 have HV := Yh_ (show Ybd 12 a b ⟨c, d, e', z, n, o⟩ = ⟨c, x1, x2, x3, x4, x5⟩ by simp [Ybd, hF])
 clear hF
 have tok : True := trivial
 clear ha hb
 rw [HV.out]
 simp only [Ybs]
 unfold Fl.cells
 go_enter Tryz.func47, Tryz.ntmps47
 go_wp2_with (have _t := tok; clear _t; go_at_call 61; refine (Yho a 1 false _ HA.out.1 (by decide)).mono ?_; rintro e w1 ⟨rfl, hu⟩; rw [HF.out]; unfold Fl.cells; have h1 := AlS.of (f := ⟨c, d, e', z, n, o⟩) hu; have ch := Ya h1.z7; have fh := Yg h1.z7; have c10 := Ya h1.z10; unfold Fl.cells at ch c10; have H1 := Yh_ h1; clear hu h1 tok)
 refine Yax 3 (AlE w ⟨c, x1, x2, x3, x4, x5⟩) (fun _ _ => False) (by kernel_rfl) (by decide +kernel) (((H1.out.st x0 x1 x2 x3 x4 x5).cf c)).drew (fun _ _ _ h => h.elim) ?_
 simp only [List.take_succ_cons, List.take_zero, List.drop_succ_cons, List.drop_zero]
 iterate 3
  apply Yab rfl rfl
  ·intro K hK w5 hB1
   have c7 := Ya hB1.r7
   unfold Fl.cells at c7
   have HB := Yh_ hB1
   clear hB1
   go_wp2_with fail
   first
   |exact hK _ HB.out
   |exact HB.out
  ·exact ⟨_, rfl⟩
 refine Yal (fun _ w5 hB1 => ?_)
 have c9 := Ya hB1.r9
 have f9 := Yg hB1.r9
 unfold Fl.cells Fl.zero at c9
 have HB := Yh_ hB1
 clear hB1
 go_wp2_with fail
 exact bodyPost_ret (Yap rfl (Yad 8 rfl) (Ycg 9 (w.heap.size + 1) ⟨c, x1, x2, x3, x4, x5⟩ rfl (Ycd HB.out.r9 _ _ _ _ _ _))) rfl ⟨rfl, Ya7 HB.out.u (.inr (by omega)) _ _ _ _ _ _⟩
theorem aluDo_13 (a b : Int) (f : Fl) (w : World) (ha : 0 ≤ a ∧ a < 4294967296) (hb : 0 ≤ b ∧ b < 4294967296) :
  Calls Tryz.prog 47 #[.int .i64 13, .int .u32 a, .int .u32 b, .agg f.cells] w fun e w' => e = .returned (.tuple #[.int .u32 (Ybs 13 a b f), .agg (Ybd 13 a b f).cells]) ∧ Upd [] w w' := by
 obtain ⟨c, d, e', z, n, o⟩ := f
 have HA := Yh_ (And.intro ha hb)
 obtain ⟨⟨x0, x1, x2, x3, x4, x5⟩, hF⟩ : ∃ F, Yex a 1 false = F := ⟨_, rfl⟩
 have HF := Yh_ hF
 have HV := Yh_ (show Ybd 13 a b ⟨c, d, e', z, n, o⟩ = ⟨c, x1, x2, x3, x4, x5⟩ by simp [Ybd, hF])
 clear hF
 have tok : True := trivial
 clear ha hb
 rw [HV.out]
 simp only [Ybs]
 unfold Fl.cells
 go_enter Tryz.func47, Tryz.ntmps47
 go_wp2_with (have _t := tok; clear _t; go_at_call 62; refine (Yeu a 1 false _ HA.out.1 (by decide)).mono ?_; rintro e w1 ⟨rfl, hu⟩; rw [HF.out]; unfold Fl.cells; have h1 := AlS.of (f := ⟨c, d, e', z, n, o⟩) hu; have ch := Ya h1.z7; have fh := Yg h1.z7; have c10 := Ya h1.z10; unfold Fl.cells at ch c10; have H1 := Yh_ h1; clear hu h1 tok)
 refine Yax 3 (AlE w ⟨c, x1, x2, x3, x4, x5⟩) (fun _ _ => False) (by kernel_rfl) (by decide +kernel) (((H1.out.st x0 x1 x2 x3 x4 x5).cf c)).drew (fun _ _ _ h => h.elim) ?_
 simp only [List.take_succ_cons, List.take_zero, List.drop_succ_cons, List.drop_zero]
 iterate 3
  apply Yab rfl rfl
  ·intro K hK w5 hB1
   have c7 := Ya hB1.r7
   unfold Fl.cells at c7
   have HB := Yh_ hB1
   clear hB1
   go_wp2_with fail
   first
   |exact hK _ HB.out
   |exact HB.out
  ·exact ⟨_, rfl⟩
 refine Yal (fun _ w5 hB1 => ?_)
 have c9 := Ya hB1.r9
 have f9 := Yg hB1.r9
 unfold Fl.cells Fl.zero at c9
 have HB := Yh_ hB1
 clear hB1
 go_wp2_with fail
 exact bodyPost_ret (Yap rfl (Yad 8 rfl) (Ycg 9 (w.heap.size + 1) ⟨c, x1, x2, x3, x4, x5⟩ rfl (Ycd HB.out.r9 _ _ _ _ _ _))) rfl ⟨rfl, Ya7 HB.out.u (.inr (by omega)) _ _ _ _ _ _⟩
theorem aluDo_15 (a b : Int) (f : Fl) (w : World) (ha : 0 ≤ a ∧ a < 4294967296) (hb : 0 ≤ b ∧ b < 4294967296) :
  Calls Tryz.prog 47 #[.int .i64 15, .int .u32 a, .int .u32 b, .agg f.cells] w fun e w' => e = .returned (.tuple #[.int .u32 (Ybs 15 a b f), .agg (Ybd 15 a b f).cells]) ∧ Upd [] w w' := by
 obtain ⟨c, d, e', z, n, o⟩ := f
 have HA := Yh_ (And.intro ha hb)
 obtain ⟨⟨x0, x1, x2, x3, x4, x5⟩, hF⟩ : ∃ F, Yex 0 a false = F := ⟨_, rfl⟩
 have HF := Yh_ hF
 have HV := Yh_ (show Ybd 15 a b ⟨c, d, e', z, n, o⟩ = ⟨x0, x1, x2, x3, x4, x5⟩ by simp [Ybd, hF])
 clear hF
 have tok : True := trivial
 clear ha hb
 rw [HV.out]
 simp only [Ybs]
 unfold Fl.cells
 go_enter Tryz.func47, Tryz.ntmps47
 go_wp2_with (have _t := tok; clear _t; go_at_call 62; refine (Yeu 0 a false _ (by decide) HA.out.1).mono ?_; rintro e w1 ⟨rfl, hu⟩; rw [HF.out]; unfold Fl.cells; have h1 := AlS.of (f := ⟨c, d, e', z, n, o⟩) hu; have ch := Ya h1.z7; have fh := Yg h1.z7; have c10 := Ya h1.z10; unfold Fl.cells at ch c10; have H1 := Yh_ h1; clear hu h1 tok)
 refine Yax 3 (AlE w ⟨x0, x1, x2, x3, x4, x5⟩) (fun _ _ => False) (by kernel_rfl) (by decide +kernel) ((H1.out.st x0 x1 x2 x3 x4 x5)).drew (fun _ _ _ h => h.elim) ?_
 simp only [List.take_succ_cons, List.take_zero, List.drop_succ_cons, List.drop_zero]
 iterate 3
  apply Yab rfl rfl
  ·intro K hK w5 hB1
   have c7 := Ya hB1.r7
   unfold Fl.cells at c7
   have HB := Yh_ hB1
   clear hB1
   go_wp2_with fail
   first
   |exact hK _ HB.out
   |exact HB.out
  ·exact ⟨_, rfl⟩
 refine Yal (fun _ w5 hB1 => ?_)
 have c9 := Ya hB1.r9
 have f9 := Yg hB1.r9
 unfold Fl.cells Fl.zero at c9
 have HB := Yh_ hB1
 clear hB1
 go_wp2_with fail
 exact bodyPost_ret (Yap rfl (Yad 8 rfl) (Ycg 9 (w.heap.size + 1) ⟨x0, x1, x2, x3, x4, x5⟩ rfl (Ycd HB.out.r9 _ _ _ _ _ _))) rfl ⟨rfl, Ya7 HB.out.u (.inr (by omega)) _ _ _ _ _ _⟩
theorem aluDo_7 (a b : Int) (f : Fl) (w : World) (ha : 0 ≤ a ∧ a < 4294967296) (hb : 0 ≤ b ∧ b < 4294967296) :
  Calls Tryz.prog 47 #[.int .i64 7, .int .u32 a, .int .u32 b, .agg f.cells] w fun e w' => e = .returned (.tuple #[.int .u32 (Ybs 7 a b f), .agg (Ybd 7 a b f).cells]) ∧ Upd [] w w' := by
 obtain ⟨c, d, e', z, n, o⟩ := f
 have HA := Yh_ (And.intro ha hb)
 obtain ⟨⟨x0, x1, x2, x3, x4, x5⟩, hF⟩ : ∃ F, Fl.by Fl.zero (bits .and .u32 a b) = F := ⟨_, rfl⟩
 have HF := Yh_ hF
 have HV := Yh_ (show Ybd 7 a b ⟨c, d, e', z, n, o⟩ = ⟨x0, x1, x2, x3, x4, x5⟩ by simp [Ybd, hF])
 clear hF
 have tok : True := trivial
 clear ha hb
 rw [HV.out]
 simp only [Ybs]
 unfold Fl.cells
 go_enter Tryz.func47, Tryz.ntmps47
 go_wp2_with (have _t := tok; clear _t; go_at_call 63; refine (Yf6 Fl.zero (bits .and .u32 a b) _ (Yi5 a b HA.out.1 HA.out.2)).mono ?_; rintro e w1 ⟨rfl, hu⟩; rw [HF.out]; unfold Fl.cells; have h1 := AlS.of (f := ⟨c, d, e', z, n, o⟩) hu; have ch := Ya h1.z7; have fh := Yg h1.z7; unfold Fl.cells at ch; have H1 := Yh_ h1; clear hu h1 tok)
 refine Yax 3 (AlE w ⟨x0, x1, x2, x3, x4, x5⟩) (fun _ _ => False) (by kernel_rfl) (by decide +kernel) ((H1.out.st x0 x1 x2 x3 x4 x5)).drew (fun _ _ _ h => h.elim) ?_
 simp only [List.take_succ_cons, List.take_zero, List.drop_succ_cons, List.drop_zero]
 iterate 3
  apply Yab rfl rfl
  ·intro K hK w5 hB1
   have c7 := Ya hB1.r7
   unfold Fl.cells at c7
   have HB := Yh_ hB1
   clear hB1
   go_wp2_with fail
   first
   |exact hK _ HB.out
   |exact HB.out
  ·exact ⟨_, rfl⟩
 refine Yal (fun _ w5 hB1 => ?_)
 have c9 := Ya hB1.r9
 have f9 := Yg hB1.r9
 unfold Fl.cells Fl.zero at c9
 have HB := Yh_ hB1
 clear hB1
 go_wp2_with fail
 exact bodyPost_ret (Yap rfl (Yad 8 rfl) (Ycg 9 (w.heap.size + 1) ⟨x0, x1, x2, x3, x4, x5⟩ rfl (Ycd HB.out.r9 _ _ _ _ _ _))) rfl ⟨rfl, Ya7 HB.out.u (.inr (by omega)) _ _ _ _ _ _⟩
theorem aluDo_4 (a b : Int) (f : Fl) (w : World) (ha : 0 ≤ a ∧ a < 4294967296) (hb : 0 ≤ b ∧ b < 4294967296) :
  Calls Tryz.prog 47 #[.int .i64 4, .int .u32 a, .int .u32 b, .agg f.cells] w fun e w' => e = .returned (.tuple #[.int .u32 (Ybs 4 a b f), .agg (Ybd 4 a b f).cells]) ∧ Upd [] w w' := by
 obtain ⟨c, d, e', z, n, o⟩ := f
 have HA := Yh_ (And.intro ha hb)
 obtain ⟨⟨x0, x1, x2, x3, x4, x5⟩, hF⟩ : ∃ F, Fl.by Fl.zero (bits .or .u32 a b) = F := ⟨_, rfl⟩
 have HF := Yh_ hF
 have HV := Yh_ (show Ybd 4 a b ⟨c, d, e', z, n, o⟩ = ⟨x0, x1, x2, x3, x4, x5⟩ by simp [Ybd, hF])
 clear hF
 have tok : True := trivial
 clear ha hb
 rw [HV.out]
 simp only [Ybs]
 unfold Fl.cells
 go_enter Tryz.func47, Tryz.ntmps47
 go_wp2_with (have _t := tok; clear _t; go_at_call 63; refine (Yf6 Fl.zero (bits .or .u32 a b) _ (or_u32 a b HA.out.1 HA.out.2)).mono ?_; rintro e w1 ⟨rfl, hu⟩; rw [HF.out]; unfold Fl.cells; have h1 := AlS.of (f := ⟨c, d, e', z, n, o⟩) hu; have ch := Ya h1.z7; have fh := Yg h1.z7; unfold Fl.cells at ch; have H1 := Yh_ h1; clear hu h1 tok)
 refine Yax 3 (AlE w ⟨x0, x1, x2, x3, x4, x5⟩) (fun _ _ => False) (by kernel_rfl) (by decide +kernel) ((H1.out.st x0 x1 x2 x3 x4 x5)).drew (fun _ _ _ h => h.elim) ?_
 simp only [List.take_succ_cons, List.take_zero, List.drop_succ_cons, List.drop_zero]
 iterate 3
  apply Yab rfl rfl
  ·intro K hK w5 hB1
   have c7 := Ya hB1.r7
   unfold Fl.cells at c7
   have HB := Yh_ hB1
   clear hB1
   go_wp2_with fail
   first
   |exact hK _ HB.out
   |exact HB.out
  ·exact ⟨_, rfl⟩
 refine Yal (fun _ w5 hB1 => ?_)
 have c9 := Ya hB1.r9
 have f9 := Yg hB1.r9
 unfold Fl.cells Fl.zero at c9
 have HB := Yh_ hB1
 clear hB1
 go_wp2_with fail
 exact bodyPost_ret (Yap rfl (Yad 8 rfl) (Ycg 9 (w.heap.size + 1) ⟨x0, x1, x2, x3, x4, x5⟩ rfl (Ycd HB.out.r9 _ _ _ _ _ _))) rfl ⟨rfl, Ya7 HB.out.u (.inr (by omega)) _ _ _ _ _ _⟩
theorem aluDo_9 (a b : Int) (f : Fl) (w : World) (ha : 0 ≤ a ∧ a < 4294967296) (hb : 0 ≤ b ∧ b < 4294967296) :
  Calls Tryz.prog 47 #[.int .i64 9, .int .u32 a, .int .u32 b, .agg f.cells] w fun e w' => e = .returned (.tuple #[.int .u32 (Ybs 9 a b f), .agg (Ybd 9 a b f).cells]) ∧ Upd [] w w' := by
 obtain ⟨c, d, e', z, n, o⟩ := f
 have HA := Yh_ (And.intro ha hb)
 obtain ⟨⟨x0, x1, x2, x3, x4, x5⟩, hF⟩ : ∃ F, Fl.by Fl.zero (bits .xor .u32 a b) = F := ⟨_, rfl⟩
 have HF := Yh_ hF
 have HV := Yh_ (show Ybd 9 a b ⟨c, d, e', z, n, o⟩ = ⟨x0, x1, x2, x3, x4, x5⟩ by simp [Ybd, hF])
 clear hF
 have tok : True := trivial
 clear ha hb
 rw [HV.out]
 simp only [Ybs]
 unfold Fl.cells
 go_enter Tryz.func47, Tryz.ntmps47
 go_wp2_with (have _t := tok; clear _t; go_at_call 63; refine (Yf6 Fl.zero (bits .xor .u32 a b) _ (Yi0 a b HA.out.1 HA.out.2)).mono ?_; rintro e w1 ⟨rfl, hu⟩; rw [HF.out]; unfold Fl.cells; have h1 := AlS.of (f := ⟨c, d, e', z, n, o⟩) hu; have ch := Ya h1.z7; have fh := Yg h1.z7; unfold Fl.cells at ch; have H1 := Yh_ h1; clear hu h1 tok)
 refine Yax 3 (AlE w ⟨x0, x1, x2, x3, x4, x5⟩) (fun _ _ => False) (by kernel_rfl) (by decide +kernel) ((H1.out.st x0 x1 x2 x3 x4 x5)).drew (fun _ _ _ h => h.elim) ?_
 simp only [List.take_succ_cons, List.take_zero, List.drop_succ_cons, List.drop_zero]
 iterate 3
  apply Yab rfl rfl
  ·intro K hK w5 hB1
   have c7 := Ya hB1.r7
   unfold Fl.cells at c7
   have HB := Yh_ hB1
   clear hB1
   go_wp2_with fail
   first
   |exact hK _ HB.out
   |exact HB.out
  ·exact ⟨_, rfl⟩
 refine Yal (fun _ w5 hB1 => ?_)
 have c9 := Ya hB1.r9
 have f9 := Yg hB1.r9
 unfold Fl.cells Fl.zero at c9
 have HB := Yh_ hB1
 clear hB1
 go_wp2_with fail
 exact bodyPost_ret (Yap rfl (Yad 8 rfl) (Ycg 9 (w.heap.size + 1) ⟨x0, x1, x2, x3, x4, x5⟩ rfl (Ycd HB.out.r9 _ _ _ _ _ _))) rfl ⟨rfl, Ya7 HB.out.u (.inr (by omega)) _ _ _ _ _ _⟩
theorem aluDo_11 (a b : Int) (f : Fl) (w : World) (ha : 0 ≤ a ∧ a < 4294967296) (hb : 0 ≤ b ∧ b < 4294967296) :
  Calls Tryz.prog 47 #[.int .i64 11, .int .u32 a, .int .u32 b, .agg f.cells] w fun e w' => e = .returned (.tuple #[.int .u32 (Ybs 11 a b f), .agg (Ybd 11 a b f).cells]) ∧ Upd [] w w' := by
 obtain ⟨c, d, e', z, n, o⟩ := f
 have HA := Yh_ (And.intro ha hb)
 obtain ⟨⟨x0, x1, x2, x3, x4, x5⟩, hF⟩ : ∃ F, Fl.by Fl.zero (bits .and .u32 a b) = F := ⟨_, rfl⟩
 have HF := Yh_ hF
 have HV := Yh_ (show Ybd 11 a b ⟨c, d, e', z, n, o⟩ = ⟨x0, x1, x2, x3, x4, x5⟩ by simp [Ybd, hF])
 clear hF
 have tok : True := trivial
 clear ha hb
 rw [HV.out]
 simp only [Ybs]
 unfold Fl.cells
 go_enter Tryz.func47, Tryz.ntmps47
 go_wp2_with (have _t := tok; clear _t; go_at_call 63; refine (Yf6 Fl.zero (bits .and .u32 a b) _ (Yi5 a b HA.out.1 HA.out.2)).mono ?_; rintro e w1 ⟨rfl, hu⟩; rw [HF.out]; unfold Fl.cells; have h1 := AlS.of (f := ⟨c, d, e', z, n, o⟩) hu; have ch := Ya h1.z7; have fh := Yg h1.z7; unfold Fl.cells at ch; have H1 := Yh_ h1; clear hu h1 tok)
 refine Yax 3 (AlE w ⟨x0, x1, x2, x3, x4, x5⟩) (fun _ _ => False) (by kernel_rfl) (by decide +kernel) ((H1.out.st x0 x1 x2 x3 x4 x5)).drew (fun _ _ _ h => h.elim) ?_
 simp only [List.take_succ_cons, List.take_zero, List.drop_succ_cons, List.drop_zero]
 iterate 3
  apply Yab rfl rfl
  ·intro K hK w5 hB1
   have c7 := Ya hB1.r7
   unfold Fl.cells at c7
   have HB := Yh_ hB1
   clear hB1
   go_wp2_with fail
   first
   |exact hK _ HB.out
   |exact HB.out
  ·exact ⟨_, rfl⟩
 refine Yal (fun _ w5 hB1 => ?_)
 have c9 := Ya hB1.r9
 have f9 := Yg hB1.r9
 unfold Fl.cells Fl.zero at c9
 have HB := Yh_ hB1
 clear hB1
 go_wp2_with fail
 exact bodyPost_ret (Yap rfl (Yad 8 rfl) (Ycg 9 (w.heap.size + 1) ⟨x0, x1, x2, x3, x4, x5⟩ rfl (Ycd HB.out.r9 _ _ _ _ _ _))) rfl ⟨rfl, Ya7 HB.out.u (.inr (by omega)) _ _ _ _ _ _⟩
theorem aluDo_14 (a b : Int) (f : Fl) (w : World) (ha : 0 ≤ a ∧ a < 4294967296) (hb : 0 ≤ b ∧ b < 4294967296) :
  Calls Tryz.prog 47 #[.int .i64 14, .int .u32 a, .int .u32 b, .agg f.cells] w fun e w' => e = .returned (.tuple #[.int .u32 (Ybs 14 a b f), .agg (Ybd 14 a b f).cells]) ∧ Upd [] w w' := by
 obtain ⟨c, d, e', z, n, o⟩ := f
 have HA := Yh_ (And.intro ha hb)
 have HV := Yh_ (show Ybd 14 a b ⟨c, d, e', z, n, o⟩ = ⟨c, d, e', z, n, o⟩ by simp [Ybd])
 have tok : True := trivial
 clear ha hb
 rw [HV.out]
 simp only [Ybs]
 unfold Fl.cells
 go_enter Tryz.func47, Tryz.ntmps47
 go_wp2_with fail
 refine Yax 3 (AlE w ⟨c, d, e', z, n, o⟩) (fun _ _ => False) (by kernel_rfl) (by decide +kernel) (AlE.start).drew (fun _ _ _ h => h.elim) ?_
 simp only [List.take_succ_cons, List.take_zero, List.drop_succ_cons, List.drop_zero]
 iterate 3
  apply Yab rfl rfl
  ·intro K hK w5 hB1
   have c7 := Ya hB1.r7
   unfold Fl.cells at c7
   have HB := Yh_ hB1
   clear hB1
   go_wp2_with fail
   first
   |exact hK _ HB.out
   |exact HB.out
  ·exact ⟨_, rfl⟩
 refine Yal (fun _ w5 hB1 => ?_)
 have c9 := Ya hB1.r9
 have f9 := Yg hB1.r9
 unfold Fl.cells Fl.zero at c9
 have HB := Yh_ hB1
 clear hB1
 go_wp2_with fail
 exact bodyPost_ret (Yap rfl (Yad 8 rfl) (Ycg 9 (w.heap.size + 1) ⟨c, d, e', z, n, o⟩ rfl (Ycd HB.out.r9 _ _ _ _ _ _))) rfl ⟨rfl, Ya7 HB.out.u (.inr (by omega)) _ _ _ _ _ _⟩
def Yh6 (op : Int) : Bool := (decide (3 ≤ op) && decide (op ≤ 15))
theorem Yph (op a b : Int) (f : Fl) (w : World) (hop : Yh6 op = true) (ha : 0 ≤ a ∧ a < 4294967296) (hb : 0 ≤ b ∧ b < 4294967296) :
  Calls Tryz.prog 47 #[.int .i64 op, .int .u32 a, .int .u32 b, .agg f.cells] w fun e w' => e = .returned (.tuple #[.int .u32 (Ybs op a b f), .agg (Ybd op a b f).cells]) ∧ Upd [] w w' := by
 have h : op = 3 ∨ op = 4 ∨ op = 5 ∨ op = 6 ∨ op = 7 ∨ op = 8 ∨ op = 9 ∨ op = 10 ∨ op = 11 ∨ op = 12 ∨ op = 13 ∨ op = 14 ∨ op = 15 := by
  simp only [Yh6, Bool.and_eq_true, decide_eq_true_eq] at hop
  omega
 rcases h with rfl | rfl | rfl | rfl | rfl | rfl | rfl | rfl | rfl | rfl | rfl | rfl | rfl
 ·exact aluDo_3 a b f w ha hb
 ·exact aluDo_4 a b f w ha hb
 ·exact aluDo_5 a b f w ha hb
 ·exact aluDo_6 a b f w ha hb
 ·exact aluDo_7 a b f w ha hb
 ·exact aluDo_8 a b f w ha hb
 ·exact aluDo_9 a b f w ha hb
 ·exact aluDo_10 a b f w ha hb
 ·exact aluDo_11 a b f w ha hb
 ·exact aluDo_12 a b f w ha hb
 ·exact aluDo_13 a b f w ha hb
 ·exact aluDo_14 a b f w ha hb
 ·exact aluDo_15 a b f w ha hb
theorem Yod (op a b : Int) (f : Fl) (ha : 0 ≤ a ∧ a < 4294967296) (hb : 0 ≤ b ∧ b < 4294967296) : 0 ≤ Ybs op a b f ∧ Ybs op a b f < 4294967296 := by
 unfold Ybs
 repeat' split
 all_goals first | exact Yik _ _ _ | exact Yh8 _ _ _ | exact Yi5 a b ha hb | exact or_u32 a b ha hb | exact Yi0 a b ha hb | exact Yi0 4294967295 a (by decide) ha | exact ha
section
structure Dq (w : World) (d a pb : Nat) (s : St) (i : Ins) (M : Mem) (L : List (Nat × Obj)) (w1 : World) : Prop where
 b : Yv w1 d a pb s i M
 o : ∀ p ∈ L, w1.heap[p.1]? = some p.2
 u : Upd [d, pb] w w1
 n : ∀ p ∈ L, p.1 ≠ d ∧ p.1 ≠ pb
section
variable {w w1 w2 : World} {d a pb : Nat} {s s2 : St} {i : Ins} {M M2 : Mem} {L : List (Nat × Obj)}
theorem Dq.quiet (h : Dq w d a pb s i M L w1) (u : Upd [] w1 w2) : Dq w d a pb s i M L w2 :=
 ⟨h.b.keep u (by simp) (by simp) (by simp), fun p hp => u.get (h.o p hp) (by simp), h.u.also u (by simp), h.n⟩
theorem Dq.drew (h : Dq w d a pb s i M L w1) : Dq w d a pb s i M L w1.drew := h.quiet (Upd.refl [] w1).drew
theorem Dq.next (h : Dq w d a pb s i M L w1) (hd : Yv w2 d a pb s2 i M2) (u : Upd [d, pb] w1 w2) : Dq w d a pb s2 i M2 L w2 :=
 ⟨hd, fun p hp => u.get (h.o p hp) (by have := h.n p hp; simp; exact ⟨this.1, this.2⟩), h.u.also u (fun x hx => .inl hx), h.n⟩
theorem Dq.of (h : Yv w d a pb s i M) : Dq w d a pb s i M [] w := ⟨h, by simp, Upd.refl _ _, by simp⟩
theorem Dq.one {b : Nat} {c : Array Value} {t : TypeId} {f : Nat × Nat} (h : Dq w d a pb s i M ((b, .cells c t f) :: L) w1) : w1.heap[b]? = some (.cells c t f) := h.o (b, .cells c t f) (by simp)
theorem Dq.ins {g : Nat} (h : Dq w d a pb s i M ((g, .cells i.cells 41 (0, 0)) :: L) w1) : ∀ o, w1.cell? ⟨g, o, none⟩ = i.cells[o]? := Ya h.one
theorem Dq.lts (h : Dq w d a pb s i M L w1) : d < w1.heap.size ∧ a < w1.heap.size ∧ pb < w1.heap.size ∧ ∀ p ∈ L, p.1 < w1.heap.size :=
 ⟨h.b.lt, by obtain ⟨C, _, hc⟩ := h.b.m.hd; exact Yk hc, by obtain ⟨C, _, hc⟩ := h.b.m.pg; exact Yk hc, fun p hp => Yk (h.o p hp)⟩
theorem Dq.lay (h : Dq w d a pb s i M L w1) (c : Array Value) (t : TypeId) : Dq w d a pb s i M ((w1.heap.size, .cells c t (0, 0)) :: L) (w1.alloc (.cells c t)) := by
 have h' := h.quiet ((Upd.refl [] w1).alloc (.cells c t))
 refine ⟨h'.b, fun p hp => ?_, h'.u, fun p hp => ?_⟩
 ·rcases List.mem_cons.1 hp with rfl | hp
  ·exact heap_alloc_new w1 _
  ·exact h'.o p hp
 ·rcases List.mem_cons.1 hp with rfl | hp
  ·have := h.lts; exact ⟨by dsimp only; omega, by dsimp only; omega⟩
  ·exact h.n p hp
theorem Dq.add (h : Dq w d a pb s i M L w1) {g : Nat} {o : Obj} (hg : w1.heap[g]? = some o) (h1 : g ≠ d) (h2 : g ≠ pb) : Dq w d a pb s i M ((g, o) :: L) w1 := by
 refine ⟨h.b, fun p hp => ?_, h.u, fun p hp => ?_⟩
 ·rcases List.mem_cons.1 hp with rfl | hp
  ·exact hg
  ·exact h.o p hp
 ·rcases List.mem_cons.1 hp with rfl | hp
  ·exact ⟨h1, h2⟩
  ·exact h.n p hp
theorem Dq.put {b : Nat} {c v : Array Value} {t : TypeId} (h : Dq w d a pb s i M ((b, .cells c t (0, 0)) :: L) w1) (hb : w.heap.size ≤ b) (hba : b ≠ a) (hL : ∀ p ∈ L, p.1 ≠ b) (hv : wr c 0 v.toList = v) (hw : w1.setCells b 0 v.toList = w2) : Dq w d a pb s i M ((b, .cells v t (0, 0)) :: L) w2 := by
 subst hw
 have u := (Upd.refl [b] w1).setCells (q := b) (.inl (by simp)) v.toList 0
 have hn := h.n (b, .cells c t (0, 0)) (by simp)
 refine ⟨h.b.keep u (by simpa using fun e => hn.1 e.symm) (by simpa using fun e => hba e.symm) (by simpa using fun e => hn.2 e.symm), fun p hp => ?_, h.u.also u (fun x hx => .inr (by rw [List.mem_singleton.1 hx]; exact hb)), fun p hp => ?_⟩
 ·rcases List.mem_cons.1 hp with rfl | hp
  ·rw [Yai _ _ _ _ h.one, hv]
  ·exact u.get (h.o p (by simp [hp])) (by simpa using hL p hp)
 ·rcases List.mem_cons.1 hp with rfl | hp
  ·exact hn
  ·exact h.n p (by simp [hp])
theorem Dq.tail {p : Nat × Obj} (h : Dq w d a pb s i M (p :: L) w1) : Dq w d a pb s i M L w1 := ⟨h.b, fun q hq => h.o q (by simp [hq]), h.u, fun q hq => h.n q (by simp [hq])⟩
end
structure Dg (w : World) (d a pb : Nat) (s : St) (i : Ins) (M : Mem) (L : List (Nat × Obj)) (n0 k m : Nat) (T : TypeId) (Z V : Array Value) (dn : Nat → Bool) (r : Nat → Value) (w1 : World) : Prop where
 q : Dq w d a pb s i M L w1
 b : n0 ≤ w1.heap.size
 lt : (d < n0 ∧ a < n0 ∧ pb < n0 ∧ ∀ p ∈ L, p.1 < n0) ∧ w.heap.size ≤ n0
 x : dn k = true → ∃ g, r k = .pointer (some ⟨g, 0, none⟩) ∧ n0 ≤ g ∧ w1.heap[g]? = some (.cells (if dn m then V else Z) T (0, 0))
 xo : dn m = true → dn k = true
section
variable {w w1 w2 : World} {d a pb n0 k m : Nat} {s s2 : St} {i : Ins} {M M2 : Mem} {L : List (Nat × Obj)} {T : TypeId} {Z V : Array Value} {dn : Nat → Bool} {r : Nat → Value}
theorem Dg.start (h : Dq w d a pb s i M L w1) (k m : Nat) (T : TypeId) (Z V : Array Value) (r : Nat → Value) : Dg w d a pb s i M L w1.heap.size k m T Z V (fun _ => false) r w1.drew :=
 ⟨h.drew, ((Upd.refl [] w1).drew).size, ⟨h.lts, h.u.size⟩, fun h => (by cases h), fun h => (by cases h)⟩
theorem Dg.quiet (h : Dg w d a pb s i M L n0 k m T Z V dn r w1) (u : Upd [] w1 w2) (j : Nat) (h1 : k ≠ j) (h2 : m ≠ j) : Dg w d a pb s i M L n0 k m T Z V (Yah dn j) r w2 := by
 refine ⟨h.q.quiet u, Nat.le_trans h.b u.size, h.lt, fun hx => ?_, fun hx => ?_⟩
 ·rw [Yac h1] at hx
  obtain ⟨g, e1, e2, e3⟩ := h.x hx
  exact ⟨g, e1, e2, by rw [Yac h2]; exact u.get e3 (by simp)⟩
 ·rw [Yac h2] at hx; rw [Yac h1]; exact h.xo hx
theorem Dg.same (h : Dg w d a pb s i M L n0 k m T Z V dn r w1) (j : Nat) (h1 : k ≠ j) (h2 : m ≠ j) : Dg w d a pb s i M L n0 k m T Z V (Yah dn j) r w1 := h.quiet (Upd.refl [] w1) j h1 h2
theorem Dg.lay (h : Dg w d a pb s i M L n0 k m T Z V dn r w1) (hd : dn k = false) (hkm : m ≠ k) : Dg w d a pb s i M L n0 k m T Z V (Yah dn k) (Yc2 r k (.pointer (some ⟨w1.heap.size, 0, none⟩))) (w1.alloc (.cells Z T)) := by
 have hdm : dn m = false := by
  cases e : dn m with
  |false => rfl
  |true => rw [h.xo e] at hd; cases hd
 have u := (Upd.refl [] w1).alloc (.cells Z T)
 refine ⟨h.q.quiet u, Nat.le_trans h.b u.size, h.lt, fun _ => ⟨_, Yhb, h.b, ?_⟩, fun _ => Ydx⟩
 rw [Yac hkm, hdm]
 exact heap_alloc_new _ _
theorem Dg.put (h : Dg w d a pb s i M L n0 k m T Z V dn r w1) (hd : dn k = true) {g : Nat} (e1 : r k = .pointer (some ⟨g, 0, none⟩)) (hv : ∀ c, (c = V ∨ c = Z) → wr c 0 V.toList = V) (hkm : k ≠ m) : Dg w d a pb s i M L n0 k m T Z V (Yah dn m) r (w1.setCells g 0 V.toList) := by
 obtain ⟨g', e1', e2, e3⟩ := h.x hd
 obtain rfl : g' = g := by rw [e1] at e1'; injection e1' with e; injection e with e; injection e with e; exact e.symm
 have u := (Upd.refl [g'] w1).setCells (q := g') (.inl (by simp)) V.toList 0
 have hl := h.lt.1
 refine ⟨⟨h.q.b.keep u (by simp; omega) (by simp; omega) (by simp; omega), fun p hp => u.get (h.q.o p hp) (by have := hl.2.2.2 p hp; simp; omega), h.q.u.also u (fun x hx => .inr (by rw [List.mem_singleton.1 hx]; exact Nat.le_trans h.lt.2 e2)), h.q.n⟩, Nat.le_trans h.b u.size, h.lt, fun _ => ⟨g', e1, e2, ?_⟩, fun _ => by rw [Yac hkm]; exact hd⟩
 rw [Ydx, if_pos rfl, Yai _ _ _ _ e3, hv _ (by split <;> simp)]
theorem Dg.fin (h : Dg w d a pb s i M L n0 k m T Z V dn r w1) (hk : dn k = true) : ∃ g, r k = .pointer (some ⟨g, 0, none⟩) ∧ Dq w d a pb s i M ((g, .cells (if dn m then V else Z) T (0, 0)) :: L) w1 ∧ (w.heap.size ≤ g ∧ g ≠ a ∧ ∀ p ∈ L, p.1 ≠ g) := by
 obtain ⟨g, e1, e2, e3⟩ := h.x hk
 have hl := h.lt
 exact ⟨g, e1, h.q.add e3 (by omega) (by omega), by omega, by omega, fun p hp => by have := hl.1.2.2.2 p hp; omega⟩
end
end
def Yea (x : Int) : Int := bits .xor .u64 x 9223372036854775808
theorem fl_Neg (x : Int) (w : World) : Calls Tryz.prog 76 #[.int .u64 x] w fun e w' => e = .returned (.int .u64 (Yea x)) ∧ w = w' := by
 go_enter Tryz.func76, Tryz.ntmps76
 go_wp2_with fail
 go_ret
 exact ⟨rfl, rfl⟩
theorem Ymd (x : Int) : 0 ≤ Yea x ∧ Yea x < 18446744073709551616 := by
 show 0 ≤ IntKind.u64.wrap _ ∧ IntKind.u64.wrap _ < _
 rw [u64w]; omega
theorem flDo_bd (op : BinOp) (x y : Nat) : 0 ≤ Ydy op x y ∧ Ydy op x y < 18446744073709551616 := by
 unfold Ydy
 split
 ·rename_i r h
  have := floatBits_wf h
  simp only [Lit.wf, decide_eq_true_eq] at this
  unfold Yeg; split <;> omega
 ·decide
theorem Yhk (p : Int) : FloatKind.f64.format.nearest false 0 p = 0 := by
 unfold Ieee.Format.nearest
 rw [if_pos rfl]
 rfl
theorem Yka (s : Bool) (m : Nat) (p : Int) : (Ieee.Datum.number s m p).sum (Ieee.Datum.number (!s) m p) = some (.number false 0 p) := by
 unfold Ieee.Datum.sum
 have h : Ieee.signed s m (p - min p p).toNat + Ieee.signed (!s) m (p - min p p).toNat = 0 := by
  cases s <;> simp [Ieee.signed] <;> omega
 simp only [h]
 cases s <;> simp
theorem Ype (n : Nat) : Ydy .sub n n = if 9218868437227405312 ≤ n % 9223372036854775808 then 9221120237041090560 else 0 := by
 have e1 : FloatKind.f64.format.signWeight = 9223372036854775808 := by decide
 have e2 : FloatKind.f64.format.binade = 4503599627370496 := by decide
 have e3 : FloatKind.f64.format.infRung = 9218868437227405312 := by decide
 unfold Ydy floatBits
 simp only
 unfold Ieee.Format.sub Ieee.Format.read
 rw [e1, e2, e3]
 dsimp only
 generalize (n / 9223372036854775808 % 2 == 1) = s
 generalize n % 9223372036854775808 = r
 have h0 : Yeg 0 = 0 := by decide +kernel
 by_cases h1 : r < 4503599627370496
 ·rw [if_pos h1, if_neg (by omega)]
  simp only [Ieee.Datum.opposite, Yka, Option.map_some, Ieee.Format.write, Yhk, h0]
 ·rw [if_neg h1]
  by_cases h2 : r < 9218868437227405312
  ·rw [if_pos h2, if_neg (by omega)]
   simp only [Ieee.Datum.opposite, Yka, Option.map_some, Ieee.Format.write, Yhk, h0]
  ·rw [if_neg h2]
   by_cases h3 : r = 9218868437227405312
   ·rw [if_pos h3, if_pos (by omega)]
    cases s <;> rfl
   ·rw [if_neg h3, if_pos (by omega)]
    cases s <;> rfl
section
structure AlW (w : World) (f g : Fl) (w1 : World) : Prop where
 z7 : w1.heap[w.heap.size]? = some (.cells f.cells 25 (0, 0))
 z9 : w1.heap[w.heap.size + 1]? = some (.cells Fl.zero.cells 25 (0, 0))
 z10 : w1.heap[w.heap.size + 1 + 1]? = some (.cells g.cells 25 (0, 0))
 u : Upd [] w w1
section
variable {w w1 w2 : World} {f g : Fl}
theorem AlW.of (w : World) (f g : Fl) : AlW w f g (((w.alloc (.cells f.cells 25)).alloc (.cells Fl.zero.cells 25)).alloc (.cells g.cells 25)) := by
 have h2 := heap_alloc_new ((w.alloc (.cells f.cells 25)).alloc (.cells Fl.zero.cells 25)) (.cells g.cells 25)
 rw [show ((w.alloc (.cells f.cells 25)).alloc (.cells Fl.zero.cells 25)).heap.size = w.heap.size + 1 + 1 from by simp] at h2
 exact ⟨Yj _ (heap_alloc2_old _ _ _), Yj _ (heap_alloc2_new _ _ _), h2, (((Upd.refl [] w).alloc _).alloc _).alloc _⟩
theorem AlW.drew (h : AlW w f g w1) : AlW w f g w1.drew := by
 have u := (Upd.refl [] w1).drew
 exact ⟨u.get h.z7 (by simp), u.get h.z9 (by simp), u.get h.z10 (by simp), h.u.drew⟩
theorem AlW.quiet (h : AlW w f g w1) (u : Upd [] w1 w2) : AlW w f g w2 := ⟨u.get h.z7 (by simp), u.get h.z9 (by simp), u.get h.z10 (by simp), h.u.also u (by simp)⟩
theorem AlW.put (h : AlW w f g w1) (k : Nat) (x : Bool) (f' : Fl) (he : f.cells.setIfInBounds k (.bool x) = f'.cells) : AlW w f' g (w1.setCell ⟨w.heap.size, k, none⟩ (.bool x)) := by
 have u := (Upd.refl [w.heap.size] w1).setCell (p := ⟨w.heap.size, k, none⟩) (.inl (by simp)) (.bool x)
 exact ⟨by rw [← he]; exact Yi h.z7 k (.bool x), u.get h.z9 (by simp), u.get h.z10 (by simp <;> omega), h.u.setCell (p := ⟨w.heap.size, k, none⟩) (.inr (Nat.le_refl _)) _⟩
theorem AlW.st (h : AlW w f g w1) (x0 x1 x2 x3 x4 x5 : Bool) : AlW w ⟨x0, x1, x2, x3, x4, x5⟩ g ((((((w1.setCell ⟨w.heap.size, 0, none⟩ (.bool x0)).setCell ⟨w.heap.size, 1, none⟩ (.bool x1)).setCell ⟨w.heap.size, 2, none⟩ (.bool x2)).setCell ⟨w.heap.size, 3, none⟩ (.bool x3)).setCell ⟨w.heap.size, 4, none⟩ (.bool x4)).setCell ⟨w.heap.size, 5, none⟩ (.bool x5)) := by
 have u := Ya7 (S := [w.heap.size]) (b := w.heap.size) (Upd.refl _ w1) (.inl (by simp)) (.bool x0) (.bool x1) (.bool x2) (.bool x3) (.bool x4) (.bool x5)
 exact ⟨Ycd h.z7 _ _ _ _ _ _, u.get h.z9 (by simp), u.get h.z10 (by simp <;> omega), Ya7 h.u (.inr (Nat.le_refl _)) _ _ _ _ _ _⟩
end
end
section
structure DrF (w : World) (d a pb cb : Nat) (s : St) (i : Ins) (M : Mem) (f : Nat) (dn : Nat → Bool) (r : Nat → Value) (w1 : World) : Prop where
 b : Yv w1 d a pb s i M
 o : w1.heap[cb]? = some (.cells i.cells 41 (0, 0))
 u : Upd [d, pb] w w1
 y : dn f = true → ∃ g, r f = .pointer (some ⟨g, 0, none⟩) ∧ cb < g ∧ w1.heap[g]? = some (.cells Fl.zero.cells 25 (0, 0))
section
variable {w w1 w2 : World} {d a pb cb : Nat} {s : St} {i : Ins} {M : Mem} {f : Nat} {dn : Nat → Bool} {r : Nat → Value}
theorem DrF.start (h : Yv w1 d a pb s i M) (ho : w1.heap[cb]? = some (.cells i.cells 41 (0, 0))) (u : Upd [d, pb] w w1) (r : Nat → Value) : DrF w d a pb cb s i M f (fun _ => false) r w1.drew :=
 ⟨h.keep (Upd.refl [] _).drew (by simp) (by simp) (by simp), ((Upd.refl [] _).drew).get ho (by simp), u.drew, fun h => (by cases h)⟩
theorem DrF.quiet (h : DrF w d a pb cb s i M f dn r w1) (u : Upd [] w1 w2) (m : Nat) (h1 : f ≠ m) : DrF w d a pb cb s i M f (Yah dn m) r w2 := by
 refine ⟨h.b.keep u (by simp) (by simp) (by simp), u.get h.o (by simp), h.u.also u (by simp), fun hy => ?_⟩
 rw [Yac h1] at hy
 obtain ⟨g, e1, e2, e3⟩ := h.y hy
 exact ⟨g, e1, e2, u.get e3 (by simp)⟩
theorem DrF.same (h : DrF w d a pb cb s i M f dn r w1) (m : Nat) (h1 : f ≠ m) : DrF w d a pb cb s i M f (Yah dn m) r w1 := h.quiet (Upd.refl [] w1) m h1
theorem DrF.lay (h : DrF w d a pb cb s i M f dn r w1) : DrF w d a pb cb s i M f (Yah dn f) (Yc2 r f (.pointer (some ⟨w1.heap.size, 0, none⟩))) (w1.alloc (.cells #[.bool false, .bool false, .bool false, .bool false, .bool false, .bool false] 25)) := by
 have u := (Upd.refl [] w1).alloc (.cells #[.bool false, .bool false, .bool false, .bool false, .bool false, .bool false] 25)
 exact ⟨h.b.keep u (by simp) (by simp) (by simp), u.get h.o (by simp), h.u.also u (by simp), fun _ => ⟨_, Yhb, Yk h.o, heap_alloc_new _ _⟩⟩
theorem dr_setfl (a : Nat) (s : St) (i : Ins) (F : Fl) : wr (Ybi a s i) 10 F.cells.toList = Ybi a (s.setFl F) i := by kernel_rfl
theorem Yv.putFl (h : Yv w d a pb s i M) (F : Fl) : Yv (w.setCells d 10 F.cells.toList) d a pb (s.setFl F) i M := by
 refine ⟨?_, h.m.keep ((Upd.refl [d] w).setCells (.inl (by simp)) _ _) (by simpa using fun e => h.na e.symm) (by simpa using fun e => h.np e.symm), ⟨h.ok.R, h.ok.pc, h.ok.f⟩, h.io, h.na, h.np⟩
 rw [Yai _ _ _ _ h.h, dr_setfl]
theorem fl_one (F : Fl) : F.cells.all (·.oneCell') = true := by simp [Fl.cells, Value.oneCell']
theorem fl_new {g : Nat} {F G : Fl} {t : TypeId} (hw : w.setCells g 0 F.cells.toList = w2) (hb : w.heap[g]? = some (.cells G.cells t (0, 0))) : w2.heap[g]? = some (.cells F.cells t (0, 0)) ∧ Upd [g] w w2 := by
 subst hw
 exact ⟨by rw [Yai _ _ _ _ hb]; rfl, (Upd.refl [g] w).setCells (.inl (by simp)) _ _⟩
end
theorem Ym3 (d a pb : Nat) (s : St) (i : Ins) (M : Mem) (w : World) (h : Yv w d a pb s i M) (hop : 12 ≤ i.op ∧ i.op ≤ 15) (hc : Yff M s i.a 4 3 = true) (hr : opK M s i.a 4 = true)
  (hw : Yde M (s.setFl (Ybd i.op (opV M s i.a 4) 0 s.fl)) i.a 4 = true) :
  Calls Tryz.prog 32 #[.pointer (some ⟨d, 0, none⟩)] w fun e w' => e = .returned (.tuple #[]) ∧ Yv w' d a pb (opS (s.setFl (Ybd i.op (opV M s i.a 4) 0 s.fl)) i.a 4 (Ybs i.op (opV M s i.a 4) 0 s.fl)) i (opM M (s.setFl (Ybd i.op (opV M s i.a 4) 0 s.fl)) i.a 4 (Ybs i.op (opV M s i.a 4) 0 s.fl)) ∧ Upd [d, pb] w w' := by
 have HRV := Yh_ (Ygz h i.a h.io.a 4)
 have HD := Yh_ h
 have tokL : True := trivial
 have tokS : True := trivial
 obtain ⟨op, ho⟩ : ∃ op, i.op = op := ⟨_, rfl⟩
 rw [ho] at hop hw ⊢
 have e1 : decide (3 ≤ op) = true := by simp; omega
 have e2 : decide (op ≤ 11) = false := by simp; omega
 have e3 : decide (12 ≤ op) = true := by simp; omega
 have e4 : decide (op ≤ 15) = true := by simp; omega
 have HI := Yh_ h.io
 have HOP := Yh_ (show Yh6 op = true by simp only [Yh6, Bool.and_eq_true, decide_eq_true_eq]; omega)
 obtain ⟨v, hv⟩ : ∃ v, opV M s i.a 4 = v := ⟨_, rfl⟩
 rw [hv] at hw HRV ⊢
 obtain ⟨V, hV⟩ : ∃ V, Ybs op v 0 s.fl = V := ⟨_, rfl⟩
 have HVR := Yh_ (show 0 ≤ V ∧ V < 4294967296 from hV ▸ Yod op v 0 s.fl HRV.out (by decide))
 obtain ⟨⟨x0, x1, x2, x3, x4, x5⟩, hF⟩ : ∃ F, Ybd op v 0 s.fl = F := ⟨_, rfl⟩
 rw [hF] at hw ⊢
 rw [hV]
 have HC := Yh_ (And.intro hc (And.intro hr (And.intro hw (And.intro hv (And.intro hV hF)))))
 have HCC := Yh_ hc
 clear h hop hc hr hw hv hV hF
 go_enter Tryz.func32, Tryz.ntmps32
 go_wp2_with (first | (have _t := tokL; clear _t tokL; refine Yaj 41 rfl ?_; refine wpList_load_mid rfl 41 _ rfl d 18 rfl i.cells.toList _ HD.out.ri Tryz.underlying41 rfl (by rw [Array.length_toList, Ins.size]; exact Yb6) ?_; rw [Array.toArray_toList]) | (have _t := tokS; clear _t tokS; refine Yd 41 rfl ?_; refine Yc i w.heap.size rfl _ _ rfl rfl rfl (heap_alloc_new w (.cells Ins.zero.cells 41)) rfl ?_; intro w3 hw; have h3 := Yek HD.out hw; have ci := Ya h3.2.1; unfold Ins.cells at ci; have H3 := Yh_ h3; clear hw h3) | (have _t := H3; clear _t; go_at_call 46; refine (dboth_ok d a pb s i M i.a _ H3.out.1 HCC.out).mono ?_; rintro e w4 ⟨rfl, hu⟩; have H4 := Yh_ (And.intro (H3.out.1.keep hu (by simp) (by simp) (by simp)) (And.intro (hu.get H3.out.2.1 (by simp)) (H3.out.2.2.also hu (by simp)))); clear hu H3 ci))
 refine Ybj 16 (DrF w d a pb w.heap.size s i M 14) (fun _ _ => False) (by kernel_rfl) (by decide +kernel) (fun r0 => DrF.start H4.out.1 H4.out.2.1 H4.out.2.2 r0) (fun _ _ _ h => h.elim) ?_
 simp only [List.take_succ_cons, List.take_zero, List.drop_succ_cons, List.drop_zero]
 iterate 4
  apply Ye rfl rfl
  ·intro dn r0 K hd hdep hK w5 hB1
   have c10 : w5.cell? ⟨d, 10, none⟩ = some (.bool s.cf) := hB1.b.cell 10
   have c11 : w5.cell? ⟨d, 11, none⟩ = some (.bool s.pf) := hB1.b.cell 11
   have c12 : w5.cell? ⟨d, 12, none⟩ = some (.bool s.af) := hB1.b.cell 12
   have c13 : w5.cell? ⟨d, 13, none⟩ = some (.bool s.zf) := hB1.b.cell 13
   have c14 : w5.cell? ⟨d, 14, none⟩ = some (.bool s.sf) := hB1.b.cell 14
   have c15 : w5.cell? ⟨d, 15, none⟩ = some (.bool s.of_) := hB1.b.cell 15
   have ci := Ya hB1.o
   unfold Ins.cells at ci
   have HB := Yh_ hB1
   clear hB1 hdep
   go_wp2_with fail
   first
   |exact hK _ (HB.out.same _ (by decide))
   |exact HB.out.same _ (by decide)
  ·exact ⟨_, rfl⟩
 apply Ye rfl rfl
 ·intro dn r0 K hd hdep hK w5 hB1
  have HB := Yh_ hB1
  clear hB1 hdep
  go_wp2_with (go_at_call 48; refine (Yhy d a pb s i M i.a 4 _ HB.out.b HI.out.a HC.out.2.1).mono ?_; rintro e w6 ⟨rfl, hu⟩; rw [HC.out.2.2.2.1])
  first
  |exact hK _ (HB.out.quiet hu _ (by decide))
  |exact HB.out.quiet hu _ (by decide)
 ·exact ⟨_, rfl⟩
 iterate 5
  apply Ye rfl rfl
  ·intro dn r0 K hd hdep hK w5 hB1
   have c10 : w5.cell? ⟨d, 10, none⟩ = some (.bool s.cf) := hB1.b.cell 10
   have c11 : w5.cell? ⟨d, 11, none⟩ = some (.bool s.pf) := hB1.b.cell 11
   have c12 : w5.cell? ⟨d, 12, none⟩ = some (.bool s.af) := hB1.b.cell 12
   have c13 : w5.cell? ⟨d, 13, none⟩ = some (.bool s.zf) := hB1.b.cell 13
   have c14 : w5.cell? ⟨d, 14, none⟩ = some (.bool s.sf) := hB1.b.cell 14
   have c15 : w5.cell? ⟨d, 15, none⟩ = some (.bool s.of_) := hB1.b.cell 15
   have ci := Ya hB1.o
   unfold Ins.cells at ci
   have HB := Yh_ hB1
   clear hB1 hdep
   go_wp2_with fail
   first
   |exact hK _ (HB.out.same _ (by decide))
   |exact HB.out.same _ (by decide)
  ·exact ⟨_, rfl⟩
 apply Ye rfl rfl
 ·intro dn r0 K hd hdep hK w5 hB1
  have HB := Yh_ hB1
  clear hB1 hdep
  go_wp2_with (go_at_call 47; refine (Yph op v 0 s.fl _ HOP.out HRV.out (by decide)).mono ?_; rintro e w6 ⟨rfl, hu⟩; rw [HC.out.2.2.2.2.1, HC.out.2.2.2.2.2]; unfold Fl.cells)
  first
  |exact hK _ (HB.out.quiet hu _ (by decide))
  |exact HB.out.quiet hu _ (by decide)
 ·exact ⟨_, rfl⟩
 iterate 3
  apply Ye rfl rfl
  ·intro dn r0 K hd hdep hK w5 hB1
   have c10 : w5.cell? ⟨d, 10, none⟩ = some (.bool s.cf) := hB1.b.cell 10
   have c11 : w5.cell? ⟨d, 11, none⟩ = some (.bool s.pf) := hB1.b.cell 11
   have c12 : w5.cell? ⟨d, 12, none⟩ = some (.bool s.af) := hB1.b.cell 12
   have c13 : w5.cell? ⟨d, 13, none⟩ = some (.bool s.zf) := hB1.b.cell 13
   have c14 : w5.cell? ⟨d, 14, none⟩ = some (.bool s.sf) := hB1.b.cell 14
   have c15 : w5.cell? ⟨d, 15, none⟩ = some (.bool s.of_) := hB1.b.cell 15
   have ci := Ya hB1.o
   unfold Ins.cells at ci
   have HB := Yh_ hB1
   clear hB1 hdep
   go_wp2_with fail
   first
   |exact hK _ (HB.out.same _ (by decide))
   |exact HB.out.same _ (by decide)
  ·exact ⟨_, rfl⟩
 refine Ya8 rfl (fun _ => rfl) 5 rfl (by simp [Act.put]) ?_ ?_
 ·intro dn r0 K hd w5 hB1 hK
  have HB := Yh_ hB1
  clear hB1
  simp only [Yr]
  go_wp2_with fail
  first
  |exact hK (.pointer (some ⟨w5.heap.size, 0, none⟩)) _ HB.out.lay
  |exact HB.out.lay
 iterate 1
  apply Ybm rfl (fun _ => rfl)
  ·intro dn r0 K hd hdep hK w5 hB1
   have c10 : w5.cell? ⟨d, 10, none⟩ = some (.bool s.cf) := hB1.b.cell 10
   have c11 : w5.cell? ⟨d, 11, none⟩ = some (.bool s.pf) := hB1.b.cell 11
   have c12 : w5.cell? ⟨d, 12, none⟩ = some (.bool s.af) := hB1.b.cell 12
   have c13 : w5.cell? ⟨d, 13, none⟩ = some (.bool s.zf) := hB1.b.cell 13
   have c14 : w5.cell? ⟨d, 14, none⟩ = some (.bool s.sf) := hB1.b.cell 14
   have c15 : w5.cell? ⟨d, 15, none⟩ = some (.bool s.of_) := hB1.b.cell 15
   have ci := Ya hB1.o
   unfold Ins.cells at ci
   have HB := Yh_ hB1
   clear hB1 hdep
   simp only [Yr]
   go_wp2_with fail
   first
   |exact hK _ (HB.out.same _ (by decide))
   |exact HB.out.same _ (by decide)
  ·exact ⟨_, fun _ => rfl, rfl⟩
 refine Ybb (fun _ r0 w5 dn hall hB1 => ?_)
 obtain ⟨g, e1', e2', e3'⟩ := hB1.y (hall 14 (by decide))
 have ci := Ya hB1.o
 unfold Ins.cells at ci
 have hcb := Yk HD.out.h
 have hpb : pb < w.heap.size := by obtain ⟨C, _, hc⟩ := HD.out.m.pg; exact Yk hc
 have hab : a < w.heap.size := by obtain ⟨C, _, hc⟩ := HD.out.m.hd; exact Yk hc
 have H5 := Yh_ (And.intro hB1.b (And.intro hB1.o (And.intro hB1.u (And.intro e3' (And.intro e2' (And.intro hcb (And.intro hpb hab)))))))
 clear hB1 e3' hall e2' hcb hpb hab
 show wpList _ _ _ _ (Act.put (Yr _ _ [] _) (some 5) (r0 14)) _
 rw [e1']
 simp only [Yr]
 clear e1'
 go_wp2_with (first | (have _t := H5; clear _t; refine Yd 25 rfl ?_; refine Ye0 rfl 25 _ _ rfl g 0 (Fl.cells ⟨x0, x1, x2, x3, x4, x5⟩) rfl rfl H5.out.2.2.2.1 (show 0 + 6 ≤ 6 by decide) Yi4 (fl_one _) ?_; intro w6 hw; have h6 := fl_new hw H5.out.2.2.2.1; have hl := H5.out.2.2.2.2; have cg := Ya h6.1; unfold Fl.cells at cg; have H6 := Yh_ (And.intro (H5.out.1.keep h6.2 (by simp; omega) (by simp; omega) (by simp; omega)) (And.intro (h6.2.get H5.out.2.1 (by simp; omega)) (H5.out.2.2.1.also (S' := [g]) h6.2 (by simp; omega)))); clear hw h6 hl H5 ci) | (have _t := H6; clear _t; refine Yd 25 rfl ?_; refine wpList_store_mid rfl 25 _ _ rfl d 10 (Fl.cells ⟨x0, x1, x2, x3, x4, x5⟩) rfl rfl (Yd0 H6.out.1.h 10 6 (by rw [Ynu]; decide)) Yi4 (fl_one _) ?_; have u7 : Upd [d] w6 (w6.setCells d 10 (Fl.cells ⟨x0, x1, x2, x3, x4, x5⟩).toList) := (Upd.refl [d] w6).setCells (.inl (by simp)) _ _; have hcb := Yk HD.out.h; have hi7 := u7.get H6.out.2.1 (by simp; omega); have ci := Ya hi7; unfold Ins.cells at ci; have H7 := Yh_ (And.intro (H6.out.1.putFl ⟨x0, x1, x2, x3, x4, x5⟩) (H6.out.2.2.also u7 (by simp))); clear u7 hcb hi7 H6 cg) | (have _t := H7; clear _t; go_at_call 49; refine (Yop d a pb _ i M i.a 4 V _ H7.out.1 HI.out.a HVR.out HC.out.2.2.1).mono ?_; rintro e w8 ⟨rfl, hd, hu⟩; have H8 := Yh_ (And.intro hd (H7.out.2.also hu (fun x hx => .inl hx))); clear hd hu H7))
 go_end0
 exact ⟨rfl, H8.out.1, H8.out.2⟩
end
theorem Dq.copy {w w3 : World} {d a pb : Nat} {s : St} {i : Ins} {M : Mem} (h : Yv w d a pb s i M) (hw : (w.alloc (.cells Ins.zero.cells 41)).setCells w.heap.size 0 i.cells.toList = w3) : Dq w d a pb s i M [(w.heap.size, .cells i.cells 41 (0, 0))] w3 := by
 have h3 := Yek h hw
 have hpb : pb < w.heap.size := by obtain ⟨C, _, hc⟩ := h.m.pg; exact Yk hc
 have hd := h.lt
 exact ⟨h3.1, fun p hp => by rw [List.mem_singleton.1 hp]; exact h3.2.1, h3.2.2, fun p hp => by rw [List.mem_singleton.1 hp]; dsimp only; omega⟩
theorem Dq.putFl {w w1 : World} {d a pb : Nat} {s : St} {i : Ins} {M : Mem} {L : List (Nat × Obj)} (h : Dq w d a pb s i M L w1) (F : Fl) : Dq w d a pb (s.setFl F) i M L (w1.setCells d 10 F.cells.toList) :=
 h.next (h.b.putFl F) ((Upd.refl [d, pb] w1).setCells (.inl (by simp)) _ _)
theorem Yeo (d a pb : Nat) (s : St) (i : Ins) (M : Mem) (w : World) (h : Yv w d a pb s i M) (hop : 45 ≤ i.op ∧ i.op ≤ 53) (s2 : St) (M2 : Mem) (hj : ∀ w1, Yv w1 d a pb s i M → Calls Tryz.prog 52 #[.pointer (some ⟨d, 0, none⟩)] w1 fun e w' => e = .returned (.tuple #[]) ∧ Yv w' d a pb (s2) i (M2) ∧ Upd [d, pb] w1 w') :
  Calls Tryz.prog 32 #[.pointer (some ⟨d, 0, none⟩)] w fun e w' => e = .returned (.tuple #[]) ∧ Yv w' d a pb (s2) i (M2) ∧ Upd [d, pb] w w' := by
 have HI := Yh_ h.io
 have HD := Yh_ h
 have tokL : True := trivial
 have tokS : True := trivial
 obtain ⟨op, ho⟩ : ∃ op, i.op = op := ⟨_, rfl⟩
 rw [ho] at hop
 have e1 : decide (3 ≤ op) = true := by simp; omega
 have e2 : decide (op ≤ 11) = false := by simp; omega
 have e3 : decide (12 ≤ op) = true := by simp; omega
 have e4 : decide (op ≤ 15) = false := by simp; omega
 have e5 : decide (21 ≤ op) = true := by simp; omega
 have e6 : decide (op ≤ 25) = false := by simp; omega
 have e7 : decide (16 ≤ op) = true := by simp; omega
 have e8 : decide (op ≤ 20) = false := by simp; omega
 have e9 : decide (45 ≤ op) = true := by simp; omega
 have e10 : decide (op ≤ 53) = true := by simp; omega
 have HJ := Yh_ hj
 clear h hj hop
 go_enter Tryz.func32, Tryz.ntmps32
 go_wp2_with (first | (have _t := tokL; clear _t tokL; refine Yaj 41 rfl ?_; refine wpList_load_mid rfl 41 _ rfl d 18 rfl i.cells.toList _ HD.out.ri Tryz.underlying41 rfl (by rw [Array.length_toList, Ins.size]; exact Yb6) ?_; rw [Array.toArray_toList]) | (have _t := tokS; clear _t tokS; refine Yd 41 rfl ?_; refine Yc i w.heap.size rfl _ _ rfl rfl rfl (heap_alloc_new w (.cells Ins.zero.cells 41)) rfl ?_; intro w3 hw; have h3 := Dq.copy HD.out hw; have ci := h3.ins; unfold Ins.cells at ci; have H3 := Yh_ h3; clear hw h3) | (have _t := H3; clear _t; go_at_call 52; refine (HJ.out _ H3.out.b).mono ?_; rintro e w5 ⟨rfl, hd, hu⟩; have H5 := Yh_ (And.intro hd (H3.out.u.also hu (fun x hx => .inl hx))); clear hd hu H3 ci))
 go_end0
 exact ⟨rfl, H5.out.1, H5.out.2⟩
theorem Yfb (d a pb : Nat) (s : St) (i : Ins) (M : Mem) (w : World) (h : Yv w d a pb s i M) (hop : 45 ≤ i.op ∧ i.op ≤ 53) (M2 : Mem) (F : Flt) (hj : ∀ w1, Yv w1 d a pb s i M → Calls Tryz.prog 52 #[.pointer (some ⟨d, 0, none⟩)] w1 fun e w' => e = .panicked [{ v := .iface 35 (F).val, recovered := false }] ∧ Ym w' a pb (M2) ∧ Upd [d, pb] w1 w') :
  Calls Tryz.prog 32 #[.pointer (some ⟨d, 0, none⟩)] w fun e w' => e = .panicked [{ v := .iface 35 (F).val, recovered := false }] ∧ Ym w' a pb (M2) ∧ Upd [d, pb] w w' := by
 have HI := Yh_ h.io
 have HD := Yh_ h
 have tokL : True := trivial
 have tokS : True := trivial
 obtain ⟨op, ho⟩ : ∃ op, i.op = op := ⟨_, rfl⟩
 rw [ho] at hop
 have e1 : decide (3 ≤ op) = true := by simp; omega
 have e2 : decide (op ≤ 11) = false := by simp; omega
 have e3 : decide (12 ≤ op) = true := by simp; omega
 have e4 : decide (op ≤ 15) = false := by simp; omega
 have e5 : decide (21 ≤ op) = true := by simp; omega
 have e6 : decide (op ≤ 25) = false := by simp; omega
 have e7 : decide (16 ≤ op) = true := by simp; omega
 have e8 : decide (op ≤ 20) = false := by simp; omega
 have e9 : decide (45 ≤ op) = true := by simp; omega
 have e10 : decide (op ≤ 53) = true := by simp; omega
 have HJ := Yh_ hj
 clear h hj hop
 go_enter Tryz.func32, Tryz.ntmps32
 go_wp2_with (first | (have _t := tokL; clear _t tokL; refine Yaj 41 rfl ?_; refine wpList_load_mid rfl 41 _ rfl d 18 rfl i.cells.toList _ HD.out.ri Tryz.underlying41 rfl (by rw [Array.length_toList, Ins.size]; exact Yb6) ?_; rw [Array.toArray_toList]) | (have _t := tokS; clear _t tokS; refine Yd 41 rfl ?_; refine Yc i w.heap.size rfl _ _ rfl rfl rfl (heap_alloc_new w (.cells Ins.zero.cells 41)) rfl ?_; intro w3 hw; have h3 := Dq.copy HD.out hw; have ci := h3.ins; unfold Ins.cells at ci; have H3 := Yh_ h3; clear hw h3) | (have _t := H3; clear _t; go_at_call 52; refine (HJ.out _ H3.out.b).mono ?_; rintro e w5 ⟨rfl, hd, hu⟩; have H5 := Yh_ (And.intro hd (H3.out.u.also hu (fun x hx => .inl hx))); clear hd hu H3 ci))
 exact ⟨rfl, rfl, H5.out.1, H5.out.2⟩
end Go.Proofs.YthakgjpejhjaoaaGreat
