/-
  Parts of the proof (their names shortened by a program). No condition.
-/
import Derived.Test.YthakgjpejhjaoaaGreatMg01
import Derived.Test.YthakgjpejhjaoaaGreatMg17
namespace Go.Proofs.YthakgjpejhjaoaaGreat
open Go Go.RowKit
set_option linter.unusedVariables false
set_option linter.unusedSimpArgs false
set_option maxRecDepth 100000
set_option maxHeartbeats 16000000
theorem Yhz (v : Int) (h0 : 0 ≤ v) (h1 : v < 4294967296) : bits .and .u32 v 15 = v % 16 := by
 obtain ⟨v, rfl⟩ := Int.eq_ofNat_of_zero_le h0
 have := u32_and_nat v 15 (by omega) (by decide)
 rw [show (15 : Nat) = 2 ^ 4 - 1 from rfl, Nat.and_two_pow_sub_one_eq_mod] at this
 exact this
theorem Ycc {w : World} {b : Nat} {t : TypeId} {a0 a1 a2 a3 a4 a5 : Value} (h : w.heap[b]? = some (.cells #[a0, a1, a2, a3, a4, a5] t (0, 0))) (u0 u1 u2 u3 u4 u5 : Value) :
  ((((((w.setCell ⟨b, 0, none⟩ u0).setCell ⟨b, 1, none⟩ u1).setCell ⟨b, 2, none⟩ u2).setCell ⟨b, 3, none⟩ u3).setCell ⟨b, 4, none⟩ u4).setCell ⟨b, 5, none⟩ u5).heap[b]? = some (.cells #[u0, u1, u2, u3, u4, u5] t (0, 0)) :=
 Yf (Yf (Yf (Yf (Yf (Yf h 0 u0) 1 u1) 2 u2) 3 u3) 4 u4) 5 u5
theorem Ya4 {S : List Nat} {w0 w : World} {b : Nat} (h : Upd S w0 w) (hb : b ∈ S ∨ w0.heap.size ≤ b) (u0 u1 u2 u3 u4 u5 : Value) :
  Upd S w0 ((((((w.setCell ⟨b, 0, none⟩ u0).setCell ⟨b, 1, none⟩ u1).setCell ⟨b, 2, none⟩ u2).setCell ⟨b, 3, none⟩ u3).setCell ⟨b, 4, none⟩ u4).setCell ⟨b, 5, none⟩ u5) :=
 (((((h.setCell (p := ⟨b, 0, none⟩) hb _).setCell (p := ⟨b, 1, none⟩) hb _).setCell (p := ⟨b, 2, none⟩) hb _).setCell (p := ⟨b, 3, none⟩) hb _).setCell (p := ⟨b, 4, none⟩) hb _).setCell (p := ⟨b, 5, none⟩) hb _
theorem Yh1 (a b : Int) (c : Bool) : 0 ≤ Yd7 a b c ∧ Yd7 a b c < 4294967296 := by unfold Yd7; omega
theorem Yh6 (a b : Int) (c : Bool) : 0 ≤ Yd5 a b c ∧ Yd5 a b c < 4294967296 := by unfold Yd5; omega
theorem Yhm (a b : Int) (c : Bool) (w : World) (ha : 0 ≤ a ∧ a < 4294967296) (hb : 0 ≤ b ∧ b < 4294967296) : Calls Tryz.prog 61 #[.int .u32 a, .int .u32 b, .bool c] w fun e w' => e = .returned (.tuple #[.int .u32 (Yd7 a b c), .agg (addF a b c).cells]) ∧ Upd [] w w' := by
 have q1 := Yhz a ha.1 ha.2
 have q2 := Yhz b hb.1 hb.2
 have HA := Yh_ (And.intro ha hb)
 obtain ⟨⟨x0, x1, x2, x3, x4, x5⟩, hF⟩ : ∃ F, addF a b c = F := ⟨_, rfl⟩
 have HF := Yh_ hF
 have tok1 : True := trivial
 have tok2 : True := trivial
 have tok3 : True := trivial
 clear ha hb
 rw [hF]
 clear hF
 unfold Fl.cells
 go_enter Tryz.func61, Tryz.ntmps61
 go_wp2_with (first | (have _t := tok1; clear _t; go_at_call 98; refine (Yks a b c _ HA.out.1 HA.out.2).mono ?_; rintro e w' ⟨rfl, rfl⟩; clear tok1) | (have _t := tok2; clear _t; go_at_call 98; refine (Yks (a % 16) (b % 16) c _ (by omega) (by omega)).mono ?_; rintro e w' ⟨rfl, rfl⟩; clear tok2) | (have _t := tok3; clear _t; go_at_call 63; refine (Yfx ⟨addC a b c, false, decide (15 < Yd7 (a % 16) (b % 16) c), false, false, addO a b c⟩ (Yd7 a b c) _ (Yh1 a b c)).mono ?_; rintro e w1 ⟨rfl, hu⟩; rw [show Fl.by ⟨addC a b c, false, decide (15 < Yd7 (a % 16) (b % 16) c), false, false, addO a b c⟩ (Yd7 a b c) = addF a b c from rfl, HF.out]; unfold Fl.cells; have hg := hu.get (heap_alloc_new w _) (by simp); have ch := Ya hg; have fh := Yi hg; have U1 := Yh_ (And.intro hg (((Upd.refl [] w).alloc _).also hu (by simp))); clear hg hu tok3))
 exact bodyPost_ret (Yar rfl (Yai 6 rfl) (Yce 7 w.heap.size ⟨x0, x1, x2, x3, x4, x5⟩ rfl (Ycc U1.out.1 _ _ _ _ _ _))) rfl ⟨rfl, Ya4 U1.out.2 (.inr (Nat.le_refl _)) _ _ _ _ _ _⟩
theorem Yes (a b : Int) (c : Bool) (w : World) (ha : 0 ≤ a ∧ a < 4294967296) (hb : 0 ≤ b ∧ b < 4294967296) : Calls Tryz.prog 62 #[.int .u32 a, .int .u32 b, .bool c] w fun e w' => e = .returned (.tuple #[.int .u32 (Yd5 a b c), .agg (Yeu a b c).cells]) ∧ Upd [] w w' := by
 have q1 := Yhz a ha.1 ha.2
 have q2 := Yhz b hb.1 hb.2
 have HA := Yh_ (And.intro ha hb)
 obtain ⟨⟨x0, x1, x2, x3, x4, x5⟩, hF⟩ : ∃ F, Yeu a b c = F := ⟨_, rfl⟩
 have HF := Yh_ hF
 have tok1 : True := trivial
 have tok2 : True := trivial
 have tok3 : True := trivial
 clear ha hb
 rw [hF]
 clear hF
 unfold Fl.cells
 go_enter Tryz.func62, Tryz.ntmps62
 go_wp2_with (first | (have _t := tok1; clear _t; go_at_call 99; refine (Yk4 a b c _ HA.out.1 HA.out.2).mono ?_; rintro e w' ⟨rfl, rfl⟩; clear tok1) | (have _t := tok2; clear _t; go_at_call 99; refine (Yk4 (a % 16) (b % 16) c _ (by omega) (by omega)).mono ?_; rintro e w' ⟨rfl, rfl⟩; clear tok2) | (have _t := tok3; clear _t; go_at_call 63; refine (Yfx ⟨subC a b c, false, subC (a % 16) (b % 16) c, false, false, subO a b c⟩ (Yd5 a b c) _ (Yh6 a b c)).mono ?_; rintro e w1 ⟨rfl, hu⟩; rw [show Fl.by ⟨subC a b c, false, subC (a % 16) (b % 16) c, false, false, subO a b c⟩ (Yd5 a b c) = Yeu a b c from rfl, HF.out]; unfold Fl.cells; have hg := hu.get (heap_alloc_new w _) (by simp); have ch := Ya hg; have fh := Yi hg; have U1 := Yh_ (And.intro hg (((Upd.refl [] w).alloc _).also hu (by simp))); clear hg hu tok3))
 exact bodyPost_ret (Yar rfl (Yai 6 rfl) (Yce 7 w.heap.size ⟨x0, x1, x2, x3, x4, x5⟩ rfl (Ycc U1.out.1 _ _ _ _ _ _))) rfl ⟨rfl, Ya4 U1.out.2 (.inr (Nat.le_refl _)) _ _ _ _ _ _⟩
theorem Yip (a b : Int) (ha : 0 ≤ a ∧ a < 4294967296) (hb : 0 ≤ b ∧ b < 4294967296) : 0 ≤ bits .and .u32 a b ∧ bits .and .u32 a b < 4294967296 := by
 obtain ⟨a, rfl⟩ := Int.eq_ofNat_of_zero_le ha.1
 obtain ⟨b, rfl⟩ := Int.eq_ofNat_of_zero_le hb.1
 rw [u32_and_nat a b (by omega) (by omega)]
 have : a &&& b ≤ a := Nat.and_le_left
 omega
theorem or_u32 (a b : Int) (ha : 0 ≤ a ∧ a < 4294967296) (hb : 0 ≤ b ∧ b < 4294967296) : 0 ≤ bits .or .u32 a b ∧ bits .or .u32 a b < 4294967296 := by
 obtain ⟨a, rfl⟩ := Int.eq_ofNat_of_zero_le ha.1
 obtain ⟨b, rfl⟩ := Int.eq_ofNat_of_zero_le hb.1
 rw [u32_or_nat a b (by omega) (by omega)]
 have : a ||| b < 2 ^ 32 := Nat.or_lt_two_pow (by omega) (by omega)
 omega
theorem Yim (a b : Int) (ha : 0 ≤ a ∧ a < 4294967296) (hb : 0 ≤ b ∧ b < 4294967296) : 0 ≤ bits .xor .u32 a b ∧ bits .xor .u32 a b < 4294967296 := by
 obtain ⟨a, rfl⟩ := Int.eq_ofNat_of_zero_le ha.1
 obtain ⟨b, rfl⟩ := Int.eq_ofNat_of_zero_le hb.1
 rw [u32_xor_nat a b (by omega) (by omega)]
 have : a ^^^ b < 2 ^ 32 := Nat.xor_lt_two_pow (by omega) (by omega)
 omega
structure AlS (w : World) (f : Fl) (w1 : World) : Prop where
 z7 : w1.heap[w.heap.size]? = some (.cells f.cells 25 (0, 0))
 z9 : w1.heap[w.heap.size + 1]? = some (.cells Fl.zero.cells 25 (0, 0))
 z10 : w1.heap[w.heap.size + 1 + 1]? = some (.cells f.cells 25 (0, 0))
 u : Upd [] w w1
theorem AlS.of {w w1 : World} {f : Fl} (hu : Upd [] (((w.alloc (.cells f.cells 25)).alloc (.cells Fl.zero.cells 25)).alloc (.cells f.cells 25)) w1) : AlS w f w1 := by
 have h2 := heap_alloc_new ((w.alloc (.cells f.cells 25)).alloc (.cells Fl.zero.cells 25)) (.cells f.cells 25)
 rw [show ((w.alloc (.cells f.cells 25)).alloc (.cells Fl.zero.cells 25)).heap.size = w.heap.size + 1 + 1 from by simp] at h2
 exact ⟨hu.get (Yk _ (heap_alloc2_old _ _ _)) (by simp), hu.get (Yk _ (heap_alloc2_new _ _ _)) (by simp), hu.get h2 (by simp), ((((Upd.refl [] w).alloc _).alloc _).alloc _).also hu (by simp)⟩
structure AlE (w : World) (f : Fl) (w1 : World) : Prop where
 r7 : w1.heap[w.heap.size]? = some (.cells f.cells 25 (0, 0))
 r9 : w1.heap[w.heap.size + 1]? = some (.cells Fl.zero.cells 25 (0, 0))
 u : Upd [] w w1
theorem AlE.drew {w w1 : World} {f : Fl} (h : AlE w f w1) : AlE w f w1.drew := by
 have u := (Upd.refl [] w1).drew
 exact ⟨u.get h.r7 (by simp), u.get h.r9 (by simp), h.u.drew⟩
theorem AlS.st {w w1 : World} {f : Fl} (h : AlS w f w1) (x0 x1 x2 x3 x4 x5 : Bool) : AlE w ⟨x0, x1, x2, x3, x4, x5⟩ ((((((w1.setCell ⟨w.heap.size, 0, none⟩ (.bool x0)).setCell ⟨w.heap.size, 1, none⟩ (.bool x1)).setCell ⟨w.heap.size, 2, none⟩ (.bool x2)).setCell ⟨w.heap.size, 3, none⟩ (.bool x3)).setCell ⟨w.heap.size, 4, none⟩ (.bool x4)).setCell ⟨w.heap.size, 5, none⟩ (.bool x5)) :=
 ⟨Ycc h.z7 _ _ _ _ _ _, (Ya4 (S := [w.heap.size]) (Upd.refl _ w1) (.inl (by simp)) _ _ _ _ _ _).get h.z9 (by simp), Ya4 h.u (.inr (Nat.le_refl _)) _ _ _ _ _ _⟩
theorem AlE.cf {w w1 : World} {f : Fl} (h : AlE w f w1) (x : Bool) : AlE w { f with cf := x } (w1.setCell ⟨w.heap.size, 0, none⟩ (.bool x)) :=
 ⟨Yf h.r7 0 (.bool x), ((Upd.refl [w.heap.size] w1).setCell (p := ⟨w.heap.size, 0, none⟩) (.inl (by simp)) (.bool x)).get h.r9 (by simp), h.u.setCell (p := ⟨w.heap.size, 0, none⟩) (.inr (Nat.le_refl _)) _⟩
theorem AlE.start {w : World} {f : Fl} : AlE w f (((w.alloc (.cells f.cells 25)).alloc (.cells Fl.zero.cells 25)).alloc (.cells f.cells 25)) :=
 ⟨(AlS.of (Upd.refl [] _)).z7, (AlS.of (Upd.refl [] _)).z9, (AlS.of (Upd.refl [] _)).u⟩
theorem aluDo_3 (a b : Int) (f : Fl) (w : World) (ha : 0 ≤ a ∧ a < 4294967296) (hb : 0 ≤ b ∧ b < 4294967296) :
  Calls Tryz.prog 47 #[.int .i64 3, .int .u32 a, .int .u32 b, .agg f.cells] w fun e w' => e = .returned (.tuple #[.int .u32 (Ybr 3 a b f), .agg (Ya9 3 a b f).cells]) ∧ Upd [] w w' := by
 obtain ⟨c, d, e', z, n, o⟩ := f
 have HA := Yh_ (And.intro ha hb)
 obtain ⟨⟨x0, x1, x2, x3, x4, x5⟩, hF⟩ : ∃ F, addF a b false = F := ⟨_, rfl⟩
 have HF := Yh_ hF
 have HV := Yh_ (show Ya9 3 a b ⟨c, d, e', z, n, o⟩ = ⟨x0, x1, x2, x3, x4, x5⟩ by simp [Ya9, hF])
 clear hF
 have tok : True := trivial
 clear ha hb
 rw [HV.out]
 simp only [Ybr]
 unfold Fl.cells
 go_enter Tryz.func47, Tryz.ntmps47
 go_wp2_with (have _t := tok; clear _t; go_at_call 61; refine (Yhm a b false _ HA.out.1 HA.out.2).mono ?_; rintro e w1 ⟨rfl, hu⟩; rw [HF.out]; unfold Fl.cells; have h1 := AlS.of (f := ⟨c, d, e', z, n, o⟩) hu; have ch := Ya h1.z7; have fh := Yi h1.z7; have c10 := Ya h1.z10; unfold Fl.cells at ch c10; have H1 := Yh_ h1; clear hu h1 tok)
 refine Yaq 3 (AlE w ⟨x0, x1, x2, x3, x4, x5⟩) (fun _ _ => False) (by kernel_rfl) (by decide +kernel) ((H1.out.st x0 x1 x2 x3 x4 x5)).drew (fun _ _ _ h => h.elim) ?_
 simp only [List.take_succ_cons, List.take_zero, List.drop_succ_cons, List.drop_zero]
 iterate 3
  apply Yaa rfl rfl
  ·intro K hK w5 hB1
   have c7 := Ya hB1.r7
   unfold Fl.cells at c7
   have HB := Yh_ hB1
   clear hB1
   go_wp2_with fail
   first
   |exact hK _ HB.out
   |exact HB.out
  ·exact ⟨_, rfl⟩
 refine Yaf (fun _ w5 hB1 => ?_)
 have c9 := Ya hB1.r9
 have f9 := Yi hB1.r9
 unfold Fl.cells Fl.zero at c9
 have HB := Yh_ hB1
 clear hB1
 go_wp2_with fail
 exact bodyPost_ret (Yar rfl (Yai 8 rfl) (Yce 9 (w.heap.size + 1) ⟨x0, x1, x2, x3, x4, x5⟩ rfl (Ycc HB.out.r9 _ _ _ _ _ _))) rfl ⟨rfl, Ya4 HB.out.u (.inr (by omega)) _ _ _ _ _ _⟩
theorem aluDo_5 (a b : Int) (f : Fl) (w : World) (ha : 0 ≤ a ∧ a < 4294967296) (hb : 0 ≤ b ∧ b < 4294967296) :
  Calls Tryz.prog 47 #[.int .i64 5, .int .u32 a, .int .u32 b, .agg f.cells] w fun e w' => e = .returned (.tuple #[.int .u32 (Ybr 5 a b f), .agg (Ya9 5 a b f).cells]) ∧ Upd [] w w' := by
 obtain ⟨c, d, e', z, n, o⟩ := f
 have HA := Yh_ (And.intro ha hb)
 obtain ⟨⟨x0, x1, x2, x3, x4, x5⟩, hF⟩ : ∃ F, addF a b c = F := ⟨_, rfl⟩
 have HF := Yh_ hF
 have HV := Yh_ (show Ya9 5 a b ⟨c, d, e', z, n, o⟩ = ⟨x0, x1, x2, x3, x4, x5⟩ by simp [Ya9, hF])
 clear hF
 have tok : True := trivial
 clear ha hb
 rw [HV.out]
 simp only [Ybr]
 unfold Fl.cells
 go_enter Tryz.func47, Tryz.ntmps47
 go_wp2_with (have _t := tok; clear _t; go_at_call 61; refine (Yhm a b c _ HA.out.1 HA.out.2).mono ?_; rintro e w1 ⟨rfl, hu⟩; rw [HF.out]; unfold Fl.cells; have h1 := AlS.of (f := ⟨c, d, e', z, n, o⟩) hu; have ch := Ya h1.z7; have fh := Yi h1.z7; have c10 := Ya h1.z10; unfold Fl.cells at ch c10; have H1 := Yh_ h1; clear hu h1 tok)
 refine Yaq 3 (AlE w ⟨x0, x1, x2, x3, x4, x5⟩) (fun _ _ => False) (by kernel_rfl) (by decide +kernel) ((H1.out.st x0 x1 x2 x3 x4 x5)).drew (fun _ _ _ h => h.elim) ?_
 simp only [List.take_succ_cons, List.take_zero, List.drop_succ_cons, List.drop_zero]
 iterate 3
  apply Yaa rfl rfl
  ·intro K hK w5 hB1
   have c7 := Ya hB1.r7
   unfold Fl.cells at c7
   have HB := Yh_ hB1
   clear hB1
   go_wp2_with fail
   first
   |exact hK _ HB.out
   |exact HB.out
  ·exact ⟨_, rfl⟩
 refine Yaf (fun _ w5 hB1 => ?_)
 have c9 := Ya hB1.r9
 have f9 := Yi hB1.r9
 unfold Fl.cells Fl.zero at c9
 have HB := Yh_ hB1
 clear hB1
 go_wp2_with fail
 exact bodyPost_ret (Yar rfl (Yai 8 rfl) (Yce 9 (w.heap.size + 1) ⟨x0, x1, x2, x3, x4, x5⟩ rfl (Ycc HB.out.r9 _ _ _ _ _ _))) rfl ⟨rfl, Ya4 HB.out.u (.inr (by omega)) _ _ _ _ _ _⟩
theorem aluDo_8 (a b : Int) (f : Fl) (w : World) (ha : 0 ≤ a ∧ a < 4294967296) (hb : 0 ≤ b ∧ b < 4294967296) :
  Calls Tryz.prog 47 #[.int .i64 8, .int .u32 a, .int .u32 b, .agg f.cells] w fun e w' => e = .returned (.tuple #[.int .u32 (Ybr 8 a b f), .agg (Ya9 8 a b f).cells]) ∧ Upd [] w w' := by
 obtain ⟨c, d, e', z, n, o⟩ := f
 have HA := Yh_ (And.intro ha hb)
 obtain ⟨⟨x0, x1, x2, x3, x4, x5⟩, hF⟩ : ∃ F, Yeu a b false = F := ⟨_, rfl⟩
 have HF := Yh_ hF
 have HV := Yh_ (show Ya9 8 a b ⟨c, d, e', z, n, o⟩ = ⟨x0, x1, x2, x3, x4, x5⟩ by simp [Ya9, hF])
 clear hF
 have tok : True := trivial
 clear ha hb
 rw [HV.out]
 simp only [Ybr]
 unfold Fl.cells
 go_enter Tryz.func47, Tryz.ntmps47
 go_wp2_with (have _t := tok; clear _t; go_at_call 62; refine (Yes a b false _ HA.out.1 HA.out.2).mono ?_; rintro e w1 ⟨rfl, hu⟩; rw [HF.out]; unfold Fl.cells; have h1 := AlS.of (f := ⟨c, d, e', z, n, o⟩) hu; have ch := Ya h1.z7; have fh := Yi h1.z7; have c10 := Ya h1.z10; unfold Fl.cells at ch c10; have H1 := Yh_ h1; clear hu h1 tok)
 refine Yaq 3 (AlE w ⟨x0, x1, x2, x3, x4, x5⟩) (fun _ _ => False) (by kernel_rfl) (by decide +kernel) ((H1.out.st x0 x1 x2 x3 x4 x5)).drew (fun _ _ _ h => h.elim) ?_
 simp only [List.take_succ_cons, List.take_zero, List.drop_succ_cons, List.drop_zero]
 iterate 3
  apply Yaa rfl rfl
  ·intro K hK w5 hB1
   have c7 := Ya hB1.r7
   unfold Fl.cells at c7
   have HB := Yh_ hB1
   clear hB1
   go_wp2_with fail
   first
   |exact hK _ HB.out
   |exact HB.out
  ·exact ⟨_, rfl⟩
 refine Yaf (fun _ w5 hB1 => ?_)
 have c9 := Ya hB1.r9
 have f9 := Yi hB1.r9
 unfold Fl.cells Fl.zero at c9
 have HB := Yh_ hB1
 clear hB1
 go_wp2_with fail
 exact bodyPost_ret (Yar rfl (Yai 8 rfl) (Yce 9 (w.heap.size + 1) ⟨x0, x1, x2, x3, x4, x5⟩ rfl (Ycc HB.out.r9 _ _ _ _ _ _))) rfl ⟨rfl, Ya4 HB.out.u (.inr (by omega)) _ _ _ _ _ _⟩
theorem aluDo_6 (a b : Int) (f : Fl) (w : World) (ha : 0 ≤ a ∧ a < 4294967296) (hb : 0 ≤ b ∧ b < 4294967296) :
  Calls Tryz.prog 47 #[.int .i64 6, .int .u32 a, .int .u32 b, .agg f.cells] w fun e w' => e = .returned (.tuple #[.int .u32 (Ybr 6 a b f), .agg (Ya9 6 a b f).cells]) ∧ Upd [] w w' := by
 obtain ⟨c, d, e', z, n, o⟩ := f
 have HA := Yh_ (And.intro ha hb)
 obtain ⟨⟨x0, x1, x2, x3, x4, x5⟩, hF⟩ : ∃ F, Yeu a b c = F := ⟨_, rfl⟩
 have HF := Yh_ hF
 have HV := Yh_ (show Ya9 6 a b ⟨c, d, e', z, n, o⟩ = ⟨x0, x1, x2, x3, x4, x5⟩ by simp [Ya9, hF])
 clear hF
 have tok : True := trivial
 clear ha hb
 rw [HV.out]
 simp only [Ybr]
 unfold Fl.cells
 go_enter Tryz.func47, Tryz.ntmps47
 go_wp2_with (have _t := tok; clear _t; go_at_call 62; refine (Yes a b c _ HA.out.1 HA.out.2).mono ?_; rintro e w1 ⟨rfl, hu⟩; rw [HF.out]; unfold Fl.cells; have h1 := AlS.of (f := ⟨c, d, e', z, n, o⟩) hu; have ch := Ya h1.z7; have fh := Yi h1.z7; have c10 := Ya h1.z10; unfold Fl.cells at ch c10; have H1 := Yh_ h1; clear hu h1 tok)
 refine Yaq 3 (AlE w ⟨x0, x1, x2, x3, x4, x5⟩) (fun _ _ => False) (by kernel_rfl) (by decide +kernel) ((H1.out.st x0 x1 x2 x3 x4 x5)).drew (fun _ _ _ h => h.elim) ?_
 simp only [List.take_succ_cons, List.take_zero, List.drop_succ_cons, List.drop_zero]
 iterate 3
  apply Yaa rfl rfl
  ·intro K hK w5 hB1
   have c7 := Ya hB1.r7
   unfold Fl.cells at c7
   have HB := Yh_ hB1
   clear hB1
   go_wp2_with fail
   first
   |exact hK _ HB.out
   |exact HB.out
  ·exact ⟨_, rfl⟩
 refine Yaf (fun _ w5 hB1 => ?_)
 have c9 := Ya hB1.r9
 have f9 := Yi hB1.r9
 unfold Fl.cells Fl.zero at c9
 have HB := Yh_ hB1
 clear hB1
 go_wp2_with fail
 exact bodyPost_ret (Yar rfl (Yai 8 rfl) (Yce 9 (w.heap.size + 1) ⟨x0, x1, x2, x3, x4, x5⟩ rfl (Ycc HB.out.r9 _ _ _ _ _ _))) rfl ⟨rfl, Ya4 HB.out.u (.inr (by omega)) _ _ _ _ _ _⟩
theorem aluDo_10 (a b : Int) (f : Fl) (w : World) (ha : 0 ≤ a ∧ a < 4294967296) (hb : 0 ≤ b ∧ b < 4294967296) :
  Calls Tryz.prog 47 #[.int .i64 10, .int .u32 a, .int .u32 b, .agg f.cells] w fun e w' => e = .returned (.tuple #[.int .u32 (Ybr 10 a b f), .agg (Ya9 10 a b f).cells]) ∧ Upd [] w w' := by
 obtain ⟨c, d, e', z, n, o⟩ := f
 have HA := Yh_ (And.intro ha hb)
 obtain ⟨⟨x0, x1, x2, x3, x4, x5⟩, hF⟩ : ∃ F, Yeu a b false = F := ⟨_, rfl⟩
 have HF := Yh_ hF
 have HV := Yh_ (show Ya9 10 a b ⟨c, d, e', z, n, o⟩ = ⟨x0, x1, x2, x3, x4, x5⟩ by simp [Ya9, hF])
 clear hF
 have tok : True := trivial
 clear ha hb
 rw [HV.out]
 simp only [Ybr]
 unfold Fl.cells
 go_enter Tryz.func47, Tryz.ntmps47
 go_wp2_with (have _t := tok; clear _t; go_at_call 62; refine (Yes a b false _ HA.out.1 HA.out.2).mono ?_; rintro e w1 ⟨rfl, hu⟩; rw [HF.out]; unfold Fl.cells; have h1 := AlS.of (f := ⟨c, d, e', z, n, o⟩) hu; have ch := Ya h1.z7; have fh := Yi h1.z7; have c10 := Ya h1.z10; unfold Fl.cells at ch c10; have H1 := Yh_ h1; clear hu h1 tok)
 refine Yaq 3 (AlE w ⟨x0, x1, x2, x3, x4, x5⟩) (fun _ _ => False) (by kernel_rfl) (by decide +kernel) ((H1.out.st x0 x1 x2 x3 x4 x5)).drew (fun _ _ _ h => h.elim) ?_
 simp only [List.take_succ_cons, List.take_zero, List.drop_succ_cons, List.drop_zero]
 iterate 3
  apply Yaa rfl rfl
  ·intro K hK w5 hB1
   have c7 := Ya hB1.r7
   unfold Fl.cells at c7
   have HB := Yh_ hB1
   clear hB1
   go_wp2_with fail
   first
   |exact hK _ HB.out
   |exact HB.out
  ·exact ⟨_, rfl⟩
 refine Yaf (fun _ w5 hB1 => ?_)
 have c9 := Ya hB1.r9
 have f9 := Yi hB1.r9
 unfold Fl.cells Fl.zero at c9
 have HB := Yh_ hB1
 clear hB1
 go_wp2_with fail
 exact bodyPost_ret (Yar rfl (Yai 8 rfl) (Yce 9 (w.heap.size + 1) ⟨x0, x1, x2, x3, x4, x5⟩ rfl (Ycc HB.out.r9 _ _ _ _ _ _))) rfl ⟨rfl, Ya4 HB.out.u (.inr (by omega)) _ _ _ _ _ _⟩
theorem aluDo_12 (a b : Int) (f : Fl) (w : World) (ha : 0 ≤ a ∧ a < 4294967296) (hb : 0 ≤ b ∧ b < 4294967296) :
  Calls Tryz.prog 47 #[.int .i64 12, .int .u32 a, .int .u32 b, .agg f.cells] w fun e w' => e = .returned (.tuple #[.int .u32 (Ybr 12 a b f), .agg (Ya9 12 a b f).cells]) ∧ Upd [] w w' := by
 obtain ⟨c, d, e', z, n, o⟩ := f
 have HA := Yh_ (And.intro ha hb)
 obtain ⟨⟨x0, x1, x2, x3, x4, x5⟩, hF⟩ : ∃ F, addF a 1 false = F := ⟨_, rfl⟩
 have HF := Yh_ hF
 have HV := Yh_ (show Ya9 12 a b ⟨c, d, e', z, n, o⟩ = ⟨c, x1, x2, x3, x4, x5⟩ by simp [Ya9, hF])
 clear hF
 have tok : True := trivial
 clear ha hb
 rw [HV.out]
 simp only [Ybr]
 unfold Fl.cells
 go_enter Tryz.func47, Tryz.ntmps47
 go_wp2_with (have _t := tok; clear _t; go_at_call 61; refine (Yhm a 1 false _ HA.out.1 (by decide)).mono ?_; rintro e w1 ⟨rfl, hu⟩; rw [HF.out]; unfold Fl.cells; have h1 := AlS.of (f := ⟨c, d, e', z, n, o⟩) hu; have ch := Ya h1.z7; have fh := Yi h1.z7; have c10 := Ya h1.z10; unfold Fl.cells at ch c10; have H1 := Yh_ h1; clear hu h1 tok)
 refine Yaq 3 (AlE w ⟨c, x1, x2, x3, x4, x5⟩) (fun _ _ => False) (by kernel_rfl) (by decide +kernel) (((H1.out.st x0 x1 x2 x3 x4 x5).cf c)).drew (fun _ _ _ h => h.elim) ?_
 simp only [List.take_succ_cons, List.take_zero, List.drop_succ_cons, List.drop_zero]
 iterate 3
  apply Yaa rfl rfl
  ·intro K hK w5 hB1
   have c7 := Ya hB1.r7
   unfold Fl.cells at c7
   have HB := Yh_ hB1
   clear hB1
   go_wp2_with fail
   first
   |exact hK _ HB.out
   |exact HB.out
  ·exact ⟨_, rfl⟩
 refine Yaf (fun _ w5 hB1 => ?_)
 have c9 := Ya hB1.r9
 have f9 := Yi hB1.r9
 unfold Fl.cells Fl.zero at c9
 have HB := Yh_ hB1
 clear hB1
 go_wp2_with fail
 exact bodyPost_ret (Yar rfl (Yai 8 rfl) (Yce 9 (w.heap.size + 1) ⟨c, x1, x2, x3, x4, x5⟩ rfl (Ycc HB.out.r9 _ _ _ _ _ _))) rfl ⟨rfl, Ya4 HB.out.u (.inr (by omega)) _ _ _ _ _ _⟩
theorem aluDo_13 (a b : Int) (f : Fl) (w : World) (ha : 0 ≤ a ∧ a < 4294967296) (hb : 0 ≤ b ∧ b < 4294967296) :
  Calls Tryz.prog 47 #[.int .i64 13, .int .u32 a, .int .u32 b, .agg f.cells] w fun e w' => e = .returned (.tuple #[.int .u32 (Ybr 13 a b f), .agg (Ya9 13 a b f).cells]) ∧ Upd [] w w' := by
 obtain ⟨c, d, e', z, n, o⟩ := f
 have HA := Yh_ (And.intro ha hb)
 obtain ⟨⟨x0, x1, x2, x3, x4, x5⟩, hF⟩ : ∃ F, Yeu a 1 false = F := ⟨_, rfl⟩
 have HF := Yh_ hF
 have HV := Yh_ (show Ya9 13 a b ⟨c, d, e', z, n, o⟩ = ⟨c, x1, x2, x3, x4, x5⟩ by simp [Ya9, hF])
 clear hF
 have tok : True := trivial
 clear ha hb
 rw [HV.out]
 simp only [Ybr]
 unfold Fl.cells
 go_enter Tryz.func47, Tryz.ntmps47
 go_wp2_with (have _t := tok; clear _t; go_at_call 62; refine (Yes a 1 false _ HA.out.1 (by decide)).mono ?_; rintro e w1 ⟨rfl, hu⟩; rw [HF.out]; unfold Fl.cells; have h1 := AlS.of (f := ⟨c, d, e', z, n, o⟩) hu; have ch := Ya h1.z7; have fh := Yi h1.z7; have c10 := Ya h1.z10; unfold Fl.cells at ch c10; have H1 := Yh_ h1; clear hu h1 tok)
 refine Yaq 3 (AlE w ⟨c, x1, x2, x3, x4, x5⟩) (fun _ _ => False) (by kernel_rfl) (by decide +kernel) (((H1.out.st x0 x1 x2 x3 x4 x5).cf c)).drew (fun _ _ _ h => h.elim) ?_
 simp only [List.take_succ_cons, List.take_zero, List.drop_succ_cons, List.drop_zero]
 iterate 3
  apply Yaa rfl rfl
  ·intro K hK w5 hB1
   have c7 := Ya hB1.r7
   unfold Fl.cells at c7
   have HB := Yh_ hB1
   clear hB1
   go_wp2_with fail
   first
   |exact hK _ HB.out
   |exact HB.out
  ·exact ⟨_, rfl⟩
 refine Yaf (fun _ w5 hB1 => ?_)
 have c9 := Ya hB1.r9
 have f9 := Yi hB1.r9
 unfold Fl.cells Fl.zero at c9
 have HB := Yh_ hB1
 clear hB1
 go_wp2_with fail
 exact bodyPost_ret (Yar rfl (Yai 8 rfl) (Yce 9 (w.heap.size + 1) ⟨c, x1, x2, x3, x4, x5⟩ rfl (Ycc HB.out.r9 _ _ _ _ _ _))) rfl ⟨rfl, Ya4 HB.out.u (.inr (by omega)) _ _ _ _ _ _⟩
theorem aluDo_15 (a b : Int) (f : Fl) (w : World) (ha : 0 ≤ a ∧ a < 4294967296) (hb : 0 ≤ b ∧ b < 4294967296) :
  Calls Tryz.prog 47 #[.int .i64 15, .int .u32 a, .int .u32 b, .agg f.cells] w fun e w' => e = .returned (.tuple #[.int .u32 (Ybr 15 a b f), .agg (Ya9 15 a b f).cells]) ∧ Upd [] w w' := by
 obtain ⟨c, d, e', z, n, o⟩ := f
 have HA := Yh_ (And.intro ha hb)
 obtain ⟨⟨x0, x1, x2, x3, x4, x5⟩, hF⟩ : ∃ F, Yeu 0 a false = F := ⟨_, rfl⟩
 have HF := Yh_ hF
 have HV := Yh_ (show Ya9 15 a b ⟨c, d, e', z, n, o⟩ = ⟨x0, x1, x2, x3, x4, x5⟩ by simp [Ya9, hF])
 clear hF
 have tok : True := trivial
 clear ha hb
 rw [HV.out]
 simp only [Ybr]
 unfold Fl.cells
 go_enter Tryz.func47, Tryz.ntmps47
 go_wp2_with (have _t := tok; clear _t; go_at_call 62; refine (Yes 0 a false _ (by decide) HA.out.1).mono ?_; rintro e w1 ⟨rfl, hu⟩; rw [HF.out]; unfold Fl.cells; have h1 := AlS.of (f := ⟨c, d, e', z, n, o⟩) hu; have ch := Ya h1.z7; have fh := Yi h1.z7; have c10 := Ya h1.z10; unfold Fl.cells at ch c10; have H1 := Yh_ h1; clear hu h1 tok)
 refine Yaq 3 (AlE w ⟨x0, x1, x2, x3, x4, x5⟩) (fun _ _ => False) (by kernel_rfl) (by decide +kernel) ((H1.out.st x0 x1 x2 x3 x4 x5)).drew (fun _ _ _ h => h.elim) ?_
 simp only [List.take_succ_cons, List.take_zero, List.drop_succ_cons, List.drop_zero]
 iterate 3
  apply Yaa rfl rfl
  ·intro K hK w5 hB1
   have c7 := Ya hB1.r7
   unfold Fl.cells at c7
   have HB := Yh_ hB1
   clear hB1
   go_wp2_with fail
   first
   |exact hK _ HB.out
   |exact HB.out
  ·exact ⟨_, rfl⟩
 refine Yaf (fun _ w5 hB1 => ?_)
 have c9 := Ya hB1.r9
 have f9 := Yi hB1.r9
 unfold Fl.cells Fl.zero at c9
 have HB := Yh_ hB1
 clear hB1
 go_wp2_with fail
 exact bodyPost_ret (Yar rfl (Yai 8 rfl) (Yce 9 (w.heap.size + 1) ⟨x0, x1, x2, x3, x4, x5⟩ rfl (Ycc HB.out.r9 _ _ _ _ _ _))) rfl ⟨rfl, Ya4 HB.out.u (.inr (by omega)) _ _ _ _ _ _⟩
theorem aluDo_7 (a b : Int) (f : Fl) (w : World) (ha : 0 ≤ a ∧ a < 4294967296) (hb : 0 ≤ b ∧ b < 4294967296) :
  Calls Tryz.prog 47 #[.int .i64 7, .int .u32 a, .int .u32 b, .agg f.cells] w fun e w' => e = .returned (.tuple #[.int .u32 (Ybr 7 a b f), .agg (Ya9 7 a b f).cells]) ∧ Upd [] w w' := by
 obtain ⟨c, d, e', z, n, o⟩ := f
 have HA := Yh_ (And.intro ha hb)
 obtain ⟨⟨x0, x1, x2, x3, x4, x5⟩, hF⟩ : ∃ F, Fl.by Fl.zero (bits .and .u32 a b) = F := ⟨_, rfl⟩
 have HF := Yh_ hF
 have HV := Yh_ (show Ya9 7 a b ⟨c, d, e', z, n, o⟩ = ⟨x0, x1, x2, x3, x4, x5⟩ by simp [Ya9, hF])
 clear hF
 have tok : True := trivial
 clear ha hb
 rw [HV.out]
 simp only [Ybr]
 unfold Fl.cells
 go_enter Tryz.func47, Tryz.ntmps47
 go_wp2_with (have _t := tok; clear _t; go_at_call 63; refine (Yfx Fl.zero (bits .and .u32 a b) _ (Yip a b HA.out.1 HA.out.2)).mono ?_; rintro e w1 ⟨rfl, hu⟩; rw [HF.out]; unfold Fl.cells; have h1 := AlS.of (f := ⟨c, d, e', z, n, o⟩) hu; have ch := Ya h1.z7; have fh := Yi h1.z7; unfold Fl.cells at ch; have H1 := Yh_ h1; clear hu h1 tok)
 refine Yaq 3 (AlE w ⟨x0, x1, x2, x3, x4, x5⟩) (fun _ _ => False) (by kernel_rfl) (by decide +kernel) ((H1.out.st x0 x1 x2 x3 x4 x5)).drew (fun _ _ _ h => h.elim) ?_
 simp only [List.take_succ_cons, List.take_zero, List.drop_succ_cons, List.drop_zero]
 iterate 3
  apply Yaa rfl rfl
  ·intro K hK w5 hB1
   have c7 := Ya hB1.r7
   unfold Fl.cells at c7
   have HB := Yh_ hB1
   clear hB1
   go_wp2_with fail
   first
   |exact hK _ HB.out
   |exact HB.out
  ·exact ⟨_, rfl⟩
 refine Yaf (fun _ w5 hB1 => ?_)
 have c9 := Ya hB1.r9
 have f9 := Yi hB1.r9
 unfold Fl.cells Fl.zero at c9
 have HB := Yh_ hB1
 clear hB1
 go_wp2_with fail
 exact bodyPost_ret (Yar rfl (Yai 8 rfl) (Yce 9 (w.heap.size + 1) ⟨x0, x1, x2, x3, x4, x5⟩ rfl (Ycc HB.out.r9 _ _ _ _ _ _))) rfl ⟨rfl, Ya4 HB.out.u (.inr (by omega)) _ _ _ _ _ _⟩
theorem aluDo_4 (a b : Int) (f : Fl) (w : World) (ha : 0 ≤ a ∧ a < 4294967296) (hb : 0 ≤ b ∧ b < 4294967296) :
  Calls Tryz.prog 47 #[.int .i64 4, .int .u32 a, .int .u32 b, .agg f.cells] w fun e w' => e = .returned (.tuple #[.int .u32 (Ybr 4 a b f), .agg (Ya9 4 a b f).cells]) ∧ Upd [] w w' := by
 obtain ⟨c, d, e', z, n, o⟩ := f
 have HA := Yh_ (And.intro ha hb)
 obtain ⟨⟨x0, x1, x2, x3, x4, x5⟩, hF⟩ : ∃ F, Fl.by Fl.zero (bits .or .u32 a b) = F := ⟨_, rfl⟩
 have HF := Yh_ hF
 have HV := Yh_ (show Ya9 4 a b ⟨c, d, e', z, n, o⟩ = ⟨x0, x1, x2, x3, x4, x5⟩ by simp [Ya9, hF])
 clear hF
 have tok : True := trivial
 clear ha hb
 rw [HV.out]
 simp only [Ybr]
 unfold Fl.cells
 go_enter Tryz.func47, Tryz.ntmps47
 go_wp2_with (have _t := tok; clear _t; go_at_call 63; refine (Yfx Fl.zero (bits .or .u32 a b) _ (or_u32 a b HA.out.1 HA.out.2)).mono ?_; rintro e w1 ⟨rfl, hu⟩; rw [HF.out]; unfold Fl.cells; have h1 := AlS.of (f := ⟨c, d, e', z, n, o⟩) hu; have ch := Ya h1.z7; have fh := Yi h1.z7; unfold Fl.cells at ch; have H1 := Yh_ h1; clear hu h1 tok)
 refine Yaq 3 (AlE w ⟨x0, x1, x2, x3, x4, x5⟩) (fun _ _ => False) (by kernel_rfl) (by decide +kernel) ((H1.out.st x0 x1 x2 x3 x4 x5)).drew (fun _ _ _ h => h.elim) ?_
 simp only [List.take_succ_cons, List.take_zero, List.drop_succ_cons, List.drop_zero]
 iterate 3
  apply Yaa rfl rfl
  ·intro K hK w5 hB1
   have c7 := Ya hB1.r7
   unfold Fl.cells at c7
   have HB := Yh_ hB1
   clear hB1
   go_wp2_with fail
   first
   |exact hK _ HB.out
   |exact HB.out
  ·exact ⟨_, rfl⟩
 refine Yaf (fun _ w5 hB1 => ?_)
 have c9 := Ya hB1.r9
 have f9 := Yi hB1.r9
 unfold Fl.cells Fl.zero at c9
 have HB := Yh_ hB1
 clear hB1
 go_wp2_with fail
 exact bodyPost_ret (Yar rfl (Yai 8 rfl) (Yce 9 (w.heap.size + 1) ⟨x0, x1, x2, x3, x4, x5⟩ rfl (Ycc HB.out.r9 _ _ _ _ _ _))) rfl ⟨rfl, Ya4 HB.out.u (.inr (by omega)) _ _ _ _ _ _⟩
theorem aluDo_9 (a b : Int) (f : Fl) (w : World) (ha : 0 ≤ a ∧ a < 4294967296) (hb : 0 ≤ b ∧ b < 4294967296) :
  Calls Tryz.prog 47 #[.int .i64 9, .int .u32 a, .int .u32 b, .agg f.cells] w fun e w' => e = .returned (.tuple #[.int .u32 (Ybr 9 a b f), .agg (Ya9 9 a b f).cells]) ∧ Upd [] w w' := by
 obtain ⟨c, d, e', z, n, o⟩ := f
 have HA := Yh_ (And.intro ha hb)
 obtain ⟨⟨x0, x1, x2, x3, x4, x5⟩, hF⟩ : ∃ F, Fl.by Fl.zero (bits .xor .u32 a b) = F := ⟨_, rfl⟩
 have HF := Yh_ hF
 have HV := Yh_ (show Ya9 9 a b ⟨c, d, e', z, n, o⟩ = ⟨x0, x1, x2, x3, x4, x5⟩ by simp [Ya9, hF])
 clear hF
 have tok : True := trivial
 clear ha hb
 rw [HV.out]
 simp only [Ybr]
 unfold Fl.cells
 go_enter Tryz.func47, Tryz.ntmps47
 go_wp2_with (have _t := tok; clear _t; go_at_call 63; refine (Yfx Fl.zero (bits .xor .u32 a b) _ (Yim a b HA.out.1 HA.out.2)).mono ?_; rintro e w1 ⟨rfl, hu⟩; rw [HF.out]; unfold Fl.cells; have h1 := AlS.of (f := ⟨c, d, e', z, n, o⟩) hu; have ch := Ya h1.z7; have fh := Yi h1.z7; unfold Fl.cells at ch; have H1 := Yh_ h1; clear hu h1 tok)
 refine Yaq 3 (AlE w ⟨x0, x1, x2, x3, x4, x5⟩) (fun _ _ => False) (by kernel_rfl) (by decide +kernel) ((H1.out.st x0 x1 x2 x3 x4 x5)).drew (fun _ _ _ h => h.elim) ?_
 simp only [List.take_succ_cons, List.take_zero, List.drop_succ_cons, List.drop_zero]
 iterate 3
  apply Yaa rfl rfl
  ·intro K hK w5 hB1
   have c7 := Ya hB1.r7
   unfold Fl.cells at c7
   have HB := Yh_ hB1
   clear hB1
   go_wp2_with fail
   first
   |exact hK _ HB.out
   |exact HB.out
  ·exact ⟨_, rfl⟩
 refine Yaf (fun _ w5 hB1 => ?_)
 have c9 := Ya hB1.r9
 have f9 := Yi hB1.r9
 unfold Fl.cells Fl.zero at c9
 have HB := Yh_ hB1
 clear hB1
 go_wp2_with fail
 exact bodyPost_ret (Yar rfl (Yai 8 rfl) (Yce 9 (w.heap.size + 1) ⟨x0, x1, x2, x3, x4, x5⟩ rfl (Ycc HB.out.r9 _ _ _ _ _ _))) rfl ⟨rfl, Ya4 HB.out.u (.inr (by omega)) _ _ _ _ _ _⟩
theorem aluDo_11 (a b : Int) (f : Fl) (w : World) (ha : 0 ≤ a ∧ a < 4294967296) (hb : 0 ≤ b ∧ b < 4294967296) :
  Calls Tryz.prog 47 #[.int .i64 11, .int .u32 a, .int .u32 b, .agg f.cells] w fun e w' => e = .returned (.tuple #[.int .u32 (Ybr 11 a b f), .agg (Ya9 11 a b f).cells]) ∧ Upd [] w w' := by
 obtain ⟨c, d, e', z, n, o⟩ := f
 have HA := Yh_ (And.intro ha hb)
 obtain ⟨⟨x0, x1, x2, x3, x4, x5⟩, hF⟩ : ∃ F, Fl.by Fl.zero (bits .and .u32 a b) = F := ⟨_, rfl⟩
 have HF := Yh_ hF
 have HV := Yh_ (show Ya9 11 a b ⟨c, d, e', z, n, o⟩ = ⟨x0, x1, x2, x3, x4, x5⟩ by simp [Ya9, hF])
 clear hF
 have tok : True := trivial
 clear ha hb
 rw [HV.out]
 simp only [Ybr]
 unfold Fl.cells
 go_enter Tryz.func47, Tryz.ntmps47
 go_wp2_with (have _t := tok; clear _t; go_at_call 63; refine (Yfx Fl.zero (bits .and .u32 a b) _ (Yip a b HA.out.1 HA.out.2)).mono ?_; rintro e w1 ⟨rfl, hu⟩; rw [HF.out]; unfold Fl.cells; have h1 := AlS.of (f := ⟨c, d, e', z, n, o⟩) hu; have ch := Ya h1.z7; have fh := Yi h1.z7; unfold Fl.cells at ch; have H1 := Yh_ h1; clear hu h1 tok)
 refine Yaq 3 (AlE w ⟨x0, x1, x2, x3, x4, x5⟩) (fun _ _ => False) (by kernel_rfl) (by decide +kernel) ((H1.out.st x0 x1 x2 x3 x4 x5)).drew (fun _ _ _ h => h.elim) ?_
 simp only [List.take_succ_cons, List.take_zero, List.drop_succ_cons, List.drop_zero]
 iterate 3
  apply Yaa rfl rfl
  ·intro K hK w5 hB1
   have c7 := Ya hB1.r7
   unfold Fl.cells at c7
   have HB := Yh_ hB1
   clear hB1
   go_wp2_with fail
   first
   |exact hK _ HB.out
   |exact HB.out
  ·exact ⟨_, rfl⟩
 refine Yaf (fun _ w5 hB1 => ?_)
 have c9 := Ya hB1.r9
 have f9 := Yi hB1.r9
 unfold Fl.cells Fl.zero at c9
 have HB := Yh_ hB1
 clear hB1
 go_wp2_with fail
 exact bodyPost_ret (Yar rfl (Yai 8 rfl) (Yce 9 (w.heap.size + 1) ⟨x0, x1, x2, x3, x4, x5⟩ rfl (Ycc HB.out.r9 _ _ _ _ _ _))) rfl ⟨rfl, Ya4 HB.out.u (.inr (by omega)) _ _ _ _ _ _⟩
theorem aluDo_14 (a b : Int) (f : Fl) (w : World) (ha : 0 ≤ a ∧ a < 4294967296) (hb : 0 ≤ b ∧ b < 4294967296) :
  Calls Tryz.prog 47 #[.int .i64 14, .int .u32 a, .int .u32 b, .agg f.cells] w fun e w' => e = .returned (.tuple #[.int .u32 (Ybr 14 a b f), .agg (Ya9 14 a b f).cells]) ∧ Upd [] w w' := by
 obtain ⟨c, d, e', z, n, o⟩ := f
 have HA := Yh_ (And.intro ha hb)
 have HV := Yh_ (show Ya9 14 a b ⟨c, d, e', z, n, o⟩ = ⟨c, d, e', z, n, o⟩ by simp [Ya9])
 have tok : True := trivial
 clear ha hb
 rw [HV.out]
 simp only [Ybr]
 unfold Fl.cells
 go_enter Tryz.func47, Tryz.ntmps47
 go_wp2_with fail
 refine Yaq 3 (AlE w ⟨c, d, e', z, n, o⟩) (fun _ _ => False) (by kernel_rfl) (by decide +kernel) (AlE.start).drew (fun _ _ _ h => h.elim) ?_
 simp only [List.take_succ_cons, List.take_zero, List.drop_succ_cons, List.drop_zero]
 iterate 3
  apply Yaa rfl rfl
  ·intro K hK w5 hB1
   have c7 := Ya hB1.r7
   unfold Fl.cells at c7
   have HB := Yh_ hB1
   clear hB1
   go_wp2_with fail
   first
   |exact hK _ HB.out
   |exact HB.out
  ·exact ⟨_, rfl⟩
 refine Yaf (fun _ w5 hB1 => ?_)
 have c9 := Ya hB1.r9
 have f9 := Yi hB1.r9
 unfold Fl.cells Fl.zero at c9
 have HB := Yh_ hB1
 clear hB1
 go_wp2_with fail
 exact bodyPost_ret (Yar rfl (Yai 8 rfl) (Yce 9 (w.heap.size + 1) ⟨c, d, e', z, n, o⟩ rfl (Ycc HB.out.r9 _ _ _ _ _ _))) rfl ⟨rfl, Ya4 HB.out.u (.inr (by omega)) _ _ _ _ _ _⟩
def Yh8 (op : Int) : Bool := (decide (3 ≤ op) && decide (op ≤ 15))
theorem Yob (op a b : Int) (f : Fl) (w : World) (hop : Yh8 op = true) (ha : 0 ≤ a ∧ a < 4294967296) (hb : 0 ≤ b ∧ b < 4294967296) :
  Calls Tryz.prog 47 #[.int .i64 op, .int .u32 a, .int .u32 b, .agg f.cells] w fun e w' => e = .returned (.tuple #[.int .u32 (Ybr op a b f), .agg (Ya9 op a b f).cells]) ∧ Upd [] w w' := by
 have h : op = 3 ∨ op = 4 ∨ op = 5 ∨ op = 6 ∨ op = 7 ∨ op = 8 ∨ op = 9 ∨ op = 10 ∨ op = 11 ∨ op = 12 ∨ op = 13 ∨ op = 14 ∨ op = 15 := by
  simp only [Yh8, Bool.and_eq_true, decide_eq_true_eq] at hop
  omega
 rcases h with rfl | rfl | rfl | rfl | rfl | rfl | rfl | rfl | rfl | rfl | rfl | rfl | rfl
 ·exact aluDo_3 a b f w ha hb
 ·exact aluDo_4 a b f w ha hb
 ·exact aluDo_5 a b f w ha hb
 ·exact aluDo_6 a b f w ha hb
 ·exact aluDo_7 a b f w ha hb
 ·exact aluDo_8 a b f w ha hb
 ·exact aluDo_9 a b f w ha hb
 ·exact aluDo_10 a b f w ha hb
 ·exact aluDo_11 a b f w ha hb
 ·exact aluDo_12 a b f w ha hb
 ·exact aluDo_13 a b f w ha hb
 ·exact aluDo_14 a b f w ha hb
 ·exact aluDo_15 a b f w ha hb
theorem Yn6 (op a b : Int) (f : Fl) (ha : 0 ≤ a ∧ a < 4294967296) (hb : 0 ≤ b ∧ b < 4294967296) : 0 ≤ Ybr op a b f ∧ Ybr op a b f < 4294967296 := by
 unfold Ybr
 repeat' split
 all_goals first | exact Yh1 _ _ _ | exact Yh6 _ _ _ | exact Yip a b ha hb | exact or_u32 a b ha hb | exact Yim a b ha hb | exact Yim 4294967295 a (by decide) ha | exact ha
section
structure Dq (w : World) (d a pb : Nat) (s : St) (i : Ins) (M : Mem) (L : List (Nat × Obj)) (w1 : World) : Prop where
 b : Yp w1 d a pb s i M
 o : ∀ p ∈ L, w1.heap[p.1]? = some p.2
 u : Upd [d, pb] w w1
 n : ∀ p ∈ L, p.1 ≠ d ∧ p.1 ≠ pb
section
variable {w w1 w2 : World} {d a pb : Nat} {s s2 : St} {i : Ins} {M M2 : Mem} {L : List (Nat × Obj)}
theorem Dq.quiet (h : Dq w d a pb s i M L w1) (u : Upd [] w1 w2) : Dq w d a pb s i M L w2 :=
 ⟨h.b.keep u (by simp) (by simp) (by simp), fun p hp => u.get (h.o p hp) (by simp), h.u.also u (by simp), h.n⟩
theorem Dq.drew (h : Dq w d a pb s i M L w1) : Dq w d a pb s i M L w1.drew := h.quiet (Upd.refl [] w1).drew
theorem Dq.next (h : Dq w d a pb s i M L w1) (hd : Yp w2 d a pb s2 i M2) (u : Upd [d, pb] w1 w2) : Dq w d a pb s2 i M2 L w2 :=
 ⟨hd, fun p hp => u.get (h.o p hp) (by have := h.n p hp; simp; exact ⟨this.1, this.2⟩), h.u.also u (fun x hx => .inl hx), h.n⟩
theorem Dq.of (h : Yp w d a pb s i M) : Dq w d a pb s i M [] w := ⟨h, by simp, Upd.refl _ _, by simp⟩
theorem Dq.one {b : Nat} {c : Array Value} {t : TypeId} {f : Nat × Nat} (h : Dq w d a pb s i M ((b, .cells c t f) :: L) w1) : w1.heap[b]? = some (.cells c t f) := h.o (b, .cells c t f) (by simp)
theorem Dq.ins {g : Nat} (h : Dq w d a pb s i M ((g, .cells i.cells 41 (0, 0)) :: L) w1) : ∀ o, w1.cell? ⟨g, o, none⟩ = i.cells[o]? := Ya h.one
theorem Dq.lts (h : Dq w d a pb s i M L w1) : d < w1.heap.size ∧ a < w1.heap.size ∧ pb < w1.heap.size ∧ ∀ p ∈ L, p.1 < w1.heap.size :=
 ⟨h.b.lt, by obtain ⟨C, _, hc⟩ := h.b.m.hd; exact Yh hc, by obtain ⟨C, _, hc⟩ := h.b.m.pg; exact Yh hc, fun p hp => Yh (h.o p hp)⟩
theorem Dq.lay (h : Dq w d a pb s i M L w1) (c : Array Value) (t : TypeId) : Dq w d a pb s i M ((w1.heap.size, .cells c t (0, 0)) :: L) (w1.alloc (.cells c t)) := by
 have h' := h.quiet ((Upd.refl [] w1).alloc (.cells c t))
 refine ⟨h'.b, fun p hp => ?_, h'.u, fun p hp => ?_⟩
 ·rcases List.mem_cons.1 hp with rfl | hp
  ·exact heap_alloc_new w1 _
  ·exact h'.o p hp
 ·rcases List.mem_cons.1 hp with rfl | hp
  ·have := h.lts; exact ⟨by dsimp only; omega, by dsimp only; omega⟩
  ·exact h.n p hp
theorem Dq.add (h : Dq w d a pb s i M L w1) {g : Nat} {o : Obj} (hg : w1.heap[g]? = some o) (h1 : g ≠ d) (h2 : g ≠ pb) : Dq w d a pb s i M ((g, o) :: L) w1 := by
 refine ⟨h.b, fun p hp => ?_, h.u, fun p hp => ?_⟩
 ·rcases List.mem_cons.1 hp with rfl | hp
  ·exact hg
  ·exact h.o p hp
 ·rcases List.mem_cons.1 hp with rfl | hp
  ·exact ⟨h1, h2⟩
  ·exact h.n p hp
theorem Dq.put {b : Nat} {c v : Array Value} {t : TypeId} (h : Dq w d a pb s i M ((b, .cells c t (0, 0)) :: L) w1) (hb : w.heap.size ≤ b) (hba : b ≠ a) (hL : ∀ p ∈ L, p.1 ≠ b) (hv : wr c 0 v.toList = v) (hw : w1.setCells b 0 v.toList = w2) : Dq w d a pb s i M ((b, .cells v t (0, 0)) :: L) w2 := by
 subst hw
 have u := (Upd.refl [b] w1).setCells (q := b) (.inl (by simp)) v.toList 0
 have hn := h.n (b, .cells c t (0, 0)) (by simp)
 refine ⟨h.b.keep u (by simpa using fun e => hn.1 e.symm) (by simpa using fun e => hba e.symm) (by simpa using fun e => hn.2 e.symm), fun p hp => ?_, h.u.also u (fun x hx => .inr (by rw [List.mem_singleton.1 hx]; exact hb)), fun p hp => ?_⟩
 ·rcases List.mem_cons.1 hp with rfl | hp
  ·rw [Yz _ _ _ _ h.one, hv]
  ·exact u.get (h.o p (by simp [hp])) (by simpa using hL p hp)
 ·rcases List.mem_cons.1 hp with rfl | hp
  ·exact hn
  ·exact h.n p (by simp [hp])
theorem Dq.tail {p : Nat × Obj} (h : Dq w d a pb s i M (p :: L) w1) : Dq w d a pb s i M L w1 := ⟨h.b, fun q hq => h.o q (by simp [hq]), h.u, fun q hq => h.n q (by simp [hq])⟩
end
structure Dg (w : World) (d a pb : Nat) (s : St) (i : Ins) (M : Mem) (L : List (Nat × Obj)) (n0 k m : Nat) (T : TypeId) (Z V : Array Value) (dn : Nat → Bool) (r : Nat → Value) (w1 : World) : Prop where
 q : Dq w d a pb s i M L w1
 b : n0 ≤ w1.heap.size
 lt : (d < n0 ∧ a < n0 ∧ pb < n0 ∧ ∀ p ∈ L, p.1 < n0) ∧ w.heap.size ≤ n0
 x : dn k = true → ∃ g, r k = .pointer (some ⟨g, 0, none⟩) ∧ n0 ≤ g ∧ w1.heap[g]? = some (.cells (if dn m then V else Z) T (0, 0))
 xo : dn m = true → dn k = true
section
variable {w w1 w2 : World} {d a pb n0 k m : Nat} {s s2 : St} {i : Ins} {M M2 : Mem} {L : List (Nat × Obj)} {T : TypeId} {Z V : Array Value} {dn : Nat → Bool} {r : Nat → Value}
theorem Dg.start (h : Dq w d a pb s i M L w1) (k m : Nat) (T : TypeId) (Z V : Array Value) (r : Nat → Value) : Dg w d a pb s i M L w1.heap.size k m T Z V (fun _ => false) r w1.drew :=
 ⟨h.drew, ((Upd.refl [] w1).drew).size, ⟨h.lts, h.u.size⟩, fun h => (by cases h), fun h => (by cases h)⟩
theorem Dg.quiet (h : Dg w d a pb s i M L n0 k m T Z V dn r w1) (u : Upd [] w1 w2) (j : Nat) (h1 : k ≠ j) (h2 : m ≠ j) : Dg w d a pb s i M L n0 k m T Z V (Yad dn j) r w2 := by
 refine ⟨h.q.quiet u, Nat.le_trans h.b u.size, h.lt, fun hx => ?_, fun hx => ?_⟩
 ·rw [Yn h1] at hx
  obtain ⟨g, e1, e2, e3⟩ := h.x hx
  exact ⟨g, e1, e2, by rw [Yn h2]; exact u.get e3 (by simp)⟩
 ·rw [Yn h2] at hx; rw [Yn h1]; exact h.xo hx
theorem Dg.same (h : Dg w d a pb s i M L n0 k m T Z V dn r w1) (j : Nat) (h1 : k ≠ j) (h2 : m ≠ j) : Dg w d a pb s i M L n0 k m T Z V (Yad dn j) r w1 := h.quiet (Upd.refl [] w1) j h1 h2
theorem Dg.lay (h : Dg w d a pb s i M L n0 k m T Z V dn r w1) (hd : dn k = false) (hkm : m ≠ k) : Dg w d a pb s i M L n0 k m T Z V (Yad dn k) (Yck r k (.pointer (some ⟨w1.heap.size, 0, none⟩))) (w1.alloc (.cells Z T)) := by
 have hdm : dn m = false := by
  cases e : dn m with
  |false => rfl
  |true => rw [h.xo e] at hd; cases hd
 have u := (Upd.refl [] w1).alloc (.cells Z T)
 refine ⟨h.q.quiet u, Nat.le_trans h.b u.size, h.lt, fun _ => ⟨_, Yfj, h.b, ?_⟩, fun _ => Ycy⟩
 rw [Yn hkm, hdm]
 exact heap_alloc_new _ _
theorem Dg.put (h : Dg w d a pb s i M L n0 k m T Z V dn r w1) (hd : dn k = true) {g : Nat} (e1 : r k = .pointer (some ⟨g, 0, none⟩)) (hv : ∀ c, (c = V ∨ c = Z) → wr c 0 V.toList = V) (hkm : k ≠ m) : Dg w d a pb s i M L n0 k m T Z V (Yad dn m) r (w1.setCells g 0 V.toList) := by
 obtain ⟨g', e1', e2, e3⟩ := h.x hd
 obtain rfl : g' = g := by rw [e1] at e1'; injection e1' with e; injection e with e; injection e with e; exact e.symm
 have u := (Upd.refl [g'] w1).setCells (q := g') (.inl (by simp)) V.toList 0
 have hl := h.lt.1
 refine ⟨⟨h.q.b.keep u (by simp; omega) (by simp; omega) (by simp; omega), fun p hp => u.get (h.q.o p hp) (by have := hl.2.2.2 p hp; simp; omega), h.q.u.also u (fun x hx => .inr (by rw [List.mem_singleton.1 hx]; exact Nat.le_trans h.lt.2 e2)), h.q.n⟩, Nat.le_trans h.b u.size, h.lt, fun _ => ⟨g', e1, e2, ?_⟩, fun _ => by rw [Yn hkm]; exact hd⟩
 rw [Ycy, if_pos rfl, Yz _ _ _ _ e3, hv _ (by split <;> simp)]
theorem Dg.fin (h : Dg w d a pb s i M L n0 k m T Z V dn r w1) (hk : dn k = true) : ∃ g, r k = .pointer (some ⟨g, 0, none⟩) ∧ Dq w d a pb s i M ((g, .cells (if dn m then V else Z) T (0, 0)) :: L) w1 ∧ (w.heap.size ≤ g ∧ g ≠ a ∧ ∀ p ∈ L, p.1 ≠ g) := by
 obtain ⟨g, e1, e2, e3⟩ := h.x hk
 have hl := h.lt
 exact ⟨g, e1, h.q.add e3 (by omega) (by omega), by omega, by omega, fun p hp => by have := hl.1.2.2.2 p hp; omega⟩
end
end
theorem Ymo (d a pb : Nat) (s : St) (i : Ins) (M : Mem) (w : World) (h : Yp w d a pb s i M) (hop : i.op = 41) (s2 : St) (M2 : Mem) (hj : ∀ w1, Yp w1 d a pb s i M → Calls Tryz.prog 85 #[.pointer (some ⟨d, 0, none⟩)] w1 fun e w' => e = .returned (.tuple #[]) ∧ Yp w' d a pb (s2) i (M2) ∧ Upd [d, pb] w1 w') :
  Calls Tryz.prog 54 #[.pointer (some ⟨d, 0, none⟩)] w fun e w' => e = .returned (.tuple #[]) ∧ Yp w' d a pb (s2) i (M2) ∧ Upd [d, pb] w w' := by
 have HD := Yh_ h
 have HI := Yh_ h.io
 have HJ := Yh_ hj
 clear hj
 clear h
 go_enter Tryz.func54, Tryz.ntmps54
 go_wp2_with fail
 refine Ybn 9 (Dg w d a pb s i M [] _ 7 8 41 Ins.zero.cells i.cells) (fun _ _ => False) (by kernel_rfl) (by decide +kernel) (fun r0 => Dg.start (Dq.of HD.out) 7 8 41 Ins.zero.cells i.cells r0) (fun _ _ _ h => h.elim) ?_
 simp only [List.take_succ_cons, List.take_zero, List.drop_succ_cons, List.drop_zero]
 iterate 3
  apply Ym rfl rfl
  ·intro dn r0 K hd hdep hK w5 hB2
   have hB1 := hB2.q
   skip
   have HB := Yh_ hB2
   clear hB1 hB2 hdep
   go_wp2_with fail
   first
   |exact hK _ (HB.out.same _ (by decide) (by decide))
   |exact HB.out.same _ (by decide) (by decide)
  ·exact ⟨_, rfl⟩
 apply Ym rfl rfl
 ·intro dn r0 K hd hdep hK w5 hB2
  have hB1 := hB2.q
  refine wp_load_mid 41 _ rfl d 18 rfl i.cells.toList _ hB1.b.ri Tryz.underlying41 rfl (by rw [Array.length_toList, Ins.size]; exact Ybx) ?_
  rw [Array.toArray_toList]
  exact hK _ (hB2.same _ (by decide) (by decide))
 ·exact ⟨_, rfl⟩
 iterate 3
  apply Ym rfl rfl
  ·intro dn r0 K hd hdep hK w5 hB2
   have hB1 := hB2.q
   skip
   have HB := Yh_ hB2
   clear hB1 hB2 hdep
   go_wp2_with fail
   first
   |exact hK _ (HB.out.same _ (by decide) (by decide))
   |exact HB.out.same _ (by decide) (by decide)
  ·exact ⟨_, rfl⟩
 refine Ybc rfl (fun _ => rfl) 2 rfl (by simp [Act.put]) ?_ ?_
 ·intro dn r0 K hd w5 hB2 hK
  have HB := Yh_ hB2
  clear hB2
  simp only [Yu]
  go_wp2_with fail
  first
  |exact hK (.pointer (some ⟨w5.heap.size, 0, none⟩)) _ (HB.out.lay hd (by decide))
  |exact HB.out.lay hd (by decide)
 apply Ycw rfl (fun _ => rfl)
 ·intro dn r0 K hd hdep hK w5 hB2
  have h8 : dn 7 = true := hdep ⟨7, .data⟩ (by simp) rfl
  obtain ⟨g0, e1, e2, e3⟩ := hB2.x h8
  refine Yd3 i g0 _ _ rfl (by show r0 7 = _; exact e1) rfl e3 (by split <;> exact Ins.size _) ?_
  intro w6 hw
  rw [← hw]
  exact hK _ (hB2.put h8 e1 (by rintro c (rfl | rfl) <;> exact Ygn _ i rfl) (by decide))
 ·exact ⟨_, fun _ => rfl, rfl⟩
 refine Ybf (fun _ r0 w6 dn hall hB2 => ?_)
 obtain ⟨g, e1, hB1, hgl⟩ := hB2.fin (hall 7 (by decide))
 rw [hall 8 (by decide), if_pos rfl] at hB1
 show wpList _ _ _ _ (Act.put (Yu _ _ [] _) (some 2) (r0 7)) _
 rw [e1]
 simp only [Yu]
 clear e1 hall hB2
 have ci := hB1.ins; unfold Ins.cells at ci
 have H3 := Yh_ hB1
 clear hB1 hgl
 go_wp2_with (have _t := H3; clear _t; go_at_call 85; refine (HJ.out _ H3.out.b).mono ?_; rintro e w5 ⟨rfl, hd, hu⟩; have H5 := Yh_ (And.intro hd (H3.out.u.also hu (fun x hx => .inl hx))); clear hd hu H3 ci)
 go_end0
 exact ⟨rfl, H5.out.1, H5.out.2⟩
theorem Ykk (d a pb : Nat) (s : St) (i : Ins) (M : Mem) (w : World) (h : Yp w d a pb s i M) (hop : i.op = 41) (M2 : Mem) (F : Flt) (hj : ∀ w1, Yp w1 d a pb s i M → Calls Tryz.prog 85 #[.pointer (some ⟨d, 0, none⟩)] w1 fun e w' => e = .panicked [{ v := .iface 35 (F).val, recovered := false }] ∧ Yl w' a pb (M2) ∧ Upd [d, pb] w1 w') :
  Calls Tryz.prog 54 #[.pointer (some ⟨d, 0, none⟩)] w fun e w' => e = .panicked [{ v := .iface 35 (F).val, recovered := false }] ∧ Yl w' a pb (M2) ∧ Upd [d, pb] w w' := by
 have HD := Yh_ h
 have HI := Yh_ h.io
 have HJ := Yh_ hj
 clear hj
 clear h
 go_enter Tryz.func54, Tryz.ntmps54
 go_wp2_with fail
 refine Ybn 9 (Dg w d a pb s i M [] _ 7 8 41 Ins.zero.cells i.cells) (fun _ _ => False) (by kernel_rfl) (by decide +kernel) (fun r0 => Dg.start (Dq.of HD.out) 7 8 41 Ins.zero.cells i.cells r0) (fun _ _ _ h => h.elim) ?_
 simp only [List.take_succ_cons, List.take_zero, List.drop_succ_cons, List.drop_zero]
 iterate 3
  apply Ym rfl rfl
  ·intro dn r0 K hd hdep hK w5 hB2
   have hB1 := hB2.q
   skip
   have HB := Yh_ hB2
   clear hB1 hB2 hdep
   go_wp2_with fail
   first
   |exact hK _ (HB.out.same _ (by decide) (by decide))
   |exact HB.out.same _ (by decide) (by decide)
  ·exact ⟨_, rfl⟩
 apply Ym rfl rfl
 ·intro dn r0 K hd hdep hK w5 hB2
  have hB1 := hB2.q
  refine wp_load_mid 41 _ rfl d 18 rfl i.cells.toList _ hB1.b.ri Tryz.underlying41 rfl (by rw [Array.length_toList, Ins.size]; exact Ybx) ?_
  rw [Array.toArray_toList]
  exact hK _ (hB2.same _ (by decide) (by decide))
 ·exact ⟨_, rfl⟩
 iterate 3
  apply Ym rfl rfl
  ·intro dn r0 K hd hdep hK w5 hB2
   have hB1 := hB2.q
   skip
   have HB := Yh_ hB2
   clear hB1 hB2 hdep
   go_wp2_with fail
   first
   |exact hK _ (HB.out.same _ (by decide) (by decide))
   |exact HB.out.same _ (by decide) (by decide)
  ·exact ⟨_, rfl⟩
 refine Ybc rfl (fun _ => rfl) 2 rfl (by simp [Act.put]) ?_ ?_
 ·intro dn r0 K hd w5 hB2 hK
  have HB := Yh_ hB2
  clear hB2
  simp only [Yu]
  go_wp2_with fail
  first
  |exact hK (.pointer (some ⟨w5.heap.size, 0, none⟩)) _ (HB.out.lay hd (by decide))
  |exact HB.out.lay hd (by decide)
 apply Ycw rfl (fun _ => rfl)
 ·intro dn r0 K hd hdep hK w5 hB2
  have h8 : dn 7 = true := hdep ⟨7, .data⟩ (by simp) rfl
  obtain ⟨g0, e1, e2, e3⟩ := hB2.x h8
  refine Yd3 i g0 _ _ rfl (by show r0 7 = _; exact e1) rfl e3 (by split <;> exact Ins.size _) ?_
  intro w6 hw
  rw [← hw]
  exact hK _ (hB2.put h8 e1 (by rintro c (rfl | rfl) <;> exact Ygn _ i rfl) (by decide))
 ·exact ⟨_, fun _ => rfl, rfl⟩
 refine Ybf (fun _ r0 w6 dn hall hB2 => ?_)
 obtain ⟨g, e1, hB1, hgl⟩ := hB2.fin (hall 7 (by decide))
 rw [hall 8 (by decide), if_pos rfl] at hB1
 show wpList _ _ _ _ (Act.put (Yu _ _ [] _) (some 2) (r0 7)) _
 rw [e1]
 simp only [Yu]
 clear e1 hall hB2
 have ci := hB1.ins; unfold Ins.cells at ci
 have H3 := Yh_ hB1
 clear hB1 hgl
 go_wp2_with (have _t := H3; clear _t; go_at_call 85; refine (HJ.out _ H3.out.b).mono ?_; rintro e w5 ⟨rfl, hd, hu⟩; have H5 := Yh_ (And.intro hd (H3.out.u.also hu (fun x hx => .inl hx))); clear hd hu H3 ci)
 exact ⟨rfl, rfl, H5.out.1, H5.out.2⟩
end Go.Proofs.YthakgjpejhjaoaaGreat
