/-
  Parts of the proof (their names shortened by a program). No condition.
-/
import Derived.Test.YthakgjpejhjaoaaGreatMg01
import Derived.Test.YthakgjpejhjaoaaGreatMg17
import Derived.Test.YthakgjpejhjaoaaGreatMg08
namespace Go.Proofs.YthakgjpejhjaoaaGreat
open Go Go.RowKit
set_option linter.unusedVariables false
set_option linter.unusedSimpArgs false
set_option maxRecDepth 100000
set_option maxHeartbeats 16000000
theorem Yiq (v : Int) (h0 : 0 ≤ v) (h1 : v < 4294967296) : bits .and .u32 v 15 = v % 16 := by
 obtain ⟨v, rfl⟩ := Int.eq_ofNat_of_zero_le h0
 have := u32_and_nat v 15 (by omega) (by decide)
 rw [show (15 : Nat) = 2 ^ 4 - 1 from rfl, Nat.and_two_pow_sub_one_eq_mod] at this
 exact this
theorem Yb9 {w : World} {b : Nat} {t : TypeId} {a0 a1 a2 a3 a4 a5 : Value} (h : w.heap[b]? = some (.cells #[a0, a1, a2, a3, a4, a5] t (0, 0))) (u0 u1 u2 u3 u4 u5 : Value) :
  ((((((w.setCell ⟨b, 0, none⟩ u0).setCell ⟨b, 1, none⟩ u1).setCell ⟨b, 2, none⟩ u2).setCell ⟨b, 3, none⟩ u3).setCell ⟨b, 4, none⟩ u4).setCell ⟨b, 5, none⟩ u5).heap[b]? = some (.cells #[u0, u1, u2, u3, u4, u5] t (0, 0)) :=
 Yg (Yg (Yg (Yg (Yg (Yg h 0 u0) 1 u1) 2 u2) 3 u3) 4 u4) 5 u5
theorem Yax {S : List Nat} {w0 w : World} {b : Nat} (h : Upd S w0 w) (hb : b ∈ S ∨ w0.heap.size ≤ b) (u0 u1 u2 u3 u4 u5 : Value) :
  Upd S w0 ((((((w.setCell ⟨b, 0, none⟩ u0).setCell ⟨b, 1, none⟩ u1).setCell ⟨b, 2, none⟩ u2).setCell ⟨b, 3, none⟩ u3).setCell ⟨b, 4, none⟩ u4).setCell ⟨b, 5, none⟩ u5) :=
 (((((h.setCell (p := ⟨b, 0, none⟩) hb _).setCell (p := ⟨b, 1, none⟩) hb _).setCell (p := ⟨b, 2, none⟩) hb _).setCell (p := ⟨b, 3, none⟩) hb _).setCell (p := ⟨b, 4, none⟩) hb _).setCell (p := ⟨b, 5, none⟩) hb _
theorem Yix (a b : Int) (c : Bool) : 0 ≤ Yee a b c ∧ Yee a b c < 4294967296 := by unfold Yee; omega
theorem Yip (a b : Int) (c : Bool) : 0 ≤ Yeg a b c ∧ Yeg a b c < 4294967296 := by unfold Yeg; omega
theorem Yh0 (a b : Int) (c : Bool) (w : World) (ha : 0 ≤ a ∧ a < 4294967296) (hb : 0 ≤ b ∧ b < 4294967296) : Calls Tryz.prog 61 #[.int .u32 a, .int .u32 b, .bool c] w fun e w' => e = .returned (.tuple #[.int .u32 (Yee a b c), .agg (addF a b c).cells]) ∧ Upd [] w w' := by
 have q1 := Yiq a ha.1 ha.2
 have q2 := Yiq b hb.1 hb.2
 have HA := Yh_ (And.intro ha hb)
 obtain ⟨⟨x0, x1, x2, x3, x4, x5⟩, hF⟩ : ∃ F, addF a b c = F := ⟨_, rfl⟩
 have HF := Yh_ hF
 have tok1 : True := trivial
 have tok2 : True := trivial
 have tok3 : True := trivial
 clear ha hb
 rw [hF]
 clear hF
 unfold Fl.cells
 go_enter Tryz.func61, Tryz.ntmps61
 go_wp2_with (first | (have _t := tok1; clear _t; go_at_call 98; refine (Ylh a b c _ HA.out.1 HA.out.2).mono ?_; rintro e w' ⟨rfl, rfl⟩; clear tok1) | (have _t := tok2; clear _t; go_at_call 98; refine (Ylh (a % 16) (b % 16) c _ (by omega) (by omega)).mono ?_; rintro e w' ⟨rfl, rfl⟩; clear tok2) | (have _t := tok3; clear _t; go_at_call 63; refine (Ygd ⟨addC a b c, false, decide (15 < Yee (a % 16) (b % 16) c), false, false, addO a b c⟩ (Yee a b c) _ (Yix a b c)).mono ?_; rintro e w1 ⟨rfl, hu⟩; rw [show Fl.by ⟨addC a b c, false, decide (15 < Yee (a % 16) (b % 16) c), false, false, addO a b c⟩ (Yee a b c) = addF a b c from rfl, HF.out]; unfold Fl.cells; have hg := hu.get (heap_alloc_new w _) (by simp); have ch := Ya hg; have fh := Yj hg; have U1 := Yh_ (And.intro hg (((Upd.refl [] w).alloc _).also hu (by simp))); clear hg hu tok3))
 exact bodyPost_ret (Yan rfl (Yq 6 rfl) (Ycd 7 w.heap.size ⟨x0, x1, x2, x3, x4, x5⟩ rfl (Yb9 U1.out.1 _ _ _ _ _ _))) rfl ⟨rfl, Yax U1.out.2 (.inr (Nat.le_refl _)) _ _ _ _ _ _⟩
theorem Ye0 (a b : Int) (c : Bool) (w : World) (ha : 0 ≤ a ∧ a < 4294967296) (hb : 0 ≤ b ∧ b < 4294967296) : Calls Tryz.prog 62 #[.int .u32 a, .int .u32 b, .bool c] w fun e w' => e = .returned (.tuple #[.int .u32 (Yeg a b c), .agg (Ye4 a b c).cells]) ∧ Upd [] w w' := by
 have q1 := Yiq a ha.1 ha.2
 have q2 := Yiq b hb.1 hb.2
 have HA := Yh_ (And.intro ha hb)
 obtain ⟨⟨x0, x1, x2, x3, x4, x5⟩, hF⟩ : ∃ F, Ye4 a b c = F := ⟨_, rfl⟩
 have HF := Yh_ hF
 have tok1 : True := trivial
 have tok2 : True := trivial
 have tok3 : True := trivial
 clear ha hb
 rw [hF]
 clear hF
 unfold Fl.cells
 go_enter Tryz.func62, Tryz.ntmps62
 go_wp2_with (first | (have _t := tok1; clear _t; go_at_call 99; refine (Yku a b c _ HA.out.1 HA.out.2).mono ?_; rintro e w' ⟨rfl, rfl⟩; clear tok1) | (have _t := tok2; clear _t; go_at_call 99; refine (Yku (a % 16) (b % 16) c _ (by omega) (by omega)).mono ?_; rintro e w' ⟨rfl, rfl⟩; clear tok2) | (have _t := tok3; clear _t; go_at_call 63; refine (Ygd ⟨subC a b c, false, subC (a % 16) (b % 16) c, false, false, subO a b c⟩ (Yeg a b c) _ (Yip a b c)).mono ?_; rintro e w1 ⟨rfl, hu⟩; rw [show Fl.by ⟨subC a b c, false, subC (a % 16) (b % 16) c, false, false, subO a b c⟩ (Yeg a b c) = Ye4 a b c from rfl, HF.out]; unfold Fl.cells; have hg := hu.get (heap_alloc_new w _) (by simp); have ch := Ya hg; have fh := Yj hg; have U1 := Yh_ (And.intro hg (((Upd.refl [] w).alloc _).also hu (by simp))); clear hg hu tok3))
 exact bodyPost_ret (Yan rfl (Yq 6 rfl) (Ycd 7 w.heap.size ⟨x0, x1, x2, x3, x4, x5⟩ rfl (Yb9 U1.out.1 _ _ _ _ _ _))) rfl ⟨rfl, Yax U1.out.2 (.inr (Nat.le_refl _)) _ _ _ _ _ _⟩
theorem Yi9 (a b : Int) (ha : 0 ≤ a ∧ a < 4294967296) (hb : 0 ≤ b ∧ b < 4294967296) : 0 ≤ bits .and .u32 a b ∧ bits .and .u32 a b < 4294967296 := by
 obtain ⟨a, rfl⟩ := Int.eq_ofNat_of_zero_le ha.1
 obtain ⟨b, rfl⟩ := Int.eq_ofNat_of_zero_le hb.1
 rw [u32_and_nat a b (by omega) (by omega)]
 have : a &&& b ≤ a := Nat.and_le_left
 omega
theorem or_u32 (a b : Int) (ha : 0 ≤ a ∧ a < 4294967296) (hb : 0 ≤ b ∧ b < 4294967296) : 0 ≤ bits .or .u32 a b ∧ bits .or .u32 a b < 4294967296 := by
 obtain ⟨a, rfl⟩ := Int.eq_ofNat_of_zero_le ha.1
 obtain ⟨b, rfl⟩ := Int.eq_ofNat_of_zero_le hb.1
 rw [u32_or_nat a b (by omega) (by omega)]
 have : a ||| b < 2 ^ 32 := Nat.or_lt_two_pow (by omega) (by omega)
 omega
theorem Yjc (a b : Int) (ha : 0 ≤ a ∧ a < 4294967296) (hb : 0 ≤ b ∧ b < 4294967296) : 0 ≤ bits .xor .u32 a b ∧ bits .xor .u32 a b < 4294967296 := by
 obtain ⟨a, rfl⟩ := Int.eq_ofNat_of_zero_le ha.1
 obtain ⟨b, rfl⟩ := Int.eq_ofNat_of_zero_le hb.1
 rw [u32_xor_nat a b (by omega) (by omega)]
 have : a ^^^ b < 2 ^ 32 := Nat.xor_lt_two_pow (by omega) (by omega)
 omega
structure AlS (w : World) (f : Fl) (w1 : World) : Prop where
 z7 : w1.heap[w.heap.size]? = some (.cells f.cells 25 (0, 0))
 z9 : w1.heap[w.heap.size + 1]? = some (.cells Fl.zero.cells 25 (0, 0))
 z10 : w1.heap[w.heap.size + 1 + 1]? = some (.cells f.cells 25 (0, 0))
 u : Upd [] w w1
theorem AlS.of {w w1 : World} {f : Fl} (hu : Upd [] (((w.alloc (.cells f.cells 25)).alloc (.cells Fl.zero.cells 25)).alloc (.cells f.cells 25)) w1) : AlS w f w1 := by
 have h2 := heap_alloc_new ((w.alloc (.cells f.cells 25)).alloc (.cells Fl.zero.cells 25)) (.cells f.cells 25)
 rw [show ((w.alloc (.cells f.cells 25)).alloc (.cells Fl.zero.cells 25)).heap.size = w.heap.size + 1 + 1 from by simp] at h2
 exact ⟨hu.get (Yl _ (heap_alloc2_old _ _ _)) (by simp), hu.get (Yl _ (heap_alloc2_new _ _ _)) (by simp), hu.get h2 (by simp), ((((Upd.refl [] w).alloc _).alloc _).alloc _).also hu (by simp)⟩
structure AlE (w : World) (f : Fl) (w1 : World) : Prop where
 r7 : w1.heap[w.heap.size]? = some (.cells f.cells 25 (0, 0))
 r9 : w1.heap[w.heap.size + 1]? = some (.cells Fl.zero.cells 25 (0, 0))
 u : Upd [] w w1
theorem AlE.drew {w w1 : World} {f : Fl} (h : AlE w f w1) : AlE w f w1.drew := by
 have u := (Upd.refl [] w1).drew
 exact ⟨u.get h.r7 (by simp), u.get h.r9 (by simp), h.u.drew⟩
theorem AlS.st {w w1 : World} {f : Fl} (h : AlS w f w1) (x0 x1 x2 x3 x4 x5 : Bool) : AlE w ⟨x0, x1, x2, x3, x4, x5⟩ ((((((w1.setCell ⟨w.heap.size, 0, none⟩ (.bool x0)).setCell ⟨w.heap.size, 1, none⟩ (.bool x1)).setCell ⟨w.heap.size, 2, none⟩ (.bool x2)).setCell ⟨w.heap.size, 3, none⟩ (.bool x3)).setCell ⟨w.heap.size, 4, none⟩ (.bool x4)).setCell ⟨w.heap.size, 5, none⟩ (.bool x5)) :=
 ⟨Yb9 h.z7 _ _ _ _ _ _, (Yax (S := [w.heap.size]) (Upd.refl _ w1) (.inl (by simp)) _ _ _ _ _ _).get h.z9 (by simp), Yax h.u (.inr (Nat.le_refl _)) _ _ _ _ _ _⟩
theorem AlE.cf {w w1 : World} {f : Fl} (h : AlE w f w1) (x : Bool) : AlE w { f with cf := x } (w1.setCell ⟨w.heap.size, 0, none⟩ (.bool x)) :=
 ⟨Yg h.r7 0 (.bool x), ((Upd.refl [w.heap.size] w1).setCell (p := ⟨w.heap.size, 0, none⟩) (.inl (by simp)) (.bool x)).get h.r9 (by simp), h.u.setCell (p := ⟨w.heap.size, 0, none⟩) (.inr (Nat.le_refl _)) _⟩
theorem AlE.start {w : World} {f : Fl} : AlE w f (((w.alloc (.cells f.cells 25)).alloc (.cells Fl.zero.cells 25)).alloc (.cells f.cells 25)) :=
 ⟨(AlS.of (Upd.refl [] _)).z7, (AlS.of (Upd.refl [] _)).z9, (AlS.of (Upd.refl [] _)).u⟩
theorem aluDo_3 (a b : Int) (f : Fl) (w : World) (ha : 0 ≤ a ∧ a < 4294967296) (hb : 0 ≤ b ∧ b < 4294967296) :
  Calls Tryz.prog 47 #[.int .i64 3, .int .u32 a, .int .u32 b, .agg f.cells] w fun e w' => e = .returned (.tuple #[.int .u32 (Ybu 3 a b f), .agg (Ybf 3 a b f).cells]) ∧ Upd [] w w' := by
 obtain ⟨c, d, e', z, n, o⟩ := f
 have HA := Yh_ (And.intro ha hb)
 obtain ⟨⟨x0, x1, x2, x3, x4, x5⟩, hF⟩ : ∃ F, addF a b false = F := ⟨_, rfl⟩
 have HF := Yh_ hF
 have HV := Yh_ (show Ybf 3 a b ⟨c, d, e', z, n, o⟩ = ⟨x0, x1, x2, x3, x4, x5⟩ by simp [Ybf, hF])
 clear hF
 have tok : True := trivial
 clear ha hb
 rw [HV.out]
 simp only [Ybu]
 unfold Fl.cells
 go_enter Tryz.func47, Tryz.ntmps47
 go_wp2_with (have _t := tok; clear _t; go_at_call 61; refine (Yh0 a b false _ HA.out.1 HA.out.2).mono ?_; rintro e w1 ⟨rfl, hu⟩; rw [HF.out]; unfold Fl.cells; have h1 := AlS.of (f := ⟨c, d, e', z, n, o⟩) hu; have ch := Ya h1.z7; have fh := Yj h1.z7; have c10 := Ya h1.z10; unfold Fl.cells at ch c10; have H1 := Yh_ h1; clear hu h1 tok)
 refine Yap 3 (AlE w ⟨x0, x1, x2, x3, x4, x5⟩) (fun _ _ => False) (by kernel_rfl) (by decide +kernel) ((H1.out.st x0 x1 x2 x3 x4 x5)).drew (fun _ _ _ h => h.elim) ?_
 simp only [List.take_succ_cons, List.take_zero, List.drop_succ_cons, List.drop_zero]
 iterate 3
  apply Yv rfl rfl
  ·intro K hK w5 hB1
   have c7 := Ya hB1.r7
   unfold Fl.cells at c7
   have HB := Yh_ hB1
   clear hB1
   go_wp2_with fail
   first
   |exact hK _ HB.out
   |exact HB.out
  ·exact ⟨_, rfl⟩
 refine Yag (fun _ w5 hB1 => ?_)
 have c9 := Ya hB1.r9
 have f9 := Yj hB1.r9
 unfold Fl.cells Fl.zero at c9
 have HB := Yh_ hB1
 clear hB1
 go_wp2_with fail
 exact bodyPost_ret (Yan rfl (Yq 8 rfl) (Ycd 9 (w.heap.size + 1) ⟨x0, x1, x2, x3, x4, x5⟩ rfl (Yb9 HB.out.r9 _ _ _ _ _ _))) rfl ⟨rfl, Yax HB.out.u (.inr (by omega)) _ _ _ _ _ _⟩
theorem aluDo_5 (a b : Int) (f : Fl) (w : World) (ha : 0 ≤ a ∧ a < 4294967296) (hb : 0 ≤ b ∧ b < 4294967296) :
  Calls Tryz.prog 47 #[.int .i64 5, .int .u32 a, .int .u32 b, .agg f.cells] w fun e w' => e = .returned (.tuple #[.int .u32 (Ybu 5 a b f), .agg (Ybf 5 a b f).cells]) ∧ Upd [] w w' := by
 obtain ⟨c, d, e', z, n, o⟩ := f
 have HA := Yh_ (And.intro ha hb)
 obtain ⟨⟨x0, x1, x2, x3, x4, x5⟩, hF⟩ : ∃ F, addF a b c = F := ⟨_, rfl⟩
 have HF := Yh_ hF
 have HV := Yh_ (show Ybf 5 a b ⟨c, d, e', z, n, o⟩ = ⟨x0, x1, x2, x3, x4, x5⟩ by simp [Ybf, hF])
 clear hF
 have tok : True := trivial
 clear ha hb
 rw [HV.out]
 simp only [Ybu]
 unfold Fl.cells
 go_enter Tryz.func47, Tryz.ntmps47
 go_wp2_with (have _t := tok; clear _t; go_at_call 61; refine (Yh0 a b c _ HA.out.1 HA.out.2).mono ?_; rintro e w1 ⟨rfl, hu⟩; rw [HF.out]; unfold Fl.cells; have h1 := AlS.of (f := ⟨c, d, e', z, n, o⟩) hu; have ch := Ya h1.z7; have fh := Yj h1.z7; have c10 := Ya h1.z10; unfold Fl.cells at ch c10; have H1 := Yh_ h1; clear hu h1 tok)
 refine Yap 3 (AlE w ⟨x0, x1, x2, x3, x4, x5⟩) (fun _ _ => False) (by kernel_rfl) (by decide +kernel) ((H1.out.st x0 x1 x2 x3 x4 x5)).drew (fun _ _ _ h => h.elim) ?_
 simp only [List.take_succ_cons, List.take_zero, List.drop_succ_cons, List.drop_zero]
 iterate 3
  apply Yv rfl rfl
  ·intro K hK w5 hB1
   have c7 := Ya hB1.r7
   unfold Fl.cells at c7
   have HB := Yh_ hB1
   clear hB1
   go_wp2_with fail
   first
   |exact hK _ HB.out
   |exact HB.out
  ·exact ⟨_, rfl⟩
 refine Yag (fun _ w5 hB1 => ?_)
 have c9 := Ya hB1.r9
 have f9 := Yj hB1.r9
 unfold Fl.cells Fl.zero at c9
 have HB := Yh_ hB1
 clear hB1
 go_wp2_with fail
 exact bodyPost_ret (Yan rfl (Yq 8 rfl) (Ycd 9 (w.heap.size + 1) ⟨x0, x1, x2, x3, x4, x5⟩ rfl (Yb9 HB.out.r9 _ _ _ _ _ _))) rfl ⟨rfl, Yax HB.out.u (.inr (by omega)) _ _ _ _ _ _⟩
theorem aluDo_8 (a b : Int) (f : Fl) (w : World) (ha : 0 ≤ a ∧ a < 4294967296) (hb : 0 ≤ b ∧ b < 4294967296) :
  Calls Tryz.prog 47 #[.int .i64 8, .int .u32 a, .int .u32 b, .agg f.cells] w fun e w' => e = .returned (.tuple #[.int .u32 (Ybu 8 a b f), .agg (Ybf 8 a b f).cells]) ∧ Upd [] w w' := by
 obtain ⟨c, d, e', z, n, o⟩ := f
 have HA := Yh_ (And.intro ha hb)
 obtain ⟨⟨x0, x1, x2, x3, x4, x5⟩, hF⟩ : ∃ F, Ye4 a b false = F := ⟨_, rfl⟩
 have HF := Yh_ hF
 have HV := Yh_ (show Ybf 8 a b ⟨c, d, e', z, n, o⟩ = ⟨x0, x1, x2, x3, x4, x5⟩ by simp [Ybf, hF])
 clear hF
 have tok : True := trivial
 clear ha hb
 rw [HV.out]
 simp only [Ybu]
 unfold Fl.cells
 go_enter Tryz.func47, Tryz.ntmps47
 go_wp2_with (have _t := tok; clear _t; go_at_call 62; refine (Ye0 a b false _ HA.out.1 HA.out.2).mono ?_; rintro e w1 ⟨rfl, hu⟩; rw [HF.out]; unfold Fl.cells; have h1 := AlS.of (f := ⟨c, d, e', z, n, o⟩) hu; have ch := Ya h1.z7; have fh := Yj h1.z7; have c10 := Ya h1.z10; unfold Fl.cells at ch c10; have H1 := Yh_ h1; clear hu h1 tok)
 refine Yap 3 (AlE w ⟨x0, x1, x2, x3, x4, x5⟩) (fun _ _ => False) (by kernel_rfl) (by decide +kernel) ((H1.out.st x0 x1 x2 x3 x4 x5)).drew (fun _ _ _ h => h.elim) ?_
 simp only [List.take_succ_cons, List.take_zero, List.drop_succ_cons, List.drop_zero]
 iterate 3
  apply Yv rfl rfl
  ·intro K hK w5 hB1
   have c7 := Ya hB1.r7
   unfold Fl.cells at c7
   have HB := Yh_ hB1
   clear hB1
   go_wp2_with fail
   first
   |exact hK _ HB.out
   |exact HB.out
  ·exact ⟨_, rfl⟩
 refine Yag (fun _ w5 hB1 => ?_)
 have c9 := Ya hB1.r9
 have f9 := Yj hB1.r9
 unfold Fl.cells Fl.zero at c9
 have HB := Yh_ hB1
 clear hB1
 go_wp2_with fail
 exact bodyPost_ret (Yan rfl (Yq 8 rfl) (Ycd 9 (w.heap.size + 1) ⟨x0, x1, x2, x3, x4, x5⟩ rfl (Yb9 HB.out.r9 _ _ _ _ _ _))) rfl ⟨rfl, Yax HB.out.u (.inr (by omega)) _ _ _ _ _ _⟩
theorem aluDo_6 (a b : Int) (f : Fl) (w : World) (ha : 0 ≤ a ∧ a < 4294967296) (hb : 0 ≤ b ∧ b < 4294967296) :
  Calls Tryz.prog 47 #[.int .i64 6, .int .u32 a, .int .u32 b, .agg f.cells] w fun e w' => e = .returned (.tuple #[.int .u32 (Ybu 6 a b f), .agg (Ybf 6 a b f).cells]) ∧ Upd [] w w' := by
 obtain ⟨c, d, e', z, n, o⟩ := f
 have HA := Yh_ (And.intro ha hb)
 obtain ⟨⟨x0, x1, x2, x3, x4, x5⟩, hF⟩ : ∃ F, Ye4 a b c = F := ⟨_, rfl⟩
 have HF := Yh_ hF
 have HV := Yh_ (show Ybf 6 a b ⟨c, d, e', z, n, o⟩ = ⟨x0, x1, x2, x3, x4, x5⟩ by simp [Ybf, hF])
 clear hF
 have tok : True := trivial
 clear ha hb
 rw [HV.out]
 simp only [Ybu]
 unfold Fl.cells
 go_enter Tryz.func47, Tryz.ntmps47
 go_wp2_with (have _t := tok; clear _t; go_at_call 62; refine (Ye0 a b c _ HA.out.1 HA.out.2).mono ?_; rintro e w1 ⟨rfl, hu⟩; rw [HF.out]; unfold Fl.cells; have h1 := AlS.of (f := ⟨c, d, e', z, n, o⟩) hu; have ch := Ya h1.z7; have fh := Yj h1.z7; have c10 := Ya h1.z10; unfold Fl.cells at ch c10; have H1 := Yh_ h1; clear hu h1 tok)
 refine Yap 3 (AlE w ⟨x0, x1, x2, x3, x4, x5⟩) (fun _ _ => False) (by kernel_rfl) (by decide +kernel) ((H1.out.st x0 x1 x2 x3 x4 x5)).drew (fun _ _ _ h => h.elim) ?_
 simp only [List.take_succ_cons, List.take_zero, List.drop_succ_cons, List.drop_zero]
 iterate 3
  apply Yv rfl rfl
  ·intro K hK w5 hB1
   have c7 := Ya hB1.r7
   unfold Fl.cells at c7
   have HB := Yh_ hB1
   clear hB1
   go_wp2_with fail
   first
   |exact hK _ HB.out
   |exact HB.out
  ·exact ⟨_, rfl⟩
 refine Yag (fun _ w5 hB1 => ?_)
 have c9 := Ya hB1.r9
 have f9 := Yj hB1.r9
 unfold Fl.cells Fl.zero at c9
 have HB := Yh_ hB1
 clear hB1
 go_wp2_with fail
 exact bodyPost_ret (Yan rfl (Yq 8 rfl) (Ycd 9 (w.heap.size + 1) ⟨x0, x1, x2, x3, x4, x5⟩ rfl (Yb9 HB.out.r9 _ _ _ _ _ _))) rfl ⟨rfl, Yax HB.out.u (.inr (by omega)) _ _ _ _ _ _⟩
theorem aluDo_10 (a b : Int) (f : Fl) (w : World) (ha : 0 ≤ a ∧ a < 4294967296) (hb : 0 ≤ b ∧ b < 4294967296) :
  Calls Tryz.prog 47 #[.int .i64 10, .int .u32 a, .int .u32 b, .agg f.cells] w fun e w' => e = .returned (.tuple #[.int .u32 (Ybu 10 a b f), .agg (Ybf 10 a b f).cells]) ∧ Upd [] w w' := by
 obtain ⟨c, d, e', z, n, o⟩ := f
 have HA := Yh_ (And.intro ha hb)
 obtain ⟨⟨x0, x1, x2, x3, x4, x5⟩, hF⟩ : ∃ F, Ye4 a b false = F := ⟨_, rfl⟩
 have HF := Yh_ hF
 have HV := Yh_ (show Ybf 10 a b ⟨c, d, e', z, n, o⟩ = ⟨x0, x1, x2, x3, x4, x5⟩ by simp [Ybf, hF])
 clear hF
 have tok : True := trivial
 clear ha hb
 rw [HV.out]
 simp only [Ybu]
 unfold Fl.cells
 go_enter Tryz.func47, Tryz.ntmps47
 go_wp2_with (have _t := tok; clear _t; go_at_call 62; refine (Ye0 a b false _ HA.out.1 HA.out.2).mono ?_; rintro e w1 ⟨rfl, hu⟩; rw [HF.out]; unfold Fl.cells; have h1 := AlS.of (f := ⟨c, d, e', z, n, o⟩) hu; have ch := Ya h1.z7; have fh := Yj h1.z7; have c10 := Ya h1.z10; unfold Fl.cells at ch c10; have H1 := Yh_ h1; clear hu h1 tok)
 refine Yap 3 (AlE w ⟨x0, x1, x2, x3, x4, x5⟩) (fun _ _ => False) (by kernel_rfl) (by decide +kernel) ((H1.out.st x0 x1 x2 x3 x4 x5)).drew (fun _ _ _ h => h.elim) ?_
 simp only [List.take_succ_cons, List.take_zero, List.drop_succ_cons, List.drop_zero]
 iterate 3
  apply Yv rfl rfl
  ·intro K hK w5 hB1
   have c7 := Ya hB1.r7
   unfold Fl.cells at c7
   have HB := Yh_ hB1
   clear hB1
   go_wp2_with fail
   first
   |exact hK _ HB.out
   |exact HB.out
  ·exact ⟨_, rfl⟩
 refine Yag (fun _ w5 hB1 => ?_)
 have c9 := Ya hB1.r9
 have f9 := Yj hB1.r9
 unfold Fl.cells Fl.zero at c9
 have HB := Yh_ hB1
 clear hB1
 go_wp2_with fail
 exact bodyPost_ret (Yan rfl (Yq 8 rfl) (Ycd 9 (w.heap.size + 1) ⟨x0, x1, x2, x3, x4, x5⟩ rfl (Yb9 HB.out.r9 _ _ _ _ _ _))) rfl ⟨rfl, Yax HB.out.u (.inr (by omega)) _ _ _ _ _ _⟩
theorem aluDo_12 (a b : Int) (f : Fl) (w : World) (ha : 0 ≤ a ∧ a < 4294967296) (hb : 0 ≤ b ∧ b < 4294967296) :
  Calls Tryz.prog 47 #[.int .i64 12, .int .u32 a, .int .u32 b, .agg f.cells] w fun e w' => e = .returned (.tuple #[.int .u32 (Ybu 12 a b f), .agg (Ybf 12 a b f).cells]) ∧ Upd [] w w' := by
 obtain ⟨c, d, e', z, n, o⟩ := f
 have HA := Yh_ (And.intro ha hb)
 obtain ⟨⟨x0, x1, x2, x3, x4, x5⟩, hF⟩ : ∃ F, addF a 1 false = F := ⟨_, rfl⟩
 have HF := Yh_ hF
 have HV := Yh_ (show Ybf 12 a b ⟨c, d, e', z, n, o⟩ = ⟨c, x1, x2, x3, x4, x5⟩ by simp [Ybf, hF])
 clear hF
 have tok : True := trivial
 clear ha hb
 rw [HV.out]
 simp only [Ybu]
 unfold Fl.cells
 go_enter Tryz.func47, Tryz.ntmps47
 go_wp2_with (have _t := tok; clear _t; go_at_call 61; refine (Yh0 a 1 false _ HA.out.1 (by decide)).mono ?_; rintro e w1 ⟨rfl, hu⟩; rw [HF.out]; unfold Fl.cells; have h1 := AlS.of (f := ⟨c, d, e', z, n, o⟩) hu; have ch := Ya h1.z7; have fh := Yj h1.z7; have c10 := Ya h1.z10; unfold Fl.cells at ch c10; have H1 := Yh_ h1; clear hu h1 tok)
 refine Yap 3 (AlE w ⟨c, x1, x2, x3, x4, x5⟩) (fun _ _ => False) (by kernel_rfl) (by decide +kernel) (((H1.out.st x0 x1 x2 x3 x4 x5).cf c)).drew (fun _ _ _ h => h.elim) ?_
 simp only [List.take_succ_cons, List.take_zero, List.drop_succ_cons, List.drop_zero]
 iterate 3
  apply Yv rfl rfl
  ·intro K hK w5 hB1
   have c7 := Ya hB1.r7
   unfold Fl.cells at c7
   have HB := Yh_ hB1
   clear hB1
   go_wp2_with fail
   first
   |exact hK _ HB.out
   |exact HB.out
  ·exact ⟨_, rfl⟩
 refine Yag (fun _ w5 hB1 => ?_)
 have c9 := Ya hB1.r9
 have f9 := Yj hB1.r9
 unfold Fl.cells Fl.zero at c9
 have HB := Yh_ hB1
 clear hB1
 go_wp2_with fail
 exact bodyPost_ret (Yan rfl (Yq 8 rfl) (Ycd 9 (w.heap.size + 1) ⟨c, x1, x2, x3, x4, x5⟩ rfl (Yb9 HB.out.r9 _ _ _ _ _ _))) rfl ⟨rfl, Yax HB.out.u (.inr (by omega)) _ _ _ _ _ _⟩
theorem aluDo_13 (a b : Int) (f : Fl) (w : World) (ha : 0 ≤ a ∧ a < 4294967296) (hb : 0 ≤ b ∧ b < 4294967296) :
  Calls Tryz.prog 47 #[.int .i64 13, .int .u32 a, .int .u32 b, .agg f.cells] w fun e w' => e = .returned (.tuple #[.int .u32 (Ybu 13 a b f), .agg (Ybf 13 a b f).cells]) ∧ Upd [] w w' := by
 obtain ⟨c, d, e', z, n, o⟩ := f
 have HA := Yh_ (And.intro ha hb)
 obtain ⟨⟨x0, x1, x2, x3, x4, x5⟩, hF⟩ : ∃ F, Ye4 a 1 false = F := ⟨_, rfl⟩
 have HF := Yh_ hF
 have HV := Yh_ (show Ybf 13 a b ⟨c, d, e', z, n, o⟩ = ⟨c, x1, x2, x3, x4, x5⟩ by simp [Ybf, hF])
 clear hF
 have tok : True := trivial
 clear ha hb
 rw [HV.out]
 simp only [Ybu]
 unfold Fl.cells
 go_enter Tryz.func47, Tryz.ntmps47
 go_wp2_with (have _t := tok; clear _t; go_at_call 62; refine (Ye0 a 1 false _ HA.out.1 (by decide)).mono ?_; rintro e w1 ⟨rfl, hu⟩; rw [HF.out]; unfold Fl.cells; have h1 := AlS.of (f := ⟨c, d, e', z, n, o⟩) hu; have ch := Ya h1.z7; have fh := Yj h1.z7; have c10 := Ya h1.z10; unfold Fl.cells at ch c10; have H1 := Yh_ h1; clear hu h1 tok)
 refine Yap 3 (AlE w ⟨c, x1, x2, x3, x4, x5⟩) (fun _ _ => False) (by kernel_rfl) (by decide +kernel) (((H1.out.st x0 x1 x2 x3 x4 x5).cf c)).drew (fun _ _ _ h => h.elim) ?_
 simp only [List.take_succ_cons, List.take_zero, List.drop_succ_cons, List.drop_zero]
 iterate 3
  apply Yv rfl rfl
  ·intro K hK w5 hB1
   have c7 := Ya hB1.r7
   unfold Fl.cells at c7
   have HB := Yh_ hB1
   clear hB1
   go_wp2_with fail
   first
   |exact hK _ HB.out
   |exact HB.out
  ·exact ⟨_, rfl⟩
 refine Yag (fun _ w5 hB1 => ?_)
 have c9 := Ya hB1.r9
 have f9 := Yj hB1.r9
 unfold Fl.cells Fl.zero at c9
 have HB := Yh_ hB1
 clear hB1
 go_wp2_with fail
 exact bodyPost_ret (Yan rfl (Yq 8 rfl) (Ycd 9 (w.heap.size + 1) ⟨c, x1, x2, x3, x4, x5⟩ rfl (Yb9 HB.out.r9 _ _ _ _ _ _))) rfl ⟨rfl, Yax HB.out.u (.inr (by omega)) _ _ _ _ _ _⟩
theorem aluDo_15 (a b : Int) (f : Fl) (w : World) (ha : 0 ≤ a ∧ a < 4294967296) (hb : 0 ≤ b ∧ b < 4294967296) :
  Calls Tryz.prog 47 #[.int .i64 15, .int .u32 a, .int .u32 b, .agg f.cells] w fun e w' => e = .returned (.tuple #[.int .u32 (Ybu 15 a b f), .agg (Ybf 15 a b f).cells]) ∧ Upd [] w w' := by
 obtain ⟨c, d, e', z, n, o⟩ := f
 have HA := Yh_ (And.intro ha hb)
 obtain ⟨⟨x0, x1, x2, x3, x4, x5⟩, hF⟩ : ∃ F, Ye4 0 a false = F := ⟨_, rfl⟩
 have HF := Yh_ hF
 have HV := Yh_ (show Ybf 15 a b ⟨c, d, e', z, n, o⟩ = ⟨x0, x1, x2, x3, x4, x5⟩ by simp [Ybf, hF])
 clear hF
 have tok : True := trivial
 clear ha hb
 rw [HV.out]
 simp only [Ybu]
 unfold Fl.cells
 go_enter Tryz.func47, Tryz.ntmps47
 go_wp2_with (have _t := tok; clear _t; go_at_call 62; refine (Ye0 0 a false _ (by decide) HA.out.1).mono ?_; rintro e w1 ⟨rfl, hu⟩; rw [HF.out]; unfold Fl.cells; have h1 := AlS.of (f := ⟨c, d, e', z, n, o⟩) hu; have ch := Ya h1.z7; have fh := Yj h1.z7; have c10 := Ya h1.z10; unfold Fl.cells at ch c10; have H1 := Yh_ h1; clear hu h1 tok)
 refine Yap 3 (AlE w ⟨x0, x1, x2, x3, x4, x5⟩) (fun _ _ => False) (by kernel_rfl) (by decide +kernel) ((H1.out.st x0 x1 x2 x3 x4 x5)).drew (fun _ _ _ h => h.elim) ?_
 simp only [List.take_succ_cons, List.take_zero, List.drop_succ_cons, List.drop_zero]
 iterate 3
  apply Yv rfl rfl
  ·intro K hK w5 hB1
   have c7 := Ya hB1.r7
   unfold Fl.cells at c7
   have HB := Yh_ hB1
   clear hB1
   go_wp2_with fail
   first
   |exact hK _ HB.out
   |exact HB.out
  ·exact ⟨_, rfl⟩
 refine Yag (fun _ w5 hB1 => ?_)
 have c9 := Ya hB1.r9
 have f9 := Yj hB1.r9
 unfold Fl.cells Fl.zero at c9
 have HB := Yh_ hB1
 clear hB1
 go_wp2_with fail
 exact bodyPost_ret (Yan rfl (Yq 8 rfl) (Ycd 9 (w.heap.size + 1) ⟨x0, x1, x2, x3, x4, x5⟩ rfl (Yb9 HB.out.r9 _ _ _ _ _ _))) rfl ⟨rfl, Yax HB.out.u (.inr (by omega)) _ _ _ _ _ _⟩
theorem aluDo_7 (a b : Int) (f : Fl) (w : World) (ha : 0 ≤ a ∧ a < 4294967296) (hb : 0 ≤ b ∧ b < 4294967296) :
  Calls Tryz.prog 47 #[.int .i64 7, .int .u32 a, .int .u32 b, .agg f.cells] w fun e w' => e = .returned (.tuple #[.int .u32 (Ybu 7 a b f), .agg (Ybf 7 a b f).cells]) ∧ Upd [] w w' := by
 obtain ⟨c, d, e', z, n, o⟩ := f
 have HA := Yh_ (And.intro ha hb)
 obtain ⟨⟨x0, x1, x2, x3, x4, x5⟩, hF⟩ : ∃ F, Fl.by Fl.zero (bits .and .u32 a b) = F := ⟨_, rfl⟩
 have HF := Yh_ hF
 have HV := Yh_ (show Ybf 7 a b ⟨c, d, e', z, n, o⟩ = ⟨x0, x1, x2, x3, x4, x5⟩ by simp [Ybf, hF])
 clear hF
 have tok : True := trivial
 clear ha hb
 rw [HV.out]
 simp only [Ybu]
 unfold Fl.cells
 go_enter Tryz.func47, Tryz.ntmps47
 go_wp2_with (have _t := tok; clear _t; go_at_call 63; refine (Ygd Fl.zero (bits .and .u32 a b) _ (Yi9 a b HA.out.1 HA.out.2)).mono ?_; rintro e w1 ⟨rfl, hu⟩; rw [HF.out]; unfold Fl.cells; have h1 := AlS.of (f := ⟨c, d, e', z, n, o⟩) hu; have ch := Ya h1.z7; have fh := Yj h1.z7; unfold Fl.cells at ch; have H1 := Yh_ h1; clear hu h1 tok)
 refine Yap 3 (AlE w ⟨x0, x1, x2, x3, x4, x5⟩) (fun _ _ => False) (by kernel_rfl) (by decide +kernel) ((H1.out.st x0 x1 x2 x3 x4 x5)).drew (fun _ _ _ h => h.elim) ?_
 simp only [List.take_succ_cons, List.take_zero, List.drop_succ_cons, List.drop_zero]
 iterate 3
  apply Yv rfl rfl
  ·intro K hK w5 hB1
   have c7 := Ya hB1.r7
   unfold Fl.cells at c7
   have HB := Yh_ hB1
   clear hB1
   go_wp2_with fail
   first
   |exact hK _ HB.out
   |exact HB.out
  ·exact ⟨_, rfl⟩
 refine Yag (fun _ w5 hB1 => ?_)
 have c9 := Ya hB1.r9
 have f9 := Yj hB1.r9
 unfold Fl.cells Fl.zero at c9
 have HB := Yh_ hB1
 clear hB1
 go_wp2_with fail
 exact bodyPost_ret (Yan rfl (Yq 8 rfl) (Ycd 9 (w.heap.size + 1) ⟨x0, x1, x2, x3, x4, x5⟩ rfl (Yb9 HB.out.r9 _ _ _ _ _ _))) rfl ⟨rfl, Yax HB.out.u (.inr (by omega)) _ _ _ _ _ _⟩
theorem aluDo_4 (a b : Int) (f : Fl) (w : World) (ha : 0 ≤ a ∧ a < 4294967296) (hb : 0 ≤ b ∧ b < 4294967296) :
  Calls Tryz.prog 47 #[.int .i64 4, .int .u32 a, .int .u32 b, .agg f.cells] w fun e w' => e = .returned (.tuple #[.int .u32 (Ybu 4 a b f), .agg (Ybf 4 a b f).cells]) ∧ Upd [] w w' := by
 obtain ⟨c, d, e', z, n, o⟩ := f
 have HA := Yh_ (And.intro ha hb)
 obtain ⟨⟨x0, x1, x2, x3, x4, x5⟩, hF⟩ : ∃ F, Fl.by Fl.zero (bits .or .u32 a b) = F := ⟨_, rfl⟩
 have HF := Yh_ hF
 have HV := Yh_ (show Ybf 4 a b ⟨c, d, e', z, n, o⟩ = ⟨x0, x1, x2, x3, x4, x5⟩ by simp [Ybf, hF])
 clear hF
 have tok : True := trivial
 clear ha hb
 rw [HV.out]
 simp only [Ybu]
 unfold Fl.cells
 go_enter Tryz.func47, Tryz.ntmps47
 go_wp2_with (have _t := tok; clear _t; go_at_call 63; refine (Ygd Fl.zero (bits .or .u32 a b) _ (or_u32 a b HA.out.1 HA.out.2)).mono ?_; rintro e w1 ⟨rfl, hu⟩; rw [HF.out]; unfold Fl.cells; have h1 := AlS.of (f := ⟨c, d, e', z, n, o⟩) hu; have ch := Ya h1.z7; have fh := Yj h1.z7; unfold Fl.cells at ch; have H1 := Yh_ h1; clear hu h1 tok)
 refine Yap 3 (AlE w ⟨x0, x1, x2, x3, x4, x5⟩) (fun _ _ => False) (by kernel_rfl) (by decide +kernel) ((H1.out.st x0 x1 x2 x3 x4 x5)).drew (fun _ _ _ h => h.elim) ?_
 simp only [List.take_succ_cons, List.take_zero, List.drop_succ_cons, List.drop_zero]
 iterate 3
  apply Yv rfl rfl
  ·intro K hK w5 hB1
   have c7 := Ya hB1.r7
   unfold Fl.cells at c7
   have HB := Yh_ hB1
   clear hB1
   go_wp2_with fail
   first
   |exact hK _ HB.out
   |exact HB.out
  ·exact ⟨_, rfl⟩
 refine Yag (fun _ w5 hB1 => ?_)
 have c9 := Ya hB1.r9
 have f9 := Yj hB1.r9
 unfold Fl.cells Fl.zero at c9
 have HB := Yh_ hB1
 clear hB1
 go_wp2_with fail
 exact bodyPost_ret (Yan rfl (Yq 8 rfl) (Ycd 9 (w.heap.size + 1) ⟨x0, x1, x2, x3, x4, x5⟩ rfl (Yb9 HB.out.r9 _ _ _ _ _ _))) rfl ⟨rfl, Yax HB.out.u (.inr (by omega)) _ _ _ _ _ _⟩
theorem aluDo_9 (a b : Int) (f : Fl) (w : World) (ha : 0 ≤ a ∧ a < 4294967296) (hb : 0 ≤ b ∧ b < 4294967296) :
  Calls Tryz.prog 47 #[.int .i64 9, .int .u32 a, .int .u32 b, .agg f.cells] w fun e w' => e = .returned (.tuple #[.int .u32 (Ybu 9 a b f), .agg (Ybf 9 a b f).cells]) ∧ Upd [] w w' := by
 obtain ⟨c, d, e', z, n, o⟩ := f
 have HA := Yh_ (And.intro ha hb)
 obtain ⟨⟨x0, x1, x2, x3, x4, x5⟩, hF⟩ : ∃ F, Fl.by Fl.zero (bits .xor .u32 a b) = F := ⟨_, rfl⟩
 have HF := Yh_ hF
 have HV := Yh_ (show Ybf 9 a b ⟨c, d, e', z, n, o⟩ = ⟨x0, x1, x2, x3, x4, x5⟩ by simp [Ybf, hF])
 clear hF
 have tok : True := trivial
 clear ha hb
 rw [HV.out]
 simp only [Ybu]
 unfold Fl.cells
 go_enter Tryz.func47, Tryz.ntmps47
 go_wp2_with (have _t := tok; clear _t; go_at_call 63; refine (Ygd Fl.zero (bits .xor .u32 a b) _ (Yjc a b HA.out.1 HA.out.2)).mono ?_; rintro e w1 ⟨rfl, hu⟩; rw [HF.out]; unfold Fl.cells; have h1 := AlS.of (f := ⟨c, d, e', z, n, o⟩) hu; have ch := Ya h1.z7; have fh := Yj h1.z7; unfold Fl.cells at ch; have H1 := Yh_ h1; clear hu h1 tok)
 refine Yap 3 (AlE w ⟨x0, x1, x2, x3, x4, x5⟩) (fun _ _ => False) (by kernel_rfl) (by decide +kernel) ((H1.out.st x0 x1 x2 x3 x4 x5)).drew (fun _ _ _ h => h.elim) ?_
 simp only [List.take_succ_cons, List.take_zero, List.drop_succ_cons, List.drop_zero]
 iterate 3
  apply Yv rfl rfl
  ·intro K hK w5 hB1
   have c7 := Ya hB1.r7
   unfold Fl.cells at c7
   have HB := Yh_ hB1
   clear hB1
   go_wp2_with fail
   first
   |exact hK _ HB.out
   |exact HB.out
  ·exact ⟨_, rfl⟩
 refine Yag (fun _ w5 hB1 => ?_)
 have c9 := Ya hB1.r9
 have f9 := Yj hB1.r9
 unfold Fl.cells Fl.zero at c9
 have HB := Yh_ hB1
 clear hB1
 go_wp2_with fail
 exact bodyPost_ret (Yan rfl (Yq 8 rfl) (Ycd 9 (w.heap.size + 1) ⟨x0, x1, x2, x3, x4, x5⟩ rfl (Yb9 HB.out.r9 _ _ _ _ _ _))) rfl ⟨rfl, Yax HB.out.u (.inr (by omega)) _ _ _ _ _ _⟩
theorem aluDo_11 (a b : Int) (f : Fl) (w : World) (ha : 0 ≤ a ∧ a < 4294967296) (hb : 0 ≤ b ∧ b < 4294967296) :
  Calls Tryz.prog 47 #[.int .i64 11, .int .u32 a, .int .u32 b, .agg f.cells] w fun e w' => e = .returned (.tuple #[.int .u32 (Ybu 11 a b f), .agg (Ybf 11 a b f).cells]) ∧ Upd [] w w' := by
 obtain ⟨c, d, e', z, n, o⟩ := f
 have HA := Yh_ (And.intro ha hb)
 obtain ⟨⟨x0, x1, x2, x3, x4, x5⟩, hF⟩ : ∃ F, Fl.by Fl.zero (bits .and .u32 a b) = F := ⟨_, rfl⟩
 have HF := Yh_ hF
 have HV := Yh_ (show Ybf 11 a b ⟨c, d, e', z, n, o⟩ = ⟨x0, x1, x2, x3, x4, x5⟩ by simp [Ybf, hF])
 clear hF
 have tok : True := trivial
 clear ha hb
 rw [HV.out]
 simp only [Ybu]
 unfold Fl.cells
 go_enter Tryz.func47, Tryz.ntmps47
 go_wp2_with (have _t := tok; clear _t; go_at_call 63; refine (Ygd Fl.zero (bits .and .u32 a b) _ (Yi9 a b HA.out.1 HA.out.2)).mono ?_; rintro e w1 ⟨rfl, hu⟩; rw [HF.out]; unfold Fl.cells; have h1 := AlS.of (f := ⟨c, d, e', z, n, o⟩) hu; have ch := Ya h1.z7; have fh := Yj h1.z7; unfold Fl.cells at ch; have H1 := Yh_ h1; clear hu h1 tok)
 refine Yap 3 (AlE w ⟨x0, x1, x2, x3, x4, x5⟩) (fun _ _ => False) (by kernel_rfl) (by decide +kernel) ((H1.out.st x0 x1 x2 x3 x4 x5)).drew (fun _ _ _ h => h.elim) ?_
 simp only [List.take_succ_cons, List.take_zero, List.drop_succ_cons, List.drop_zero]
 iterate 3
  apply Yv rfl rfl
  ·intro K hK w5 hB1
   have c7 := Ya hB1.r7
   unfold Fl.cells at c7
   have HB := Yh_ hB1
   clear hB1
   go_wp2_with fail
   first
   |exact hK _ HB.out
   |exact HB.out
  ·exact ⟨_, rfl⟩
 refine Yag (fun _ w5 hB1 => ?_)
 have c9 := Ya hB1.r9
 have f9 := Yj hB1.r9
 unfold Fl.cells Fl.zero at c9
 have HB := Yh_ hB1
 clear hB1
 go_wp2_with fail
 exact bodyPost_ret (Yan rfl (Yq 8 rfl) (Ycd 9 (w.heap.size + 1) ⟨x0, x1, x2, x3, x4, x5⟩ rfl (Yb9 HB.out.r9 _ _ _ _ _ _))) rfl ⟨rfl, Yax HB.out.u (.inr (by omega)) _ _ _ _ _ _⟩
theorem aluDo_14 (a b : Int) (f : Fl) (w : World) (ha : 0 ≤ a ∧ a < 4294967296) (hb : 0 ≤ b ∧ b < 4294967296) :
  Calls Tryz.prog 47 #[.int .i64 14, .int .u32 a, .int .u32 b, .agg f.cells] w fun e w' => e = .returned (.tuple #[.int .u32 (Ybu 14 a b f), .agg (Ybf 14 a b f).cells]) ∧ Upd [] w w' := by
 obtain ⟨c, d, e', z, n, o⟩ := f
 have HA := Yh_ (And.intro ha hb)
 have HV := Yh_ (show Ybf 14 a b ⟨c, d, e', z, n, o⟩ = ⟨c, d, e', z, n, o⟩ by simp [Ybf])
 have tok : True := trivial
 clear ha hb
 rw [HV.out]
 simp only [Ybu]
 unfold Fl.cells
 go_enter Tryz.func47, Tryz.ntmps47
 go_wp2_with fail
 refine Yap 3 (AlE w ⟨c, d, e', z, n, o⟩) (fun _ _ => False) (by kernel_rfl) (by decide +kernel) (AlE.start).drew (fun _ _ _ h => h.elim) ?_
 simp only [List.take_succ_cons, List.take_zero, List.drop_succ_cons, List.drop_zero]
 iterate 3
  apply Yv rfl rfl
  ·intro K hK w5 hB1
   have c7 := Ya hB1.r7
   unfold Fl.cells at c7
   have HB := Yh_ hB1
   clear hB1
   go_wp2_with fail
   first
   |exact hK _ HB.out
   |exact HB.out
  ·exact ⟨_, rfl⟩
 refine Yag (fun _ w5 hB1 => ?_)
 have c9 := Ya hB1.r9
 have f9 := Yj hB1.r9
 unfold Fl.cells Fl.zero at c9
 have HB := Yh_ hB1
 clear hB1
 go_wp2_with fail
 exact bodyPost_ret (Yan rfl (Yq 8 rfl) (Ycd 9 (w.heap.size + 1) ⟨c, d, e', z, n, o⟩ rfl (Yb9 HB.out.r9 _ _ _ _ _ _))) rfl ⟨rfl, Yax HB.out.u (.inr (by omega)) _ _ _ _ _ _⟩
def Yic (op : Int) : Bool := (decide (3 ≤ op) && decide (op ≤ 15))
theorem Yph (op a b : Int) (f : Fl) (w : World) (hop : Yic op = true) (ha : 0 ≤ a ∧ a < 4294967296) (hb : 0 ≤ b ∧ b < 4294967296) :
  Calls Tryz.prog 47 #[.int .i64 op, .int .u32 a, .int .u32 b, .agg f.cells] w fun e w' => e = .returned (.tuple #[.int .u32 (Ybu op a b f), .agg (Ybf op a b f).cells]) ∧ Upd [] w w' := by
 have h : op = 3 ∨ op = 4 ∨ op = 5 ∨ op = 6 ∨ op = 7 ∨ op = 8 ∨ op = 9 ∨ op = 10 ∨ op = 11 ∨ op = 12 ∨ op = 13 ∨ op = 14 ∨ op = 15 := by
  simp only [Yic, Bool.and_eq_true, decide_eq_true_eq] at hop
  omega
 rcases h with rfl | rfl | rfl | rfl | rfl | rfl | rfl | rfl | rfl | rfl | rfl | rfl | rfl
 ·exact aluDo_3 a b f w ha hb
 ·exact aluDo_4 a b f w ha hb
 ·exact aluDo_5 a b f w ha hb
 ·exact aluDo_6 a b f w ha hb
 ·exact aluDo_7 a b f w ha hb
 ·exact aluDo_8 a b f w ha hb
 ·exact aluDo_9 a b f w ha hb
 ·exact aluDo_10 a b f w ha hb
 ·exact aluDo_11 a b f w ha hb
 ·exact aluDo_12 a b f w ha hb
 ·exact aluDo_13 a b f w ha hb
 ·exact aluDo_14 a b f w ha hb
 ·exact aluDo_15 a b f w ha hb
theorem Yol (op a b : Int) (f : Fl) (ha : 0 ≤ a ∧ a < 4294967296) (hb : 0 ≤ b ∧ b < 4294967296) : 0 ≤ Ybu op a b f ∧ Ybu op a b f < 4294967296 := by
 unfold Ybu
 repeat' split
 all_goals first | exact Yix _ _ _ | exact Yip _ _ _ | exact Yi9 a b ha hb | exact or_u32 a b ha hb | exact Yjc a b ha hb | exact Yjc 4294967295 a (by decide) ha | exact ha
section
structure Dq (w : World) (d a pb : Nat) (s : St) (i : Ins) (M : Mem) (L : List (Nat × Obj)) (w1 : World) : Prop where
 b : Yu w1 d a pb s i M
 o : ∀ p ∈ L, w1.heap[p.1]? = some p.2
 u : Upd [d, pb] w w1
 n : ∀ p ∈ L, p.1 ≠ d ∧ p.1 ≠ pb
section
variable {w w1 w2 : World} {d a pb : Nat} {s s2 : St} {i : Ins} {M M2 : Mem} {L : List (Nat × Obj)}
theorem Dq.quiet (h : Dq w d a pb s i M L w1) (u : Upd [] w1 w2) : Dq w d a pb s i M L w2 :=
 ⟨h.b.keep u (by simp) (by simp) (by simp), fun p hp => u.get (h.o p hp) (by simp), h.u.also u (by simp), h.n⟩
theorem Dq.drew (h : Dq w d a pb s i M L w1) : Dq w d a pb s i M L w1.drew := h.quiet (Upd.refl [] w1).drew
theorem Dq.next (h : Dq w d a pb s i M L w1) (hd : Yu w2 d a pb s2 i M2) (u : Upd [d, pb] w1 w2) : Dq w d a pb s2 i M2 L w2 :=
 ⟨hd, fun p hp => u.get (h.o p hp) (by have := h.n p hp; simp; exact ⟨this.1, this.2⟩), h.u.also u (fun x hx => .inl hx), h.n⟩
theorem Dq.of (h : Yu w d a pb s i M) : Dq w d a pb s i M [] w := ⟨h, by simp, Upd.refl _ _, by simp⟩
theorem Dq.one {b : Nat} {c : Array Value} {t : TypeId} {f : Nat × Nat} (h : Dq w d a pb s i M ((b, .cells c t f) :: L) w1) : w1.heap[b]? = some (.cells c t f) := h.o (b, .cells c t f) (by simp)
theorem Dq.ins {g : Nat} (h : Dq w d a pb s i M ((g, .cells i.cells 41 (0, 0)) :: L) w1) : ∀ o, w1.cell? ⟨g, o, none⟩ = i.cells[o]? := Ya h.one
theorem Dq.lts (h : Dq w d a pb s i M L w1) : d < w1.heap.size ∧ a < w1.heap.size ∧ pb < w1.heap.size ∧ ∀ p ∈ L, p.1 < w1.heap.size :=
 ⟨h.b.lt, by obtain ⟨C, _, hc⟩ := h.b.m.hd; exact Yi hc, by obtain ⟨C, _, hc⟩ := h.b.m.pg; exact Yi hc, fun p hp => Yi (h.o p hp)⟩
theorem Dq.lay (h : Dq w d a pb s i M L w1) (c : Array Value) (t : TypeId) : Dq w d a pb s i M ((w1.heap.size, .cells c t (0, 0)) :: L) (w1.alloc (.cells c t)) := by
 have h' := h.quiet ((Upd.refl [] w1).alloc (.cells c t))
 refine ⟨h'.b, fun p hp => ?_, h'.u, fun p hp => ?_⟩
 ·rcases List.mem_cons.1 hp with rfl | hp
  ·exact heap_alloc_new w1 _
  ·exact h'.o p hp
 ·rcases List.mem_cons.1 hp with rfl | hp
  ·have := h.lts; exact ⟨by dsimp only; omega, by dsimp only; omega⟩
  ·exact h.n p hp
theorem Dq.add (h : Dq w d a pb s i M L w1) {g : Nat} {o : Obj} (hg : w1.heap[g]? = some o) (h1 : g ≠ d) (h2 : g ≠ pb) : Dq w d a pb s i M ((g, o) :: L) w1 := by
 refine ⟨h.b, fun p hp => ?_, h.u, fun p hp => ?_⟩
 ·rcases List.mem_cons.1 hp with rfl | hp
  ·exact hg
  ·exact h.o p hp
 ·rcases List.mem_cons.1 hp with rfl | hp
  ·exact ⟨h1, h2⟩
  ·exact h.n p hp
theorem Dq.put {b : Nat} {c v : Array Value} {t : TypeId} (h : Dq w d a pb s i M ((b, .cells c t (0, 0)) :: L) w1) (hb : w.heap.size ≤ b) (hba : b ≠ a) (hL : ∀ p ∈ L, p.1 ≠ b) (hv : wr c 0 v.toList = v) (hw : w1.setCells b 0 v.toList = w2) : Dq w d a pb s i M ((b, .cells v t (0, 0)) :: L) w2 := by
 subst hw
 have u := (Upd.refl [b] w1).setCells (q := b) (.inl (by simp)) v.toList 0
 have hn := h.n (b, .cells c t (0, 0)) (by simp)
 refine ⟨h.b.keep u (by simpa using fun e => hn.1 e.symm) (by simpa using fun e => hba e.symm) (by simpa using fun e => hn.2 e.symm), fun p hp => ?_, h.u.also u (fun x hx => .inr (by rw [List.mem_singleton.1 hx]; exact hb)), fun p hp => ?_⟩
 ·rcases List.mem_cons.1 hp with rfl | hp
  ·rw [Yaf _ _ _ _ h.one, hv]
  ·exact u.get (h.o p (by simp [hp])) (by simpa using hL p hp)
 ·rcases List.mem_cons.1 hp with rfl | hp
  ·exact hn
  ·exact h.n p (by simp [hp])
theorem Dq.tail {p : Nat × Obj} (h : Dq w d a pb s i M (p :: L) w1) : Dq w d a pb s i M L w1 := ⟨h.b, fun q hq => h.o q (by simp [hq]), h.u, fun q hq => h.n q (by simp [hq])⟩
end
structure Dg (w : World) (d a pb : Nat) (s : St) (i : Ins) (M : Mem) (L : List (Nat × Obj)) (n0 k m : Nat) (T : TypeId) (Z V : Array Value) (dn : Nat → Bool) (r : Nat → Value) (w1 : World) : Prop where
 q : Dq w d a pb s i M L w1
 b : n0 ≤ w1.heap.size
 lt : (d < n0 ∧ a < n0 ∧ pb < n0 ∧ ∀ p ∈ L, p.1 < n0) ∧ w.heap.size ≤ n0
 x : dn k = true → ∃ g, r k = .pointer (some ⟨g, 0, none⟩) ∧ n0 ≤ g ∧ w1.heap[g]? = some (.cells (if dn m then V else Z) T (0, 0))
 xo : dn m = true → dn k = true
section
variable {w w1 w2 : World} {d a pb n0 k m : Nat} {s s2 : St} {i : Ins} {M M2 : Mem} {L : List (Nat × Obj)} {T : TypeId} {Z V : Array Value} {dn : Nat → Bool} {r : Nat → Value}
theorem Dg.start (h : Dq w d a pb s i M L w1) (k m : Nat) (T : TypeId) (Z V : Array Value) (r : Nat → Value) : Dg w d a pb s i M L w1.heap.size k m T Z V (fun _ => false) r w1.drew :=
 ⟨h.drew, ((Upd.refl [] w1).drew).size, ⟨h.lts, h.u.size⟩, fun h => (by cases h), fun h => (by cases h)⟩
theorem Dg.quiet (h : Dg w d a pb s i M L n0 k m T Z V dn r w1) (u : Upd [] w1 w2) (j : Nat) (h1 : k ≠ j) (h2 : m ≠ j) : Dg w d a pb s i M L n0 k m T Z V (Yad dn j) r w2 := by
 refine ⟨h.q.quiet u, Nat.le_trans h.b u.size, h.lt, fun hx => ?_, fun hx => ?_⟩
 ·rw [Yn h1] at hx
  obtain ⟨g, e1, e2, e3⟩ := h.x hx
  exact ⟨g, e1, e2, by rw [Yn h2]; exact u.get e3 (by simp)⟩
 ·rw [Yn h2] at hx; rw [Yn h1]; exact h.xo hx
theorem Dg.same (h : Dg w d a pb s i M L n0 k m T Z V dn r w1) (j : Nat) (h1 : k ≠ j) (h2 : m ≠ j) : Dg w d a pb s i M L n0 k m T Z V (Yad dn j) r w1 := h.quiet (Upd.refl [] w1) j h1 h2
theorem Dg.lay (h : Dg w d a pb s i M L n0 k m T Z V dn r w1) (hd : dn k = false) (hkm : m ≠ k) : Dg w d a pb s i M L n0 k m T Z V (Yad dn k) (Yco r k (.pointer (some ⟨w1.heap.size, 0, none⟩))) (w1.alloc (.cells Z T)) := by
 have hdm : dn m = false := by
  cases e : dn m with
  |false => rfl
  |true => rw [h.xo e] at hd; cases hd
 have u := (Upd.refl [] w1).alloc (.cells Z T)
 refine ⟨h.q.quiet u, Nat.le_trans h.b u.size, h.lt, fun _ => ⟨_, Yf2, h.b, ?_⟩, fun _ => Yck⟩
 rw [Yn hkm, hdm]
 exact heap_alloc_new _ _
theorem Dg.put (h : Dg w d a pb s i M L n0 k m T Z V dn r w1) (hd : dn k = true) {g : Nat} (e1 : r k = .pointer (some ⟨g, 0, none⟩)) (hv : ∀ c, (c = V ∨ c = Z) → wr c 0 V.toList = V) (hkm : k ≠ m) : Dg w d a pb s i M L n0 k m T Z V (Yad dn m) r (w1.setCells g 0 V.toList) := by
 obtain ⟨g', e1', e2, e3⟩ := h.x hd
 obtain rfl : g' = g := by rw [e1] at e1'; injection e1' with e; injection e with e; injection e with e; exact e.symm
 have u := (Upd.refl [g'] w1).setCells (q := g') (.inl (by simp)) V.toList 0
 have hl := h.lt.1
 refine ⟨⟨h.q.b.keep u (by simp; omega) (by simp; omega) (by simp; omega), fun p hp => u.get (h.q.o p hp) (by have := hl.2.2.2 p hp; simp; omega), h.q.u.also u (fun x hx => .inr (by rw [List.mem_singleton.1 hx]; exact Nat.le_trans h.lt.2 e2)), h.q.n⟩, Nat.le_trans h.b u.size, h.lt, fun _ => ⟨g', e1, e2, ?_⟩, fun _ => by rw [Yn hkm]; exact hd⟩
 rw [Yck, if_pos rfl, Yaf _ _ _ _ e3, hv _ (by split <;> simp)]
theorem Dg.fin (h : Dg w d a pb s i M L n0 k m T Z V dn r w1) (hk : dn k = true) : ∃ g, r k = .pointer (some ⟨g, 0, none⟩) ∧ Dq w d a pb s i M ((g, .cells (if dn m then V else Z) T (0, 0)) :: L) w1 ∧ (w.heap.size ≤ g ∧ g ≠ a ∧ ∀ p ∈ L, p.1 ≠ g) := by
 obtain ⟨g, e1, e2, e3⟩ := h.x hk
 have hl := h.lt
 exact ⟨g, e1, h.q.add e3 (by omega) (by omega), by omega, by omega, fun p hp => by have := hl.1.2.2.2 p hp; omega⟩
end
end
def Ye5 (x : Int) : Int := if x < 2147483648 then 0 else 4294967295
theorem moves_38 (d a pb : Nat) (s : St) (i : Ins) (M : Mem) (w : World) (h : Yu w d a pb s i M) (hop : i.op = 38) :
  Calls Tryz.prog 54 #[.pointer (some ⟨d, 0, none⟩)] w fun e w' => e = .returned (.tuple #[]) ∧ Yu w' d a pb (s.setR 2 (Ye5 (s.R 0))) i (M) ∧ Upd [d, pb] w w' := by
 have HD := Yh_ h
 have HI := Yh_ h.io
 have HV := Yh_ (h.ok.R 0)
 have eC : wrap32 (s.R 0) / 2147483648 % 4294967296 = Ye5 (s.R 0) := by have := HV.out; unfold wrap32 Ye5; split <;> omega
 clear h
 go_enter Tryz.func54, Tryz.ntmps54
 go_wp2_with fail
 refine Ya8 9 (Dg w d a pb s i M [] _ 7 8 41 Ins.zero.cells i.cells) (fun _ _ => False) (by kernel_rfl) (by decide +kernel) (fun r0 => Dg.start (Dq.of HD.out) 7 8 41 Ins.zero.cells i.cells r0) (fun _ _ _ h => h.elim) ?_
 simp only [List.take_succ_cons, List.take_zero, List.drop_succ_cons, List.drop_zero]
 iterate 3
  apply Yd rfl rfl
  ·intro dn r0 K hd hdep hK w5 hB2
   have hB1 := hB2.q
   skip
   have HB := Yh_ hB2
   clear hB1 hB2 hdep
   go_wp2_with fail
   first
   |exact hK _ (HB.out.same _ (by decide) (by decide))
   |exact HB.out.same _ (by decide) (by decide)
  ·exact ⟨_, rfl⟩
 apply Yd rfl rfl
 ·intro dn r0 K hd hdep hK w5 hB2
  have hB1 := hB2.q
  refine wp_load_mid 41 _ rfl d 18 rfl i.cells.toList _ hB1.b.ri Tryz.underlying41 rfl (by rw [Array.length_toList, Ins.size]; exact Yb1) ?_
  rw [Array.toArray_toList]
  exact hK _ (hB2.same _ (by decide) (by decide))
 ·exact ⟨_, rfl⟩
 iterate 3
  apply Yd rfl rfl
  ·intro dn r0 K hd hdep hK w5 hB2
   have hB1 := hB2.q
   skip
   have HB := Yh_ hB2
   clear hB1 hB2 hdep
   go_wp2_with fail
   first
   |exact hK _ (HB.out.same _ (by decide) (by decide))
   |exact HB.out.same _ (by decide) (by decide)
  ·exact ⟨_, rfl⟩
 refine Yar rfl (fun _ => rfl) 2 rfl (by simp [Act.put]) ?_ ?_
 ·intro dn r0 K hd w5 hB2 hK
  have HB := Yh_ hB2
  clear hB2
  simp only [Yo]
  go_wp2_with fail
  first
  |exact hK (.pointer (some ⟨w5.heap.size, 0, none⟩)) _ (HB.out.lay hd (by decide))
  |exact HB.out.lay hd (by decide)
 apply Ya6 rfl (fun _ => rfl)
 ·intro dn r0 K hd hdep hK w5 hB2
  have h8 : dn 7 = true := hdep ⟨7, .data⟩ (by simp) rfl
  obtain ⟨g0, e1, e2, e3⟩ := hB2.x h8
  refine Yfo i g0 _ _ rfl (by show r0 7 = _; exact e1) rfl e3 (by split <;> exact Ins.size _) ?_
  intro w6 hw
  rw [← hw]
  exact hK _ (hB2.put h8 e1 (by rintro c (rfl | rfl) <;> exact Yle _ i rfl) (by decide))
 ·exact ⟨_, fun _ => rfl, rfl⟩
 refine Yaz (fun _ r0 w6 dn hall hB2 => ?_)
 obtain ⟨g, e1, hB1, hgl⟩ := hB2.fin (hall 7 (by decide))
 rw [hall 8 (by decide), if_pos rfl] at hB1
 show wpList _ _ _ _ (Act.put (Yo _ _ [] _) (some 2) (r0 7)) _
 rw [e1]
 simp only [Yo]
 clear e1 hall hB2
 have ci := hB1.ins; unfold Ins.cells at ci
 have H3 := Yh_ hB1
 clear hB1 hgl
 go_wp2_with fail
 refine Yap 12 (Dq w d a pb s i M [(g, .cells i.cells 41 (0, 0))]) (fun _ _ => False) (by kernel_rfl) (by decide +kernel) H3.out.drew (fun _ _ _ h => h.elim) ?_
 simp only [List.take_succ_cons, List.take_zero, List.drop_succ_cons, List.drop_zero]
 iterate 12
  apply Yv rfl rfl
  ·intro K hK w5 hB1
   have ci := hB1.ins; unfold Ins.cells at ci; have c1 : w5.cell? ⟨d, 1, none⟩ = some (.int .u32 (s.R 0)) := hB1.b.cR 0 (by decide)
   have HB := Yh_ hB1
   clear hB1
   go_wp2_with fail
   first
   |exact hK _ HB.out
   |exact HB.out
  ·exact ⟨_, rfl⟩
 refine Yag (fun _ w6 hB1 => ?_)
 have c3 : w6.cell? ⟨d, 3, none⟩ = some (.int .u32 (s.R 2)) := hB1.b.cR 2 (by decide)
 have f3 := hB1.b.free
 have H5 := Yh_ hB1
 clear hB1 H3 ci
 go_wp2_with fail
 go_end0
 exact ⟨rfl, H5.out.b.setR 2 (by decide) _ (by unfold Ye5; split <;> decide), H5.out.u.setCell (p := ⟨d, 3, none⟩) (.inl (by simp)) _⟩
section
structure AlW (w : World) (f g : Fl) (w1 : World) : Prop where
 z7 : w1.heap[w.heap.size]? = some (.cells f.cells 25 (0, 0))
 z9 : w1.heap[w.heap.size + 1]? = some (.cells Fl.zero.cells 25 (0, 0))
 z10 : w1.heap[w.heap.size + 1 + 1]? = some (.cells g.cells 25 (0, 0))
 u : Upd [] w w1
section
variable {w w1 w2 : World} {f g : Fl}
theorem AlW.of (w : World) (f g : Fl) : AlW w f g (((w.alloc (.cells f.cells 25)).alloc (.cells Fl.zero.cells 25)).alloc (.cells g.cells 25)) := by
 have h2 := heap_alloc_new ((w.alloc (.cells f.cells 25)).alloc (.cells Fl.zero.cells 25)) (.cells g.cells 25)
 rw [show ((w.alloc (.cells f.cells 25)).alloc (.cells Fl.zero.cells 25)).heap.size = w.heap.size + 1 + 1 from by simp] at h2
 exact ⟨Yl _ (heap_alloc2_old _ _ _), Yl _ (heap_alloc2_new _ _ _), h2, (((Upd.refl [] w).alloc _).alloc _).alloc _⟩
theorem AlW.drew (h : AlW w f g w1) : AlW w f g w1.drew := by
 have u := (Upd.refl [] w1).drew
 exact ⟨u.get h.z7 (by simp), u.get h.z9 (by simp), u.get h.z10 (by simp), h.u.drew⟩
theorem AlW.quiet (h : AlW w f g w1) (u : Upd [] w1 w2) : AlW w f g w2 := ⟨u.get h.z7 (by simp), u.get h.z9 (by simp), u.get h.z10 (by simp), h.u.also u (by simp)⟩
theorem AlW.put (h : AlW w f g w1) (k : Nat) (x : Bool) (f' : Fl) (he : f.cells.setIfInBounds k (.bool x) = f'.cells) : AlW w f' g (w1.setCell ⟨w.heap.size, k, none⟩ (.bool x)) := by
 have u := (Upd.refl [w.heap.size] w1).setCell (p := ⟨w.heap.size, k, none⟩) (.inl (by simp)) (.bool x)
 exact ⟨by rw [← he]; exact Yg h.z7 k (.bool x), u.get h.z9 (by simp), u.get h.z10 (by simp <;> omega), h.u.setCell (p := ⟨w.heap.size, k, none⟩) (.inr (Nat.le_refl _)) _⟩
theorem AlW.st (h : AlW w f g w1) (x0 x1 x2 x3 x4 x5 : Bool) : AlW w ⟨x0, x1, x2, x3, x4, x5⟩ g ((((((w1.setCell ⟨w.heap.size, 0, none⟩ (.bool x0)).setCell ⟨w.heap.size, 1, none⟩ (.bool x1)).setCell ⟨w.heap.size, 2, none⟩ (.bool x2)).setCell ⟨w.heap.size, 3, none⟩ (.bool x3)).setCell ⟨w.heap.size, 4, none⟩ (.bool x4)).setCell ⟨w.heap.size, 5, none⟩ (.bool x5)) := by
 have u := Yax (S := [w.heap.size]) (b := w.heap.size) (Upd.refl _ w1) (.inl (by simp)) (.bool x0) (.bool x1) (.bool x2) (.bool x3) (.bool x4) (.bool x5)
 exact ⟨Yb9 h.z7 _ _ _ _ _ _, u.get h.z9 (by simp), u.get h.z10 (by simp <;> omega), Yax h.u (.inr (Nat.le_refl _)) _ _ _ _ _ _⟩
end
end
section
structure DrF (w : World) (d a pb cb : Nat) (s : St) (i : Ins) (M : Mem) (f : Nat) (dn : Nat → Bool) (r : Nat → Value) (w1 : World) : Prop where
 b : Yu w1 d a pb s i M
 o : w1.heap[cb]? = some (.cells i.cells 41 (0, 0))
 u : Upd [d, pb] w w1
 y : dn f = true → ∃ g, r f = .pointer (some ⟨g, 0, none⟩) ∧ cb < g ∧ w1.heap[g]? = some (.cells Fl.zero.cells 25 (0, 0))
section
variable {w w1 w2 : World} {d a pb cb : Nat} {s : St} {i : Ins} {M : Mem} {f : Nat} {dn : Nat → Bool} {r : Nat → Value}
theorem DrF.start (h : Yu w1 d a pb s i M) (ho : w1.heap[cb]? = some (.cells i.cells 41 (0, 0))) (u : Upd [d, pb] w w1) (r : Nat → Value) : DrF w d a pb cb s i M f (fun _ => false) r w1.drew :=
 ⟨h.keep (Upd.refl [] _).drew (by simp) (by simp) (by simp), ((Upd.refl [] _).drew).get ho (by simp), u.drew, fun h => (by cases h)⟩
theorem DrF.quiet (h : DrF w d a pb cb s i M f dn r w1) (u : Upd [] w1 w2) (m : Nat) (h1 : f ≠ m) : DrF w d a pb cb s i M f (Yad dn m) r w2 := by
 refine ⟨h.b.keep u (by simp) (by simp) (by simp), u.get h.o (by simp), h.u.also u (by simp), fun hy => ?_⟩
 rw [Yn h1] at hy
 obtain ⟨g, e1, e2, e3⟩ := h.y hy
 exact ⟨g, e1, e2, u.get e3 (by simp)⟩
theorem DrF.same (h : DrF w d a pb cb s i M f dn r w1) (m : Nat) (h1 : f ≠ m) : DrF w d a pb cb s i M f (Yad dn m) r w1 := h.quiet (Upd.refl [] w1) m h1
theorem DrF.lay (h : DrF w d a pb cb s i M f dn r w1) : DrF w d a pb cb s i M f (Yad dn f) (Yco r f (.pointer (some ⟨w1.heap.size, 0, none⟩))) (w1.alloc (.cells #[.bool false, .bool false, .bool false, .bool false, .bool false, .bool false] 25)) := by
 have u := (Upd.refl [] w1).alloc (.cells #[.bool false, .bool false, .bool false, .bool false, .bool false, .bool false] 25)
 exact ⟨h.b.keep u (by simp) (by simp) (by simp), u.get h.o (by simp), h.u.also u (by simp), fun _ => ⟨_, Yf2, Yi h.o, heap_alloc_new _ _⟩⟩
theorem dr_setfl (a : Nat) (s : St) (i : Ins) (F : Fl) : wr (Ya7 a s i) 10 F.cells.toList = Ya7 a (s.setFl F) i := by kernel_rfl
theorem Yu.putFl (h : Yu w d a pb s i M) (F : Fl) : Yu (w.setCells d 10 F.cells.toList) d a pb (s.setFl F) i M := by
 refine ⟨?_, h.m.keep ((Upd.refl [d] w).setCells (.inl (by simp)) _ _) (by simpa using fun e => h.na e.symm) (by simpa using fun e => h.np e.symm), ⟨h.ok.R, h.ok.pc, h.ok.f⟩, h.io, h.na, h.np⟩
 rw [Yaf _ _ _ _ h.h, dr_setfl]
theorem Yk8 (F : Fl) : F.cells.all (·.oneCell') = true := by simp [Fl.cells, Value.oneCell']
theorem fl_new {g : Nat} {F G : Fl} {t : TypeId} (hw : w.setCells g 0 F.cells.toList = w2) (hb : w.heap[g]? = some (.cells G.cells t (0, 0))) : w2.heap[g]? = some (.cells F.cells t (0, 0)) ∧ Upd [g] w w2 := by
 subst hw
 exact ⟨by rw [Yaf _ _ _ _ hb]; rfl, (Upd.refl [g] w).setCells (.inl (by simp)) _ _⟩
end
theorem Yni (d a pb : Nat) (s : St) (i : Ins) (M : Mem) (w : World) (h : Yu w d a pb s i M) (hop : 12 ≤ i.op ∧ i.op ≤ 15) (hc : Yfm M s i.a 4 3 = true) (hr : opK M s i.a 4 = true)
  (hw : Ydh M (s.setFl (Ybf i.op (opV M s i.a 4) 0 s.fl)) i.a 4 = true) :
  Calls Tryz.prog 32 #[.pointer (some ⟨d, 0, none⟩)] w fun e w' => e = .returned (.tuple #[]) ∧ Yu w' d a pb (opS (s.setFl (Ybf i.op (opV M s i.a 4) 0 s.fl)) i.a 4 (Ybu i.op (opV M s i.a 4) 0 s.fl)) i (opM M (s.setFl (Ybf i.op (opV M s i.a 4) 0 s.fl)) i.a 4 (Ybu i.op (opV M s i.a 4) 0 s.fl)) ∧ Upd [d, pb] w w' := by
 have HRV := Yh_ (Ycm h i.a h.io.a 4)
 have HD := Yh_ h
 have tokL : True := trivial
 have tokS : True := trivial
 obtain ⟨op, ho⟩ : ∃ op, i.op = op := ⟨_, rfl⟩
 rw [ho] at hop hw ⊢
 have e1 : decide (3 ≤ op) = true := by simp; omega
 have e2 : decide (op ≤ 11) = false := by simp; omega
 have e3 : decide (12 ≤ op) = true := by simp; omega
 have e4 : decide (op ≤ 15) = true := by simp; omega
 have HI := Yh_ h.io
 have HOP := Yh_ (show Yic op = true by simp only [Yic, Bool.and_eq_true, decide_eq_true_eq]; omega)
 obtain ⟨v, hv⟩ : ∃ v, opV M s i.a 4 = v := ⟨_, rfl⟩
 rw [hv] at hw HRV ⊢
 obtain ⟨V, hV⟩ : ∃ V, Ybu op v 0 s.fl = V := ⟨_, rfl⟩
 have HVR := Yh_ (show 0 ≤ V ∧ V < 4294967296 from hV ▸ Yol op v 0 s.fl HRV.out (by decide))
 obtain ⟨⟨x0, x1, x2, x3, x4, x5⟩, hF⟩ : ∃ F, Ybf op v 0 s.fl = F := ⟨_, rfl⟩
 rw [hF] at hw ⊢
 rw [hV]
 have HC := Yh_ (And.intro hc (And.intro hr (And.intro hw (And.intro hv (And.intro hV hF)))))
 have HCC := Yh_ hc
 clear h hop hc hr hw hv hV hF
 go_enter Tryz.func32, Tryz.ntmps32
 go_wp2_with (first | (have _t := tokL; clear _t tokL; refine Yal 41 rfl ?_; refine wpList_load_mid rfl 41 _ rfl d 18 rfl i.cells.toList _ HD.out.ri Tryz.underlying41 rfl (by rw [Array.length_toList, Ins.size]; exact Yb1) ?_; rw [Array.toArray_toList]) | (have _t := tokS; clear _t tokS; refine Ye 41 rfl ?_; refine Yc i w.heap.size rfl _ _ rfl rfl rfl (heap_alloc_new w (.cells Ins.zero.cells 41)) rfl ?_; intro w3 hw; have h3 := Yeq HD.out hw; have ci := Ya h3.2.1; unfold Ins.cells at ci; have H3 := Yh_ h3; clear hw h3) | (have _t := H3; clear _t; go_at_call 46; refine (dboth_ok d a pb s i M i.a _ H3.out.1 HCC.out).mono ?_; rintro e w4 ⟨rfl, hu⟩; have H4 := Yh_ (And.intro (H3.out.1.keep hu (by simp) (by simp) (by simp)) (And.intro (hu.get H3.out.2.1 (by simp)) (H3.out.2.2.also hu (by simp)))); clear hu H3 ci))
 refine Ya8 16 (DrF w d a pb w.heap.size s i M 14) (fun _ _ => False) (by kernel_rfl) (by decide +kernel) (fun r0 => DrF.start H4.out.1 H4.out.2.1 H4.out.2.2 r0) (fun _ _ _ h => h.elim) ?_
 simp only [List.take_succ_cons, List.take_zero, List.drop_succ_cons, List.drop_zero]
 iterate 4
  apply Yd rfl rfl
  ·intro dn r0 K hd hdep hK w5 hB1
   have c10 : w5.cell? ⟨d, 10, none⟩ = some (.bool s.cf) := hB1.b.cell 10
   have c11 : w5.cell? ⟨d, 11, none⟩ = some (.bool s.pf) := hB1.b.cell 11
   have c12 : w5.cell? ⟨d, 12, none⟩ = some (.bool s.af) := hB1.b.cell 12
   have c13 : w5.cell? ⟨d, 13, none⟩ = some (.bool s.zf) := hB1.b.cell 13
   have c14 : w5.cell? ⟨d, 14, none⟩ = some (.bool s.sf) := hB1.b.cell 14
   have c15 : w5.cell? ⟨d, 15, none⟩ = some (.bool s.of_) := hB1.b.cell 15
   have ci := Ya hB1.o
   unfold Ins.cells at ci
   have HB := Yh_ hB1
   clear hB1 hdep
   go_wp2_with fail
   first
   |exact hK _ (HB.out.same _ (by decide))
   |exact HB.out.same _ (by decide)
  ·exact ⟨_, rfl⟩
 apply Yd rfl rfl
 ·intro dn r0 K hd hdep hK w5 hB1
  have HB := Yh_ hB1
  clear hB1 hdep
  go_wp2_with (go_at_call 48; refine (Yeo d a pb s i M i.a 4 _ HB.out.b HI.out.a HC.out.2.1).mono ?_; rintro e w6 ⟨rfl, hu⟩; rw [HC.out.2.2.2.1])
  first
  |exact hK _ (HB.out.quiet hu _ (by decide))
  |exact HB.out.quiet hu _ (by decide)
 ·exact ⟨_, rfl⟩
 iterate 5
  apply Yd rfl rfl
  ·intro dn r0 K hd hdep hK w5 hB1
   have c10 : w5.cell? ⟨d, 10, none⟩ = some (.bool s.cf) := hB1.b.cell 10
   have c11 : w5.cell? ⟨d, 11, none⟩ = some (.bool s.pf) := hB1.b.cell 11
   have c12 : w5.cell? ⟨d, 12, none⟩ = some (.bool s.af) := hB1.b.cell 12
   have c13 : w5.cell? ⟨d, 13, none⟩ = some (.bool s.zf) := hB1.b.cell 13
   have c14 : w5.cell? ⟨d, 14, none⟩ = some (.bool s.sf) := hB1.b.cell 14
   have c15 : w5.cell? ⟨d, 15, none⟩ = some (.bool s.of_) := hB1.b.cell 15
   have ci := Ya hB1.o
   unfold Ins.cells at ci
   have HB := Yh_ hB1
   clear hB1 hdep
   go_wp2_with fail
   first
   |exact hK _ (HB.out.same _ (by decide))
   |exact HB.out.same _ (by decide)
  ·exact ⟨_, rfl⟩
 apply Yd rfl rfl
 ·intro dn r0 K hd hdep hK w5 hB1
  have HB := Yh_ hB1
  clear hB1 hdep
  go_wp2_with (go_at_call 47; refine (Yph op v 0 s.fl _ HOP.out HRV.out (by decide)).mono ?_; rintro e w6 ⟨rfl, hu⟩; rw [HC.out.2.2.2.2.1, HC.out.2.2.2.2.2]; unfold Fl.cells)
  first
  |exact hK _ (HB.out.quiet hu _ (by decide))
  |exact HB.out.quiet hu _ (by decide)
 ·exact ⟨_, rfl⟩
 iterate 3
  apply Yd rfl rfl
  ·intro dn r0 K hd hdep hK w5 hB1
   have c10 : w5.cell? ⟨d, 10, none⟩ = some (.bool s.cf) := hB1.b.cell 10
   have c11 : w5.cell? ⟨d, 11, none⟩ = some (.bool s.pf) := hB1.b.cell 11
   have c12 : w5.cell? ⟨d, 12, none⟩ = some (.bool s.af) := hB1.b.cell 12
   have c13 : w5.cell? ⟨d, 13, none⟩ = some (.bool s.zf) := hB1.b.cell 13
   have c14 : w5.cell? ⟨d, 14, none⟩ = some (.bool s.sf) := hB1.b.cell 14
   have c15 : w5.cell? ⟨d, 15, none⟩ = some (.bool s.of_) := hB1.b.cell 15
   have ci := Ya hB1.o
   unfold Ins.cells at ci
   have HB := Yh_ hB1
   clear hB1 hdep
   go_wp2_with fail
   first
   |exact hK _ (HB.out.same _ (by decide))
   |exact HB.out.same _ (by decide)
  ·exact ⟨_, rfl⟩
 refine Yar rfl (fun _ => rfl) 5 rfl (by simp [Act.put]) ?_ ?_
 ·intro dn r0 K hd w5 hB1 hK
  have HB := Yh_ hB1
  clear hB1
  simp only [Yo]
  go_wp2_with fail
  first
  |exact hK (.pointer (some ⟨w5.heap.size, 0, none⟩)) _ HB.out.lay
  |exact HB.out.lay
 iterate 1
  apply Ya6 rfl (fun _ => rfl)
  ·intro dn r0 K hd hdep hK w5 hB1
   have c10 : w5.cell? ⟨d, 10, none⟩ = some (.bool s.cf) := hB1.b.cell 10
   have c11 : w5.cell? ⟨d, 11, none⟩ = some (.bool s.pf) := hB1.b.cell 11
   have c12 : w5.cell? ⟨d, 12, none⟩ = some (.bool s.af) := hB1.b.cell 12
   have c13 : w5.cell? ⟨d, 13, none⟩ = some (.bool s.zf) := hB1.b.cell 13
   have c14 : w5.cell? ⟨d, 14, none⟩ = some (.bool s.sf) := hB1.b.cell 14
   have c15 : w5.cell? ⟨d, 15, none⟩ = some (.bool s.of_) := hB1.b.cell 15
   have ci := Ya hB1.o
   unfold Ins.cells at ci
   have HB := Yh_ hB1
   clear hB1 hdep
   simp only [Yo]
   go_wp2_with fail
   first
   |exact hK _ (HB.out.same _ (by decide))
   |exact HB.out.same _ (by decide)
  ·exact ⟨_, fun _ => rfl, rfl⟩
 refine Yaz (fun _ r0 w5 dn hall hB1 => ?_)
 obtain ⟨g, e1', e2', e3'⟩ := hB1.y (hall 14 (by decide))
 have ci := Ya hB1.o
 unfold Ins.cells at ci
 have hcb := Yi HD.out.h
 have hpb : pb < w.heap.size := by obtain ⟨C, _, hc⟩ := HD.out.m.pg; exact Yi hc
 have hab : a < w.heap.size := by obtain ⟨C, _, hc⟩ := HD.out.m.hd; exact Yi hc
 have H5 := Yh_ (And.intro hB1.b (And.intro hB1.o (And.intro hB1.u (And.intro e3' (And.intro e2' (And.intro hcb (And.intro hpb hab)))))))
 clear hB1 e3' hall e2' hcb hpb hab
 show wpList _ _ _ _ (Act.put (Yo _ _ [] _) (some 5) (r0 14)) _
 rw [e1']
 simp only [Yo]
 clear e1'
 go_wp2_with (first | (have _t := H5; clear _t; refine Ye 25 rfl ?_; refine Yfa rfl 25 _ _ rfl g 0 (Fl.cells ⟨x0, x1, x2, x3, x4, x5⟩) rfl rfl H5.out.2.2.2.1 (show 0 + 6 ≤ 6 by decide) Yhn (Yk8 _) ?_; intro w6 hw; have h6 := fl_new hw H5.out.2.2.2.1; have hl := H5.out.2.2.2.2; have cg := Ya h6.1; unfold Fl.cells at cg; have H6 := Yh_ (And.intro (H5.out.1.keep h6.2 (by simp; omega) (by simp; omega) (by simp; omega)) (And.intro (h6.2.get H5.out.2.1 (by simp; omega)) (H5.out.2.2.1.also (S' := [g]) h6.2 (by simp; omega)))); clear hw h6 hl H5 ci) | (have _t := H6; clear _t; refine Ye 25 rfl ?_; refine wpList_store_mid rfl 25 _ _ rfl d 10 (Fl.cells ⟨x0, x1, x2, x3, x4, x5⟩) rfl rfl (Ydq H6.out.1.h 10 6 (by rw [Yja]; decide)) Yhn (Yk8 _) ?_; have u7 : Upd [d] w6 (w6.setCells d 10 (Fl.cells ⟨x0, x1, x2, x3, x4, x5⟩).toList) := (Upd.refl [d] w6).setCells (.inl (by simp)) _ _; have hcb := Yi HD.out.h; have hi7 := u7.get H6.out.2.1 (by simp; omega); have ci := Ya hi7; unfold Ins.cells at ci; have H7 := Yh_ (And.intro (H6.out.1.putFl ⟨x0, x1, x2, x3, x4, x5⟩) (H6.out.2.2.also u7 (by simp))); clear u7 hcb hi7 H6 cg) | (have _t := H7; clear _t; go_at_call 49; refine (Yow d a pb _ i M i.a 4 V _ H7.out.1 HI.out.a HVR.out HC.out.2.2.1).mono ?_; rintro e w8 ⟨rfl, hd, hu⟩; have H8 := Yh_ (And.intro hd (H7.out.2.also hu (fun x hx => .inl hx))); clear hd hu H7))
 go_end0
 exact ⟨rfl, H8.out.1, H8.out.2⟩
end
end Go.Proofs.YthakgjpejhjaoaaGreat
