/-
  Parts of the proof (their names shortened by a program). No condition.
-/
import Derived.Test.YtjkolegknpflfaaDoorMg01
import Derived.Test.YtjkolegknpflfaaDoorMg06
import Derived.Test.YtjkolegknpflfaaDoorMg04
import Derived.Deep.Cut
namespace Go.Proofs.YtjkolegknpflfaaDoor
open Go Go.RowKit
set_option linter.unusedVariables false
set_option linter.unusedSimpArgs false
set_option maxRecDepth 100000
set_option maxHeartbeats 16000000
theorem Yhw (a b : Int) (ha : 0 ≤ a ∧ a < 4294967296) (hb : 0 ≤ b ∧ b < 4294967296) : 0 ≤ bits .and .u32 a b ∧ bits .and .u32 a b < 4294967296 := by
 obtain ⟨a, rfl⟩ := Int.eq_ofNat_of_zero_le ha.1
 obtain ⟨b, rfl⟩ := Int.eq_ofNat_of_zero_le hb.1
 rw [u32_and_nat a b (by omega) (by omega)]
 have : a &&& b ≤ a := Nat.and_le_left
 omega
theorem Yht (a b : Int) (ha : 0 ≤ a ∧ a < 4294967296) (hb : 0 ≤ b ∧ b < 4294967296) : 0 ≤ bits .or .u32 a b ∧ bits .or .u32 a b < 4294967296 := by
 obtain ⟨a, rfl⟩ := Int.eq_ofNat_of_zero_le ha.1
 obtain ⟨b, rfl⟩ := Int.eq_ofNat_of_zero_le hb.1
 rw [u32_or_nat a b (by omega) (by omega)]
 have : a ||| b < 2 ^ 32 := Nat.or_lt_two_pow (by omega) (by omega)
 omega
theorem Yh0 (a b : Int) (ha : 0 ≤ a ∧ a < 4294967296) (hb : 0 ≤ b ∧ b < 4294967296) : 0 ≤ bits .xor .u32 a b ∧ bits .xor .u32 a b < 4294967296 := by
 obtain ⟨a, rfl⟩ := Int.eq_ofNat_of_zero_le ha.1
 obtain ⟨b, rfl⟩ := Int.eq_ofNat_of_zero_le hb.1
 rw [u32_xor_nat a b (by omega) (by omega)]
 have : a ^^^ b < 2 ^ 32 := Nat.xor_lt_two_pow (by omega) (by omega)
 omega
structure AlS (w : World) (f : Fl) (w1 : World) : Prop where
 z7 : w1.heap[w.heap.size]? = some (.cells f.cells 25 (0, 0))
 z9 : w1.heap[w.heap.size + 1]? = some (.cells Fl.zero.cells 25 (0, 0))
 z10 : w1.heap[w.heap.size + 1 + 1]? = some (.cells f.cells 25 (0, 0))
 u : Upd [] w w1
theorem AlS.of {w w1 : World} {f : Fl} (hu : Upd [] (((w.alloc (.cells f.cells 25)).alloc (.cells Fl.zero.cells 25)).alloc (.cells f.cells 25)) w1) : AlS w f w1 := by
 have h2 := heap_alloc_new ((w.alloc (.cells f.cells 25)).alloc (.cells Fl.zero.cells 25)) (.cells f.cells 25)
 rw [show ((w.alloc (.cells f.cells 25)).alloc (.cells Fl.zero.cells 25)).heap.size = w.heap.size + 1 + 1 from by simp] at h2
 exact ⟨hu.get (Ym _ (heap_alloc2_old _ _ _)) (by simp), hu.get (Ym _ (heap_alloc2_new _ _ _)) (by simp), hu.get h2 (by simp), ((((Upd.refl [] w).alloc _).alloc _).alloc _).also hu (by simp)⟩
structure AlE (w : World) (f : Fl) (w1 : World) : Prop where
 r7 : w1.heap[w.heap.size]? = some (.cells f.cells 25 (0, 0))
 r9 : w1.heap[w.heap.size + 1]? = some (.cells Fl.zero.cells 25 (0, 0))
 u : Upd [] w w1
theorem AlE.drew {w w1 : World} {f : Fl} (h : AlE w f w1) : AlE w f w1.drew := by
 have u := (Upd.refl [] w1).drew
 exact ⟨u.get h.r7 (by simp), u.get h.r9 (by simp), h.u.drew⟩
theorem AlS.st {w w1 : World} {f : Fl} (h : AlS w f w1) (x0 x1 x2 x3 x4 x5 : Bool) : AlE w ⟨x0, x1, x2, x3, x4, x5⟩ ((((((w1.setCell ⟨w.heap.size, 0, none⟩ (.bool x0)).setCell ⟨w.heap.size, 1, none⟩ (.bool x1)).setCell ⟨w.heap.size, 2, none⟩ (.bool x2)).setCell ⟨w.heap.size, 3, none⟩ (.bool x3)).setCell ⟨w.heap.size, 4, none⟩ (.bool x4)).setCell ⟨w.heap.size, 5, none⟩ (.bool x5)) :=
 ⟨Yam h.z7 _ _ _ _ _ _, (Yt (S := [w.heap.size]) (Upd.refl _ w1) (.inl (by simp)) _ _ _ _ _ _).get h.z9 (by simp), Yt h.u (.inr (Nat.le_refl _)) _ _ _ _ _ _⟩
theorem AlE.cf {w w1 : World} {f : Fl} (h : AlE w f w1) (x : Bool) : AlE w { f with cf := x } (w1.setCell ⟨w.heap.size, 0, none⟩ (.bool x)) :=
 ⟨Yf h.r7 0 (.bool x), ((Upd.refl [w.heap.size] w1).setCell (p := ⟨w.heap.size, 0, none⟩) (.inl (by simp)) (.bool x)).get h.r9 (by simp), h.u.setCell (p := ⟨w.heap.size, 0, none⟩) (.inr (Nat.le_refl _)) _⟩
theorem AlE.start {w : World} {f : Fl} : AlE w f (((w.alloc (.cells f.cells 25)).alloc (.cells Fl.zero.cells 25)).alloc (.cells f.cells 25)) :=
 ⟨(AlS.of (Upd.refl [] _)).z7, (AlS.of (Upd.refl [] _)).z9, (AlS.of (Upd.refl [] _)).u⟩
theorem aluDo_3 (a b : Int) (f : Fl) (w : World) (ha : 0 ≤ a ∧ a < 4294967296) (hb : 0 ≤ b ∧ b < 4294967296) :
  Calls Tryd.prog 33 #[.int .i64 3, .int .u32 a, .int .u32 b, .agg f.cells] w fun e w' => e = .returned (.tuple #[.int .u32 (Ya0 3 a b f), .agg (Yar 3 a b f).cells]) ∧ Upd [] w w' := by
 obtain ⟨c, d, e', z, n, o⟩ := f
 have HA := Yh_ (And.intro ha hb)
 obtain ⟨⟨x0, x1, x2, x3, x4, x5⟩, hF⟩ : ∃ F, addF a b false = F := ⟨_, rfl⟩
 have HF := Yh_ hF
 have HV := Yh_ (show Yar 3 a b ⟨c, d, e', z, n, o⟩ = ⟨x0, x1, x2, x3, x4, x5⟩ by simp [Yar, hF])
 clear hF
 have tok : True := trivial
 clear ha hb
 rw [HV.out]
 simp only [Ya0]
 unfold Fl.cells
 go_enter Tryd.func33, Tryd.ntmps33
 go_wp2_with (have _t := tok; clear _t; go_at_call 52; refine (Ygx a b false _ HA.out.1 HA.out.2).mono ?_; rintro e w1 ⟨rfl, hu⟩; rw [HF.out]; unfold Fl.cells; have h1 := AlS.of (f := ⟨c, d, e', z, n, o⟩) hu; have ch := Ya h1.z7; have fh := Yc h1.z7; have c10 := Ya h1.z10; unfold Fl.cells at ch c10; have H1 := Yh_ h1; clear hu h1 tok)
 refine Yx 3 (AlE w ⟨x0, x1, x2, x3, x4, x5⟩) (fun _ _ => False) (by kernel_rfl) (by decide +kernel) ((H1.out.st x0 x1 x2 x3 x4 x5)).drew (fun _ _ _ h => h.elim) ?_
 simp only [List.take_succ_cons, List.take_zero, List.drop_succ_cons, List.drop_zero]
 iterate 3
  apply Yg rfl rfl
  ·intro K hK w5 hB1
   have c7 := Ya hB1.r7
   unfold Fl.cells at c7
   have HB := Yh_ hB1
   clear hB1
   go_wp2_with fail
   first
   |exact hK _ HB.out
   |exact HB.out
  ·exact ⟨_, rfl⟩
 refine Yo (fun _ w5 hB1 => ?_)
 have c9 := Ya hB1.r9
 have f9 := Yc hB1.r9
 unfold Fl.cells Fl.zero at c9
 have HB := Yh_ hB1
 clear hB1
 go_wp2_with fail
 exact bodyPost_ret (Yp rfl (Yk 8 rfl) (Yan 9 (w.heap.size + 1) ⟨x0, x1, x2, x3, x4, x5⟩ rfl (Yam HB.out.r9 _ _ _ _ _ _))) rfl ⟨rfl, Yt HB.out.u (.inr (by omega)) _ _ _ _ _ _⟩
theorem aluDo_5 (a b : Int) (f : Fl) (w : World) (ha : 0 ≤ a ∧ a < 4294967296) (hb : 0 ≤ b ∧ b < 4294967296) :
  Calls Tryd.prog 33 #[.int .i64 5, .int .u32 a, .int .u32 b, .agg f.cells] w fun e w' => e = .returned (.tuple #[.int .u32 (Ya0 5 a b f), .agg (Yar 5 a b f).cells]) ∧ Upd [] w w' := by
 obtain ⟨c, d, e', z, n, o⟩ := f
 have HA := Yh_ (And.intro ha hb)
 obtain ⟨⟨x0, x1, x2, x3, x4, x5⟩, hF⟩ : ∃ F, addF a b c = F := ⟨_, rfl⟩
 have HF := Yh_ hF
 have HV := Yh_ (show Yar 5 a b ⟨c, d, e', z, n, o⟩ = ⟨x0, x1, x2, x3, x4, x5⟩ by simp [Yar, hF])
 clear hF
 have tok : True := trivial
 clear ha hb
 rw [HV.out]
 simp only [Ya0]
 unfold Fl.cells
 go_enter Tryd.func33, Tryd.ntmps33
 go_wp2_with (have _t := tok; clear _t; go_at_call 52; refine (Ygx a b c _ HA.out.1 HA.out.2).mono ?_; rintro e w1 ⟨rfl, hu⟩; rw [HF.out]; unfold Fl.cells; have h1 := AlS.of (f := ⟨c, d, e', z, n, o⟩) hu; have ch := Ya h1.z7; have fh := Yc h1.z7; have c10 := Ya h1.z10; unfold Fl.cells at ch c10; have H1 := Yh_ h1; clear hu h1 tok)
 refine Yx 3 (AlE w ⟨x0, x1, x2, x3, x4, x5⟩) (fun _ _ => False) (by kernel_rfl) (by decide +kernel) ((H1.out.st x0 x1 x2 x3 x4 x5)).drew (fun _ _ _ h => h.elim) ?_
 simp only [List.take_succ_cons, List.take_zero, List.drop_succ_cons, List.drop_zero]
 iterate 3
  apply Yg rfl rfl
  ·intro K hK w5 hB1
   have c7 := Ya hB1.r7
   unfold Fl.cells at c7
   have HB := Yh_ hB1
   clear hB1
   go_wp2_with fail
   first
   |exact hK _ HB.out
   |exact HB.out
  ·exact ⟨_, rfl⟩
 refine Yo (fun _ w5 hB1 => ?_)
 have c9 := Ya hB1.r9
 have f9 := Yc hB1.r9
 unfold Fl.cells Fl.zero at c9
 have HB := Yh_ hB1
 clear hB1
 go_wp2_with fail
 exact bodyPost_ret (Yp rfl (Yk 8 rfl) (Yan 9 (w.heap.size + 1) ⟨x0, x1, x2, x3, x4, x5⟩ rfl (Yam HB.out.r9 _ _ _ _ _ _))) rfl ⟨rfl, Yt HB.out.u (.inr (by omega)) _ _ _ _ _ _⟩
theorem aluDo_8 (a b : Int) (f : Fl) (w : World) (ha : 0 ≤ a ∧ a < 4294967296) (hb : 0 ≤ b ∧ b < 4294967296) :
  Calls Tryd.prog 33 #[.int .i64 8, .int .u32 a, .int .u32 b, .agg f.cells] w fun e w' => e = .returned (.tuple #[.int .u32 (Ya0 8 a b f), .agg (Yar 8 a b f).cells]) ∧ Upd [] w w' := by
 obtain ⟨c, d, e', z, n, o⟩ := f
 have HA := Yh_ (And.intro ha hb)
 obtain ⟨⟨x0, x1, x2, x3, x4, x5⟩, hF⟩ : ∃ F, Ydz a b false = F := ⟨_, rfl⟩
 have HF := Yh_ hF
 have HV := Yh_ (show Yar 8 a b ⟨c, d, e', z, n, o⟩ = ⟨x0, x1, x2, x3, x4, x5⟩ by simp [Yar, hF])
 clear hF
 have tok : True := trivial
 clear ha hb
 rw [HV.out]
 simp only [Ya0]
 unfold Fl.cells
 go_enter Tryd.func33, Tryd.ntmps33
 go_wp2_with (have _t := tok; clear _t; go_at_call 53; refine (Ydq a b false _ HA.out.1 HA.out.2).mono ?_; rintro e w1 ⟨rfl, hu⟩; rw [HF.out]; unfold Fl.cells; have h1 := AlS.of (f := ⟨c, d, e', z, n, o⟩) hu; have ch := Ya h1.z7; have fh := Yc h1.z7; have c10 := Ya h1.z10; unfold Fl.cells at ch c10; have H1 := Yh_ h1; clear hu h1 tok)
 refine Yx 3 (AlE w ⟨x0, x1, x2, x3, x4, x5⟩) (fun _ _ => False) (by kernel_rfl) (by decide +kernel) ((H1.out.st x0 x1 x2 x3 x4 x5)).drew (fun _ _ _ h => h.elim) ?_
 simp only [List.take_succ_cons, List.take_zero, List.drop_succ_cons, List.drop_zero]
 iterate 3
  apply Yg rfl rfl
  ·intro K hK w5 hB1
   have c7 := Ya hB1.r7
   unfold Fl.cells at c7
   have HB := Yh_ hB1
   clear hB1
   go_wp2_with fail
   first
   |exact hK _ HB.out
   |exact HB.out
  ·exact ⟨_, rfl⟩
 refine Yo (fun _ w5 hB1 => ?_)
 have c9 := Ya hB1.r9
 have f9 := Yc hB1.r9
 unfold Fl.cells Fl.zero at c9
 have HB := Yh_ hB1
 clear hB1
 go_wp2_with fail
 exact bodyPost_ret (Yp rfl (Yk 8 rfl) (Yan 9 (w.heap.size + 1) ⟨x0, x1, x2, x3, x4, x5⟩ rfl (Yam HB.out.r9 _ _ _ _ _ _))) rfl ⟨rfl, Yt HB.out.u (.inr (by omega)) _ _ _ _ _ _⟩
theorem aluDo_6 (a b : Int) (f : Fl) (w : World) (ha : 0 ≤ a ∧ a < 4294967296) (hb : 0 ≤ b ∧ b < 4294967296) :
  Calls Tryd.prog 33 #[.int .i64 6, .int .u32 a, .int .u32 b, .agg f.cells] w fun e w' => e = .returned (.tuple #[.int .u32 (Ya0 6 a b f), .agg (Yar 6 a b f).cells]) ∧ Upd [] w w' := by
 obtain ⟨c, d, e', z, n, o⟩ := f
 have HA := Yh_ (And.intro ha hb)
 obtain ⟨⟨x0, x1, x2, x3, x4, x5⟩, hF⟩ : ∃ F, Ydz a b c = F := ⟨_, rfl⟩
 have HF := Yh_ hF
 have HV := Yh_ (show Yar 6 a b ⟨c, d, e', z, n, o⟩ = ⟨x0, x1, x2, x3, x4, x5⟩ by simp [Yar, hF])
 clear hF
 have tok : True := trivial
 clear ha hb
 rw [HV.out]
 simp only [Ya0]
 unfold Fl.cells
 go_enter Tryd.func33, Tryd.ntmps33
 go_wp2_with (have _t := tok; clear _t; go_at_call 53; refine (Ydq a b c _ HA.out.1 HA.out.2).mono ?_; rintro e w1 ⟨rfl, hu⟩; rw [HF.out]; unfold Fl.cells; have h1 := AlS.of (f := ⟨c, d, e', z, n, o⟩) hu; have ch := Ya h1.z7; have fh := Yc h1.z7; have c10 := Ya h1.z10; unfold Fl.cells at ch c10; have H1 := Yh_ h1; clear hu h1 tok)
 refine Yx 3 (AlE w ⟨x0, x1, x2, x3, x4, x5⟩) (fun _ _ => False) (by kernel_rfl) (by decide +kernel) ((H1.out.st x0 x1 x2 x3 x4 x5)).drew (fun _ _ _ h => h.elim) ?_
 simp only [List.take_succ_cons, List.take_zero, List.drop_succ_cons, List.drop_zero]
 iterate 3
  apply Yg rfl rfl
  ·intro K hK w5 hB1
   have c7 := Ya hB1.r7
   unfold Fl.cells at c7
   have HB := Yh_ hB1
   clear hB1
   go_wp2_with fail
   first
   |exact hK _ HB.out
   |exact HB.out
  ·exact ⟨_, rfl⟩
 refine Yo (fun _ w5 hB1 => ?_)
 have c9 := Ya hB1.r9
 have f9 := Yc hB1.r9
 unfold Fl.cells Fl.zero at c9
 have HB := Yh_ hB1
 clear hB1
 go_wp2_with fail
 exact bodyPost_ret (Yp rfl (Yk 8 rfl) (Yan 9 (w.heap.size + 1) ⟨x0, x1, x2, x3, x4, x5⟩ rfl (Yam HB.out.r9 _ _ _ _ _ _))) rfl ⟨rfl, Yt HB.out.u (.inr (by omega)) _ _ _ _ _ _⟩
theorem aluDo_10 (a b : Int) (f : Fl) (w : World) (ha : 0 ≤ a ∧ a < 4294967296) (hb : 0 ≤ b ∧ b < 4294967296) :
  Calls Tryd.prog 33 #[.int .i64 10, .int .u32 a, .int .u32 b, .agg f.cells] w fun e w' => e = .returned (.tuple #[.int .u32 (Ya0 10 a b f), .agg (Yar 10 a b f).cells]) ∧ Upd [] w w' := by
 obtain ⟨c, d, e', z, n, o⟩ := f
 have HA := Yh_ (And.intro ha hb)
 obtain ⟨⟨x0, x1, x2, x3, x4, x5⟩, hF⟩ : ∃ F, Ydz a b false = F := ⟨_, rfl⟩
 have HF := Yh_ hF
 have HV := Yh_ (show Yar 10 a b ⟨c, d, e', z, n, o⟩ = ⟨x0, x1, x2, x3, x4, x5⟩ by simp [Yar, hF])
 clear hF
 have tok : True := trivial
 clear ha hb
 rw [HV.out]
 simp only [Ya0]
 unfold Fl.cells
 go_enter Tryd.func33, Tryd.ntmps33
 go_wp2_with (have _t := tok; clear _t; go_at_call 53; refine (Ydq a b false _ HA.out.1 HA.out.2).mono ?_; rintro e w1 ⟨rfl, hu⟩; rw [HF.out]; unfold Fl.cells; have h1 := AlS.of (f := ⟨c, d, e', z, n, o⟩) hu; have ch := Ya h1.z7; have fh := Yc h1.z7; have c10 := Ya h1.z10; unfold Fl.cells at ch c10; have H1 := Yh_ h1; clear hu h1 tok)
 refine Yx 3 (AlE w ⟨x0, x1, x2, x3, x4, x5⟩) (fun _ _ => False) (by kernel_rfl) (by decide +kernel) ((H1.out.st x0 x1 x2 x3 x4 x5)).drew (fun _ _ _ h => h.elim) ?_
 simp only [List.take_succ_cons, List.take_zero, List.drop_succ_cons, List.drop_zero]
 iterate 3
  apply Yg rfl rfl
  ·intro K hK w5 hB1
   have c7 := Ya hB1.r7
   unfold Fl.cells at c7
   have HB := Yh_ hB1
   clear hB1
   go_wp2_with fail
   first
   |exact hK _ HB.out
   |exact HB.out
  ·exact ⟨_, rfl⟩
 refine Yo (fun _ w5 hB1 => ?_)
 have c9 := Ya hB1.r9
 have f9 := Yc hB1.r9
 unfold Fl.cells Fl.zero at c9
 have HB := Yh_ hB1
 clear hB1
 go_wp2_with fail
 exact bodyPost_ret (Yp rfl (Yk 8 rfl) (Yan 9 (w.heap.size + 1) ⟨x0, x1, x2, x3, x4, x5⟩ rfl (Yam HB.out.r9 _ _ _ _ _ _))) rfl ⟨rfl, Yt HB.out.u (.inr (by omega)) _ _ _ _ _ _⟩
theorem aluDo_12 (a b : Int) (f : Fl) (w : World) (ha : 0 ≤ a ∧ a < 4294967296) (hb : 0 ≤ b ∧ b < 4294967296) :
  Calls Tryd.prog 33 #[.int .i64 12, .int .u32 a, .int .u32 b, .agg f.cells] w fun e w' => e = .returned (.tuple #[.int .u32 (Ya0 12 a b f), .agg (Yar 12 a b f).cells]) ∧ Upd [] w w' := by
 obtain ⟨c, d, e', z, n, o⟩ := f
 have HA := Yh_ (And.intro ha hb)
 obtain ⟨⟨x0, x1, x2, x3, x4, x5⟩, hF⟩ : ∃ F, addF a 1 false = F := ⟨_, rfl⟩
 have HF := Yh_ hF
 have HV := Yh_ (show Yar 12 a b ⟨c, d, e', z, n, o⟩ = ⟨c, x1, x2, x3, x4, x5⟩ by simp [Yar, hF])
 clear hF
 have tok : True := trivial
 clear ha hb
 rw [HV.out]
 simp only [Ya0]
 unfold Fl.cells
 go_enter Tryd.func33, Tryd.ntmps33
 go_wp2_with (have _t := tok; clear _t; go_at_call 52; refine (Ygx a 1 false _ HA.out.1 (by decide)).mono ?_; rintro e w1 ⟨rfl, hu⟩; rw [HF.out]; unfold Fl.cells; have h1 := AlS.of (f := ⟨c, d, e', z, n, o⟩) hu; have ch := Ya h1.z7; have fh := Yc h1.z7; have c10 := Ya h1.z10; unfold Fl.cells at ch c10; have H1 := Yh_ h1; clear hu h1 tok)
 refine Yx 3 (AlE w ⟨c, x1, x2, x3, x4, x5⟩) (fun _ _ => False) (by kernel_rfl) (by decide +kernel) (((H1.out.st x0 x1 x2 x3 x4 x5).cf c)).drew (fun _ _ _ h => h.elim) ?_
 simp only [List.take_succ_cons, List.take_zero, List.drop_succ_cons, List.drop_zero]
 iterate 3
  apply Yg rfl rfl
  ·intro K hK w5 hB1
   have c7 := Ya hB1.r7
   unfold Fl.cells at c7
   have HB := Yh_ hB1
   clear hB1
   go_wp2_with fail
   first
   |exact hK _ HB.out
   |exact HB.out
  ·exact ⟨_, rfl⟩
 refine Yo (fun _ w5 hB1 => ?_)
 have c9 := Ya hB1.r9
 have f9 := Yc hB1.r9
 unfold Fl.cells Fl.zero at c9
 have HB := Yh_ hB1
 clear hB1
 go_wp2_with fail
 exact bodyPost_ret (Yp rfl (Yk 8 rfl) (Yan 9 (w.heap.size + 1) ⟨c, x1, x2, x3, x4, x5⟩ rfl (Yam HB.out.r9 _ _ _ _ _ _))) rfl ⟨rfl, Yt HB.out.u (.inr (by omega)) _ _ _ _ _ _⟩
theorem aluDo_13 (a b : Int) (f : Fl) (w : World) (ha : 0 ≤ a ∧ a < 4294967296) (hb : 0 ≤ b ∧ b < 4294967296) :
  Calls Tryd.prog 33 #[.int .i64 13, .int .u32 a, .int .u32 b, .agg f.cells] w fun e w' => e = .returned (.tuple #[.int .u32 (Ya0 13 a b f), .agg (Yar 13 a b f).cells]) ∧ Upd [] w w' := by
 obtain ⟨c, d, e', z, n, o⟩ := f
 have HA := Yh_ (And.intro ha hb)
 obtain ⟨⟨x0, x1, x2, x3, x4, x5⟩, hF⟩ : ∃ F, Ydz a 1 false = F := ⟨_, rfl⟩
 have HF := Yh_ hF
 have HV := Yh_ (show Yar 13 a b ⟨c, d, e', z, n, o⟩ = ⟨c, x1, x2, x3, x4, x5⟩ by simp [Yar, hF])
 clear hF
 have tok : True := trivial
 clear ha hb
 rw [HV.out]
 simp only [Ya0]
 unfold Fl.cells
 go_enter Tryd.func33, Tryd.ntmps33
 go_wp2_with (have _t := tok; clear _t; go_at_call 53; refine (Ydq a 1 false _ HA.out.1 (by decide)).mono ?_; rintro e w1 ⟨rfl, hu⟩; rw [HF.out]; unfold Fl.cells; have h1 := AlS.of (f := ⟨c, d, e', z, n, o⟩) hu; have ch := Ya h1.z7; have fh := Yc h1.z7; have c10 := Ya h1.z10; unfold Fl.cells at ch c10; have H1 := Yh_ h1; clear hu h1 tok)
 refine Yx 3 (AlE w ⟨c, x1, x2, x3, x4, x5⟩) (fun _ _ => False) (by kernel_rfl) (by decide +kernel) (((H1.out.st x0 x1 x2 x3 x4 x5).cf c)).drew (fun _ _ _ h => h.elim) ?_
 simp only [List.take_succ_cons, List.take_zero, List.drop_succ_cons, List.drop_zero]
 iterate 3
  apply Yg rfl rfl
  ·intro K hK w5 hB1
   have c7 := Ya hB1.r7
   unfold Fl.cells at c7
   have HB := Yh_ hB1
   clear hB1
   go_wp2_with fail
   first
   |exact hK _ HB.out
   |exact HB.out
  ·exact ⟨_, rfl⟩
 refine Yo (fun _ w5 hB1 => ?_)
 have c9 := Ya hB1.r9
 have f9 := Yc hB1.r9
 unfold Fl.cells Fl.zero at c9
 have HB := Yh_ hB1
 clear hB1
 go_wp2_with fail
 exact bodyPost_ret (Yp rfl (Yk 8 rfl) (Yan 9 (w.heap.size + 1) ⟨c, x1, x2, x3, x4, x5⟩ rfl (Yam HB.out.r9 _ _ _ _ _ _))) rfl ⟨rfl, Yt HB.out.u (.inr (by omega)) _ _ _ _ _ _⟩
theorem aluDo_15 (a b : Int) (f : Fl) (w : World) (ha : 0 ≤ a ∧ a < 4294967296) (hb : 0 ≤ b ∧ b < 4294967296) :
  Calls Tryd.prog 33 #[.int .i64 15, .int .u32 a, .int .u32 b, .agg f.cells] w fun e w' => e = .returned (.tuple #[.int .u32 (Ya0 15 a b f), .agg (Yar 15 a b f).cells]) ∧ Upd [] w w' := by
 obtain ⟨c, d, e', z, n, o⟩ := f
 have HA := Yh_ (And.intro ha hb)
 obtain ⟨⟨x0, x1, x2, x3, x4, x5⟩, hF⟩ : ∃ F, Ydz 0 a false = F := ⟨_, rfl⟩
 have HF := Yh_ hF
 have HV := Yh_ (show Yar 15 a b ⟨c, d, e', z, n, o⟩ = ⟨x0, x1, x2, x3, x4, x5⟩ by simp [Yar, hF])
 clear hF
 have tok : True := trivial
 clear ha hb
 rw [HV.out]
 simp only [Ya0]
 unfold Fl.cells
 go_enter Tryd.func33, Tryd.ntmps33
 go_wp2_with (have _t := tok; clear _t; go_at_call 53; refine (Ydq 0 a false _ (by decide) HA.out.1).mono ?_; rintro e w1 ⟨rfl, hu⟩; rw [HF.out]; unfold Fl.cells; have h1 := AlS.of (f := ⟨c, d, e', z, n, o⟩) hu; have ch := Ya h1.z7; have fh := Yc h1.z7; have c10 := Ya h1.z10; unfold Fl.cells at ch c10; have H1 := Yh_ h1; clear hu h1 tok)
 refine Yx 3 (AlE w ⟨x0, x1, x2, x3, x4, x5⟩) (fun _ _ => False) (by kernel_rfl) (by decide +kernel) ((H1.out.st x0 x1 x2 x3 x4 x5)).drew (fun _ _ _ h => h.elim) ?_
 simp only [List.take_succ_cons, List.take_zero, List.drop_succ_cons, List.drop_zero]
 iterate 3
  apply Yg rfl rfl
  ·intro K hK w5 hB1
   have c7 := Ya hB1.r7
   unfold Fl.cells at c7
   have HB := Yh_ hB1
   clear hB1
   go_wp2_with fail
   first
   |exact hK _ HB.out
   |exact HB.out
  ·exact ⟨_, rfl⟩
 refine Yo (fun _ w5 hB1 => ?_)
 have c9 := Ya hB1.r9
 have f9 := Yc hB1.r9
 unfold Fl.cells Fl.zero at c9
 have HB := Yh_ hB1
 clear hB1
 go_wp2_with fail
 exact bodyPost_ret (Yp rfl (Yk 8 rfl) (Yan 9 (w.heap.size + 1) ⟨x0, x1, x2, x3, x4, x5⟩ rfl (Yam HB.out.r9 _ _ _ _ _ _))) rfl ⟨rfl, Yt HB.out.u (.inr (by omega)) _ _ _ _ _ _⟩
theorem aluDo_7 (a b : Int) (f : Fl) (w : World) (ha : 0 ≤ a ∧ a < 4294967296) (hb : 0 ≤ b ∧ b < 4294967296) :
  Calls Tryd.prog 33 #[.int .i64 7, .int .u32 a, .int .u32 b, .agg f.cells] w fun e w' => e = .returned (.tuple #[.int .u32 (Ya0 7 a b f), .agg (Yar 7 a b f).cells]) ∧ Upd [] w w' := by
 obtain ⟨c, d, e', z, n, o⟩ := f
 have HA := Yh_ (And.intro ha hb)
 obtain ⟨⟨x0, x1, x2, x3, x4, x5⟩, hF⟩ : ∃ F, Fl.by Fl.zero (bits .and .u32 a b) = F := ⟨_, rfl⟩
 have HF := Yh_ hF
 have HV := Yh_ (show Yar 7 a b ⟨c, d, e', z, n, o⟩ = ⟨x0, x1, x2, x3, x4, x5⟩ by simp [Yar, hF])
 clear hF
 have tok : True := trivial
 clear ha hb
 rw [HV.out]
 simp only [Ya0]
 unfold Fl.cells
 go_enter Tryd.func33, Tryd.ntmps33
 go_wp2_with (have _t := tok; clear _t; go_at_call 49; refine (Yca Fl.zero (bits .and .u32 a b) _ (Yhw a b HA.out.1 HA.out.2)).mono ?_; rintro e w1 ⟨rfl, hu⟩; rw [HF.out]; unfold Fl.cells; have h1 := AlS.of (f := ⟨c, d, e', z, n, o⟩) hu; have ch := Ya h1.z7; have fh := Yc h1.z7; unfold Fl.cells at ch; have H1 := Yh_ h1; clear hu h1 tok)
 refine Yx 3 (AlE w ⟨x0, x1, x2, x3, x4, x5⟩) (fun _ _ => False) (by kernel_rfl) (by decide +kernel) ((H1.out.st x0 x1 x2 x3 x4 x5)).drew (fun _ _ _ h => h.elim) ?_
 simp only [List.take_succ_cons, List.take_zero, List.drop_succ_cons, List.drop_zero]
 iterate 3
  apply Yg rfl rfl
  ·intro K hK w5 hB1
   have c7 := Ya hB1.r7
   unfold Fl.cells at c7
   have HB := Yh_ hB1
   clear hB1
   go_wp2_with fail
   first
   |exact hK _ HB.out
   |exact HB.out
  ·exact ⟨_, rfl⟩
 refine Yo (fun _ w5 hB1 => ?_)
 have c9 := Ya hB1.r9
 have f9 := Yc hB1.r9
 unfold Fl.cells Fl.zero at c9
 have HB := Yh_ hB1
 clear hB1
 go_wp2_with fail
 exact bodyPost_ret (Yp rfl (Yk 8 rfl) (Yan 9 (w.heap.size + 1) ⟨x0, x1, x2, x3, x4, x5⟩ rfl (Yam HB.out.r9 _ _ _ _ _ _))) rfl ⟨rfl, Yt HB.out.u (.inr (by omega)) _ _ _ _ _ _⟩
theorem aluDo_4 (a b : Int) (f : Fl) (w : World) (ha : 0 ≤ a ∧ a < 4294967296) (hb : 0 ≤ b ∧ b < 4294967296) :
  Calls Tryd.prog 33 #[.int .i64 4, .int .u32 a, .int .u32 b, .agg f.cells] w fun e w' => e = .returned (.tuple #[.int .u32 (Ya0 4 a b f), .agg (Yar 4 a b f).cells]) ∧ Upd [] w w' := by
 obtain ⟨c, d, e', z, n, o⟩ := f
 have HA := Yh_ (And.intro ha hb)
 obtain ⟨⟨x0, x1, x2, x3, x4, x5⟩, hF⟩ : ∃ F, Fl.by Fl.zero (bits .or .u32 a b) = F := ⟨_, rfl⟩
 have HF := Yh_ hF
 have HV := Yh_ (show Yar 4 a b ⟨c, d, e', z, n, o⟩ = ⟨x0, x1, x2, x3, x4, x5⟩ by simp [Yar, hF])
 clear hF
 have tok : True := trivial
 clear ha hb
 rw [HV.out]
 simp only [Ya0]
 unfold Fl.cells
 go_enter Tryd.func33, Tryd.ntmps33
 go_wp2_with (have _t := tok; clear _t; go_at_call 49; refine (Yca Fl.zero (bits .or .u32 a b) _ (Yht a b HA.out.1 HA.out.2)).mono ?_; rintro e w1 ⟨rfl, hu⟩; rw [HF.out]; unfold Fl.cells; have h1 := AlS.of (f := ⟨c, d, e', z, n, o⟩) hu; have ch := Ya h1.z7; have fh := Yc h1.z7; unfold Fl.cells at ch; have H1 := Yh_ h1; clear hu h1 tok)
 refine Yx 3 (AlE w ⟨x0, x1, x2, x3, x4, x5⟩) (fun _ _ => False) (by kernel_rfl) (by decide +kernel) ((H1.out.st x0 x1 x2 x3 x4 x5)).drew (fun _ _ _ h => h.elim) ?_
 simp only [List.take_succ_cons, List.take_zero, List.drop_succ_cons, List.drop_zero]
 iterate 3
  apply Yg rfl rfl
  ·intro K hK w5 hB1
   have c7 := Ya hB1.r7
   unfold Fl.cells at c7
   have HB := Yh_ hB1
   clear hB1
   go_wp2_with fail
   first
   |exact hK _ HB.out
   |exact HB.out
  ·exact ⟨_, rfl⟩
 refine Yo (fun _ w5 hB1 => ?_)
 have c9 := Ya hB1.r9
 have f9 := Yc hB1.r9
 unfold Fl.cells Fl.zero at c9
 have HB := Yh_ hB1
 clear hB1
 go_wp2_with fail
 exact bodyPost_ret (Yp rfl (Yk 8 rfl) (Yan 9 (w.heap.size + 1) ⟨x0, x1, x2, x3, x4, x5⟩ rfl (Yam HB.out.r9 _ _ _ _ _ _))) rfl ⟨rfl, Yt HB.out.u (.inr (by omega)) _ _ _ _ _ _⟩
theorem aluDo_9 (a b : Int) (f : Fl) (w : World) (ha : 0 ≤ a ∧ a < 4294967296) (hb : 0 ≤ b ∧ b < 4294967296) :
  Calls Tryd.prog 33 #[.int .i64 9, .int .u32 a, .int .u32 b, .agg f.cells] w fun e w' => e = .returned (.tuple #[.int .u32 (Ya0 9 a b f), .agg (Yar 9 a b f).cells]) ∧ Upd [] w w' := by
 obtain ⟨c, d, e', z, n, o⟩ := f
 have HA := Yh_ (And.intro ha hb)
 obtain ⟨⟨x0, x1, x2, x3, x4, x5⟩, hF⟩ : ∃ F, Fl.by Fl.zero (bits .xor .u32 a b) = F := ⟨_, rfl⟩
 have HF := Yh_ hF
 have HV := Yh_ (show Yar 9 a b ⟨c, d, e', z, n, o⟩ = ⟨x0, x1, x2, x3, x4, x5⟩ by simp [Yar, hF])
 clear hF
 have tok : True := trivial
 clear ha hb
 rw [HV.out]
 simp only [Ya0]
 unfold Fl.cells
 go_enter Tryd.func33, Tryd.ntmps33
 go_wp2_with (have _t := tok; clear _t; go_at_call 49; refine (Yca Fl.zero (bits .xor .u32 a b) _ (Yh0 a b HA.out.1 HA.out.2)).mono ?_; rintro e w1 ⟨rfl, hu⟩; rw [HF.out]; unfold Fl.cells; have h1 := AlS.of (f := ⟨c, d, e', z, n, o⟩) hu; have ch := Ya h1.z7; have fh := Yc h1.z7; unfold Fl.cells at ch; have H1 := Yh_ h1; clear hu h1 tok)
 refine Yx 3 (AlE w ⟨x0, x1, x2, x3, x4, x5⟩) (fun _ _ => False) (by kernel_rfl) (by decide +kernel) ((H1.out.st x0 x1 x2 x3 x4 x5)).drew (fun _ _ _ h => h.elim) ?_
 simp only [List.take_succ_cons, List.take_zero, List.drop_succ_cons, List.drop_zero]
 iterate 3
  apply Yg rfl rfl
  ·intro K hK w5 hB1
   have c7 := Ya hB1.r7
   unfold Fl.cells at c7
   have HB := Yh_ hB1
   clear hB1
   go_wp2_with fail
   first
   |exact hK _ HB.out
   |exact HB.out
  ·exact ⟨_, rfl⟩
 refine Yo (fun _ w5 hB1 => ?_)
 have c9 := Ya hB1.r9
 have f9 := Yc hB1.r9
 unfold Fl.cells Fl.zero at c9
 have HB := Yh_ hB1
 clear hB1
 go_wp2_with fail
 exact bodyPost_ret (Yp rfl (Yk 8 rfl) (Yan 9 (w.heap.size + 1) ⟨x0, x1, x2, x3, x4, x5⟩ rfl (Yam HB.out.r9 _ _ _ _ _ _))) rfl ⟨rfl, Yt HB.out.u (.inr (by omega)) _ _ _ _ _ _⟩
theorem aluDo_11 (a b : Int) (f : Fl) (w : World) (ha : 0 ≤ a ∧ a < 4294967296) (hb : 0 ≤ b ∧ b < 4294967296) :
  Calls Tryd.prog 33 #[.int .i64 11, .int .u32 a, .int .u32 b, .agg f.cells] w fun e w' => e = .returned (.tuple #[.int .u32 (Ya0 11 a b f), .agg (Yar 11 a b f).cells]) ∧ Upd [] w w' := by
 obtain ⟨c, d, e', z, n, o⟩ := f
 have HA := Yh_ (And.intro ha hb)
 obtain ⟨⟨x0, x1, x2, x3, x4, x5⟩, hF⟩ : ∃ F, Fl.by Fl.zero (bits .and .u32 a b) = F := ⟨_, rfl⟩
 have HF := Yh_ hF
 have HV := Yh_ (show Yar 11 a b ⟨c, d, e', z, n, o⟩ = ⟨x0, x1, x2, x3, x4, x5⟩ by simp [Yar, hF])
 clear hF
 have tok : True := trivial
 clear ha hb
 rw [HV.out]
 simp only [Ya0]
 unfold Fl.cells
 go_enter Tryd.func33, Tryd.ntmps33
 go_wp2_with (have _t := tok; clear _t; go_at_call 49; refine (Yca Fl.zero (bits .and .u32 a b) _ (Yhw a b HA.out.1 HA.out.2)).mono ?_; rintro e w1 ⟨rfl, hu⟩; rw [HF.out]; unfold Fl.cells; have h1 := AlS.of (f := ⟨c, d, e', z, n, o⟩) hu; have ch := Ya h1.z7; have fh := Yc h1.z7; unfold Fl.cells at ch; have H1 := Yh_ h1; clear hu h1 tok)
 refine Yx 3 (AlE w ⟨x0, x1, x2, x3, x4, x5⟩) (fun _ _ => False) (by kernel_rfl) (by decide +kernel) ((H1.out.st x0 x1 x2 x3 x4 x5)).drew (fun _ _ _ h => h.elim) ?_
 simp only [List.take_succ_cons, List.take_zero, List.drop_succ_cons, List.drop_zero]
 iterate 3
  apply Yg rfl rfl
  ·intro K hK w5 hB1
   have c7 := Ya hB1.r7
   unfold Fl.cells at c7
   have HB := Yh_ hB1
   clear hB1
   go_wp2_with fail
   first
   |exact hK _ HB.out
   |exact HB.out
  ·exact ⟨_, rfl⟩
 refine Yo (fun _ w5 hB1 => ?_)
 have c9 := Ya hB1.r9
 have f9 := Yc hB1.r9
 unfold Fl.cells Fl.zero at c9
 have HB := Yh_ hB1
 clear hB1
 go_wp2_with fail
 exact bodyPost_ret (Yp rfl (Yk 8 rfl) (Yan 9 (w.heap.size + 1) ⟨x0, x1, x2, x3, x4, x5⟩ rfl (Yam HB.out.r9 _ _ _ _ _ _))) rfl ⟨rfl, Yt HB.out.u (.inr (by omega)) _ _ _ _ _ _⟩
theorem aluDo_14 (a b : Int) (f : Fl) (w : World) (ha : 0 ≤ a ∧ a < 4294967296) (hb : 0 ≤ b ∧ b < 4294967296) :
  Calls Tryd.prog 33 #[.int .i64 14, .int .u32 a, .int .u32 b, .agg f.cells] w fun e w' => e = .returned (.tuple #[.int .u32 (Ya0 14 a b f), .agg (Yar 14 a b f).cells]) ∧ Upd [] w w' := by
 obtain ⟨c, d, e', z, n, o⟩ := f
 have HA := Yh_ (And.intro ha hb)
 have HV := Yh_ (show Yar 14 a b ⟨c, d, e', z, n, o⟩ = ⟨c, d, e', z, n, o⟩ by simp [Yar])
 have tok : True := trivial
 clear ha hb
 rw [HV.out]
 simp only [Ya0]
 unfold Fl.cells
 go_enter Tryd.func33, Tryd.ntmps33
 go_wp2_with fail
 refine Yx 3 (AlE w ⟨c, d, e', z, n, o⟩) (fun _ _ => False) (by kernel_rfl) (by decide +kernel) (AlE.start).drew (fun _ _ _ h => h.elim) ?_
 simp only [List.take_succ_cons, List.take_zero, List.drop_succ_cons, List.drop_zero]
 iterate 3
  apply Yg rfl rfl
  ·intro K hK w5 hB1
   have c7 := Ya hB1.r7
   unfold Fl.cells at c7
   have HB := Yh_ hB1
   clear hB1
   go_wp2_with fail
   first
   |exact hK _ HB.out
   |exact HB.out
  ·exact ⟨_, rfl⟩
 refine Yo (fun _ w5 hB1 => ?_)
 have c9 := Ya hB1.r9
 have f9 := Yc hB1.r9
 unfold Fl.cells Fl.zero at c9
 have HB := Yh_ hB1
 clear hB1
 go_wp2_with fail
 exact bodyPost_ret (Yp rfl (Yk 8 rfl) (Yan 9 (w.heap.size + 1) ⟨c, d, e', z, n, o⟩ rfl (Yam HB.out.r9 _ _ _ _ _ _))) rfl ⟨rfl, Yt HB.out.u (.inr (by omega)) _ _ _ _ _ _⟩
def Ydr (op : Int) : Bool := (decide (3 ≤ op) && decide (op ≤ 15))
theorem Yid (op a b : Int) (f : Fl) (w : World) (hop : Ydr op = true) (ha : 0 ≤ a ∧ a < 4294967296) (hb : 0 ≤ b ∧ b < 4294967296) :
  Calls Tryd.prog 33 #[.int .i64 op, .int .u32 a, .int .u32 b, .agg f.cells] w fun e w' => e = .returned (.tuple #[.int .u32 (Ya0 op a b f), .agg (Yar op a b f).cells]) ∧ Upd [] w w' := by
 have h : op = 3 ∨ op = 4 ∨ op = 5 ∨ op = 6 ∨ op = 7 ∨ op = 8 ∨ op = 9 ∨ op = 10 ∨ op = 11 ∨ op = 12 ∨ op = 13 ∨ op = 14 ∨ op = 15 := by
  simp only [Ydr, Bool.and_eq_true, decide_eq_true_eq] at hop
  omega
 rcases h with rfl | rfl | rfl | rfl | rfl | rfl | rfl | rfl | rfl | rfl | rfl | rfl | rfl
 ·exact aluDo_3 a b f w ha hb
 ·exact aluDo_4 a b f w ha hb
 ·exact aluDo_5 a b f w ha hb
 ·exact aluDo_6 a b f w ha hb
 ·exact aluDo_7 a b f w ha hb
 ·exact aluDo_8 a b f w ha hb
 ·exact aluDo_9 a b f w ha hb
 ·exact aluDo_10 a b f w ha hb
 ·exact aluDo_11 a b f w ha hb
 ·exact aluDo_12 a b f w ha hb
 ·exact aluDo_13 a b f w ha hb
 ·exact aluDo_14 a b f w ha hb
 ·exact aluDo_15 a b f w ha hb
theorem Yfc (op a b : Int) (f : Fl) (ha : 0 ≤ a ∧ a < 4294967296) (hb : 0 ≤ b ∧ b < 4294967296) : 0 ≤ Ya0 op a b f ∧ Ya0 op a b f < 4294967296 := by
 unfold Ya0
 repeat' split
 all_goals first | exact Yhd _ _ _ | exact Yhk _ _ _ | exact Yhw a b ha hb | exact Yht a b ha hb | exact Yh0 a b ha hb | exact Yh0 4294967295 a (by decide) ha | exact ha
def condL (f : Fl) : List Bool := [f.of_, f.cf, f.zf, f.cf || f.zf, f.sf, f.pf, f.sf != f.of_, f.zf || (f.sf != f.of_)]
def Yf5 (f : Fl) (c : Int) : Bool := (condL f).getD ((c % 16) / 2).toNat false != ((c % 16) % 2 == 1)
theorem Yi6 (f : Fl) (c : Int) (w : World) :
  Calls Tryd.prog 24 #[.agg f.cells, .int .i64 c] w fun e w' => e = .returned (.bool (Yf5 f c)) ∧ Upd [] w w' := by
 obtain ⟨k, hk⟩ : ∃ k, c % 16 = k := ⟨_, rfl⟩
 have hv : Yf5 f c = ((condL f).getD (k / 2).toNat false != (k % 2 == 1)) := by rw [Yf5, hk]
 rw [hv]
 have hr : 0 ≤ k ∧ k < 16 := by omega
 have e1 := Int.tdiv_eq_ediv_of_nonneg (b := 2) hr.1
 have e2 := Int.tmod_eq_emod_of_nonneg (b := 2) hr.1
 have hb : 0 ≤ k / 2 ∧ k / 2 < 8 := by omega
 have hL : ∀ (y0 y1 y2 y3 y4 y5 y6 y7 : Bool) (h : (k / 2).toNat < [Value.bool y0, .bool y1, .bool y2, .bool y3, .bool y4, .bool y5, .bool y6, .bool y7].length), [Value.bool y0, .bool y1, .bool y2, .bool y3, .bool y4, .bool y5, .bool y6, .bool y7][(k / 2).toNat]'h = .bool ([y0, y1, y2, y3, y4, y5, y6, y7].getD (k / 2).toNat false) := by
  intro y0 y1 y2 y3 y4 y5 y6 y7 h
  generalize (k / 2).toNat = q at h ⊢
  match q, h with
  |0, _ => rfl | 1, _ => rfl | 2, _ => rfl | 3, _ => rfl | 4, _ => rfl | 5, _ => rfl | 6, _ => rfl | 7, _ => rfl
  |n + 8, h => exact absurd h (by simp)
 have w1 : wrap64 (k / 2) = k / 2 := by unfold wrap64; omega
 have HK := Yh_ hk
 clear hk hv hr
 obtain ⟨x0, x1, x2, x3, x4, x5⟩ := f
 cases x0 <;> cases x3
 all_goals
  unfold Fl.cells
  go_enter Tryd.func24, Tryd.ntmps24
  go_wp2_with (go_at_call 34; refine (smod_any c _ 16 (by decide) (by decide)).mono ?_; rintro e w4 ⟨rfl, rfl⟩; rw [show c % ((16 : Nat) : Int) = _ from HK.out])
  go_ret
  refine ⟨congrArg (fun b => Ending.returned (.bool b)) ?_, ?_⟩
  ·have hq : (k / 2).toNat < 8 := by omega
   have e9 : ∀ (l : List Bool) (h : (k / 2).toNat < l.length), l[(k / 2).toNat]'h = l.getD (k / 2).toNat false := fun l h => by simp [h]
   simp only [e9]
   clear hL HK e1 e2 hb w1 e9
   generalize (k / 2).toNat = q at hq ⊢
   generalize (k % 2 == 1) = t
   revert q t x1 x2 x4 x5
   decide +kernel
  ·exact ((Upd.refl [] w).alloc _).alloc _
structure Mi.In (x : Mi) : Prop where
 t : 0 ≤ x.t ∧ x.t < 64
 a : 0 ≤ x.a ∧ x.a < 64
 b : 0 ≤ x.b ∧ x.b < 64
 c : 0 ≤ x.c ∧ x.c < 64
 n : 0 ≤ x.n ∧ x.n < 4294967296
def Yef (b : Bool) : Int := if b = true then 1 else 0
theorem Yfo (b : Bool) : 0 ≤ Yef b ∧ Yef b < 4294967296 := by cases b <;> decide
theorem Yik (b : Bool) (w : World) : Calls Tryd.prog 22 #[.bool b] w fun e w' => e = .returned (.int .u32 (Yef b)) ∧ w = w' := by
 cases b
 all_goals
  go_enter Tryd.func22, Tryd.ntmps22
  go_wp2
  go_ret
  exact ⟨rfl, rfl⟩
structure MB (w : World) (d ma M0 : Nat) (r : Rn) (C : Array Value) (w1 : World) : Prop where
 m : w1.heap[M0]? = some (.cells C 35 (0, 0))
 r : Ys w1 d ma r
 u : Upd [] w w1
theorem MB.step {w w1 w2 : World} {d ma M0 : Nat} {r : Rn} {C : Array Value} (h : MB w d ma M0 r C w1) (u : Upd [] w1 w2) : MB w d ma M0 r C w2 := ⟨u.get h.m (by simp), h.r.keep u (by simp), h.u.also u (by simp)⟩
theorem Ys.rs {w : World} {d ma : Nat} {r : Rn} (h : Ys w d ma r) : w.rangeAt d 1 r.s.cells.toList := fun j u hu => by
 have hj : j < 17 := by have := (List.getElem?_eq_some_iff.1 hu).1; rwa [St.len] at this
 rw [h.cell, Ycl _ _ _ hj, ← Array.getElem?_toList]; exact hu
theorem Ys.rf {w : World} {d ma : Nat} {r : Rn} (h : Ys w d ma r) : w.rangeAt d 10 r.s.fl.cells.toList := fun j u hu => by
 have hj : j < 6 := by have := (List.getElem?_eq_some_iff.1 hu).1; exact this
 rw [h.cell, show 10 + j = 1 + (9 + j) by omega, Ycl _ _ _ (by omega), ← hu]
 match j, hj with
 |0, _ => rfl
 |1, _ => rfl
 |2, _ => rfl
 |3, _ => rfl
 |4, _ => rfl
 |5, _ => rfl
theorem rn_putP (a : Nat) (r : Rn) (s' : St) : wr (Ye a r) 18 s'.cells.toList = Ye a { r with p := s' } := by
 have hl : 18 + s'.cells.toList.length ≤ (Ye a r).size := by rw [Yb4, St.len]; decide
 refine Yg9 (by rw [Yhv, Yb4]) ?_ (fun i hi => ?_) (fun i hi => ?_) (fun i hi => ?_)
 ·rw [Ycc _ _ _ _ hl, if_neg (by omega), rn_a]
 ·rw [Ycc _ _ _ _ hl, if_neg (by omega), Ycl a r i hi]
 ·rw [Ycc _ _ _ _ hl, St.len, if_pos (by omega), show 18 + i - 18 = i by omega, Array.getElem?_toList]
 ·rw [Ycc _ _ _ _ hl, St.len, if_neg (by omega), Yah a r i hi]
theorem Ys.putP {w w' : World} {d ma : Nat} {r : Rn} (h : Ys w d ma r) (hw : w.setCells d 18 r.s.cells.toList = w') : Ys w' d ma { r with p := r.s } := by
 subst hw
 exact ⟨by rw [Yad _ _ _ _ h.h, rn_putP], h.ok.s, h.ok.s, h.ok.T⟩
def Ydb (s : St) (n : Int) : Bool := if n = 0 then s.cf else if n = 1 then s.pf else if n = 2 then s.af else if n = 3 then s.zf else if n = 4 then s.sf else if n = 5 then s.of_ else s.df
theorem Ye5 {w : World} {b : Nat} {s : St} {T : TypeId} (h : w.heap[b]? = some (.cells s.cells T (0, 0))) : w.rangeAt b 9 s.fl.cells.toList := fun j u hu => by
 have hj : j < 6 := by have := (List.getElem?_eq_some_iff.1 hu).1; exact this
 rw [Ya h, ← hu]
 match j, hj with
 |0, _ => rfl
 |1, _ => rfl
 |2, _ => rfl
 |3, _ => rfl
 |4, _ => rfl
 |5, _ => rfl
theorem Yit (s : St) (n : Int) (hn : 0 ≤ n ∧ n < 7) (w : World) : Calls Tryd.prog 23 #[.agg s.cells, .int .u32 n] w fun e w' => e = .returned (.bool (Ydb s n)) ∧ Upd [] w w' := by
 have H := Yh_ (heap_alloc_new w (.cells s.cells 28))
 have hdf : s.cells[15]? = some (.bool s.df) := rfl
 have hn7 : n = 0 ∨ n = 1 ∨ n = 2 ∨ n = 3 ∨ n = 4 ∨ n = 5 ∨ n = 6 := by omega
 clear hn
 rcases hn7 with rfl | rfl | rfl | rfl | rfl | rfl | rfl
 ·have hix : ∀ w, (Instr.index 82 (.agg #[.bool s.cf, .bool s.pf, .bool s.af, .bool s.zf, .bool s.sf, .bool s.of_, .bool s.df]) (.int .u32 0)).run Tryd.prog w = .ok (.bool (Ydb s 0)) w := fun w => by kernel_rfl
  go_enter Tryd.func23, Tryd.ntmps23
  go_wp2_with (first
   |(refine Yaa 25 rfl ?_; refine Yl rfl 25 _ rfl w.heap.size 9 rfl #[.bool s.cf, .bool s.pf, .bool s.af, .bool s.zf, .bool s.sf, .bool s.of_] _ (Ye5 H.out) Tryd.underlying25 rfl Yao ?_))
  go_ret
  exact ⟨rfl, ((Upd.refl [] w).alloc _).alloc _⟩
 ·have hix : ∀ w, (Instr.index 82 (.agg #[.bool s.cf, .bool s.pf, .bool s.af, .bool s.zf, .bool s.sf, .bool s.of_, .bool s.df]) (.int .u32 1)).run Tryd.prog w = .ok (.bool (Ydb s 1)) w := fun w => by kernel_rfl
  go_enter Tryd.func23, Tryd.ntmps23
  go_wp2_with (first
   |(refine Yaa 25 rfl ?_; refine Yl rfl 25 _ rfl w.heap.size 9 rfl #[.bool s.cf, .bool s.pf, .bool s.af, .bool s.zf, .bool s.sf, .bool s.of_] _ (Ye5 H.out) Tryd.underlying25 rfl Yao ?_))
  go_ret
  exact ⟨rfl, ((Upd.refl [] w).alloc _).alloc _⟩
 ·have hix : ∀ w, (Instr.index 82 (.agg #[.bool s.cf, .bool s.pf, .bool s.af, .bool s.zf, .bool s.sf, .bool s.of_, .bool s.df]) (.int .u32 2)).run Tryd.prog w = .ok (.bool (Ydb s 2)) w := fun w => by kernel_rfl
  go_enter Tryd.func23, Tryd.ntmps23
  go_wp2_with (first
   |(refine Yaa 25 rfl ?_; refine Yl rfl 25 _ rfl w.heap.size 9 rfl #[.bool s.cf, .bool s.pf, .bool s.af, .bool s.zf, .bool s.sf, .bool s.of_] _ (Ye5 H.out) Tryd.underlying25 rfl Yao ?_))
  go_ret
  exact ⟨rfl, ((Upd.refl [] w).alloc _).alloc _⟩
 ·have hix : ∀ w, (Instr.index 82 (.agg #[.bool s.cf, .bool s.pf, .bool s.af, .bool s.zf, .bool s.sf, .bool s.of_, .bool s.df]) (.int .u32 3)).run Tryd.prog w = .ok (.bool (Ydb s 3)) w := fun w => by kernel_rfl
  go_enter Tryd.func23, Tryd.ntmps23
  go_wp2_with (first
   |(refine Yaa 25 rfl ?_; refine Yl rfl 25 _ rfl w.heap.size 9 rfl #[.bool s.cf, .bool s.pf, .bool s.af, .bool s.zf, .bool s.sf, .bool s.of_] _ (Ye5 H.out) Tryd.underlying25 rfl Yao ?_))
  go_ret
  exact ⟨rfl, ((Upd.refl [] w).alloc _).alloc _⟩
 ·have hix : ∀ w, (Instr.index 82 (.agg #[.bool s.cf, .bool s.pf, .bool s.af, .bool s.zf, .bool s.sf, .bool s.of_, .bool s.df]) (.int .u32 4)).run Tryd.prog w = .ok (.bool (Ydb s 4)) w := fun w => by kernel_rfl
  go_enter Tryd.func23, Tryd.ntmps23
  go_wp2_with (first
   |(refine Yaa 25 rfl ?_; refine Yl rfl 25 _ rfl w.heap.size 9 rfl #[.bool s.cf, .bool s.pf, .bool s.af, .bool s.zf, .bool s.sf, .bool s.of_] _ (Ye5 H.out) Tryd.underlying25 rfl Yao ?_))
  go_ret
  exact ⟨rfl, ((Upd.refl [] w).alloc _).alloc _⟩
 ·have hix : ∀ w, (Instr.index 82 (.agg #[.bool s.cf, .bool s.pf, .bool s.af, .bool s.zf, .bool s.sf, .bool s.of_, .bool s.df]) (.int .u32 5)).run Tryd.prog w = .ok (.bool (Ydb s 5)) w := fun w => by kernel_rfl
  go_enter Tryd.func23, Tryd.ntmps23
  go_wp2_with (first
   |(refine Yaa 25 rfl ?_; refine Yl rfl 25 _ rfl w.heap.size 9 rfl #[.bool s.cf, .bool s.pf, .bool s.af, .bool s.zf, .bool s.sf, .bool s.of_] _ (Ye5 H.out) Tryd.underlying25 rfl Yao ?_))
  go_ret
  exact ⟨rfl, ((Upd.refl [] w).alloc _).alloc _⟩
 ·have hix : ∀ w, (Instr.index 82 (.agg #[.bool s.cf, .bool s.pf, .bool s.af, .bool s.zf, .bool s.sf, .bool s.of_, .bool s.df]) (.int .u32 6)).run Tryd.prog w = .ok (.bool (Ydb s 6)) w := fun w => by kernel_rfl
  go_enter Tryd.func23, Tryd.ntmps23
  go_wp2_with (first
   |(refine Yaa 25 rfl ?_; refine Yl rfl 25 _ rfl w.heap.size 9 rfl #[.bool s.cf, .bool s.pf, .bool s.af, .bool s.zf, .bool s.sf, .bool s.of_] _ (Ye5 H.out) Tryd.underlying25 rfl Yao ?_))
  go_ret
  exact ⟨rfl, ((Upd.refl [] w).alloc _).alloc _⟩
end Go.Proofs.YtjkolegknpflfaaDoor
