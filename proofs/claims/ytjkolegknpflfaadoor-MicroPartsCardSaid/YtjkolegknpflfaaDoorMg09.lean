/-
  Parts of the proof (their names shortened by a program). No condition.
-/
import Derived.Test.YtjkolegknpflfaaDoorMg01
import Derived.Test.YtjkolegknpflfaaDoorMg07
import Derived.Test.YtjkolegknpflfaaDoorMg05
import Derived.Test.YtjkolegknpflfaaDoorMg06
import Derived.Test.YtjkolegknpflfaaDoorMg08
namespace Go.Proofs.YtjkolegknpflfaaDoor
open Go Go.RowKit
set_option linter.unusedVariables false
set_option linter.unusedSimpArgs false
set_option maxRecDepth 100000
set_option maxHeartbeats 16000000
section
def Yaf (x n : Int) : Bool := x / 2 ^ n.toNat % 2 == 1
theorem Yeh (x : Int) (n : Nat) (hx : 0 ≤ x ∧ x < 4294967296) : 0 ≤ x / 2 ^ n ∧ x / 2 ^ n < 4294967296 := by
 have h2 : (0 : Int) < 2 ^ n := Int.pow_pos (by decide)
 exact ⟨Int.ediv_nonneg hx.1 (Int.le_of_lt h2), Int.lt_of_le_of_lt (Int.ediv_le_self _ hx.1) hx.2⟩
theorem Ya3 (x n : Int) (w : World) (hx : 0 ≤ x ∧ x < 4294967296) (hn : 0 ≤ n ∧ n < 32) :
  Calls Tryd.prog 48 #[.int .u32 x, .int .u32 n] w fun e w' => e = .returned (.bool (Yaf x n)) ∧ w = w' := by
 have h1 := Yeh x n.toNat hx
 have e1 : bits .and .u32 (x / 2 ^ n.toNat) 1 = x / 2 ^ n.toNat % 2 := Yj8 _ h1.1 h1.2
 clear h1 hx
 go_enter Tryd.func48, Tryd.ntmps48
 go_wp2_with fail
 go_ret
 exact ⟨rfl, rfl⟩
def shlI (a n : Int) : Int := a * 2 ^ n.toNat % 4294967296
def shV (op a n : Int) : Int :=
 if op = 23 then shlI a n else if op = 24 then a / 2 ^ n.toNat else if op = 25 then wrap32 a / 2 ^ n.toNat % 4294967296
 else if op = 21 then bits .or .u32 (shlI a n) (a / 2 ^ (32 - n).toNat) else bits .or .u32 (a / 2 ^ n.toNat) (shlI a (32 - n))
def shC (op a n : Int) : Bool :=
 if op = 23 then Yaf a (32 - n) else if op = 24 ∨ op = 25 then Yaf a (n - 1) else if op = 21 then Yaf (shV 21 a n) 0 else Yaf (shV 22 a n) 31
def shO (op a n : Int) : Bool :=
 if op = 23 ∨ op = 21 then Yaf (shV op a n) 31 != shC op a n else if op = 24 then Yaf a 31 else if op = 25 then false else shC 22 a n != Yaf (shV 22 a n) 30
def Ydw (op a n : Int) (f : Fl) : Fl := { f with cf := shC op a n, of_ := if n = 1 then shO op a n else f.of_ }
def shF (op a n : Int) (f : Fl) : Fl := if op = 23 ∨ op = 24 ∨ op = 25 then (Ydw op a n f).by (shV op a n) else Ydw op a n f
theorem Ye6 (a n : Int) : 0 ≤ shlI a n ∧ shlI a n < 4294967296 := by unfold shlI; omega
theorem Ybg (op a n : Int) (ha : 0 ≤ a ∧ a < 4294967296) : 0 ≤ shV op a n ∧ shV op a n < 4294967296 := by
 unfold shV
 split
 ·exact Ye6 a n
 ·split
  ·exact Yeh a _ ha
  ·split
   ·omega
   ·split
    ·exact Yht _ _ (Ye6 a n) (Yeh a _ ha)
    ·exact Yht _ _ (Yeh a _ ha) (Ye6 a _)
structure AlW (w : World) (f g : Fl) (w1 : World) : Prop where
 z7 : w1.heap[w.heap.size]? = some (.cells f.cells 25 (0, 0))
 z9 : w1.heap[w.heap.size + 1]? = some (.cells Fl.zero.cells 25 (0, 0))
 z10 : w1.heap[w.heap.size + 1 + 1]? = some (.cells g.cells 25 (0, 0))
 u : Upd [] w w1
section
variable {w w1 w2 : World} {f g : Fl}
theorem AlW.of (w : World) (f g : Fl) : AlW w f g (((w.alloc (.cells f.cells 25)).alloc (.cells Fl.zero.cells 25)).alloc (.cells g.cells 25)) := by
 have h2 := heap_alloc_new ((w.alloc (.cells f.cells 25)).alloc (.cells Fl.zero.cells 25)) (.cells g.cells 25)
 rw [show ((w.alloc (.cells f.cells 25)).alloc (.cells Fl.zero.cells 25)).heap.size = w.heap.size + 1 + 1 from by simp] at h2
 exact ⟨Ym _ (heap_alloc2_old _ _ _), Ym _ (heap_alloc2_new _ _ _), h2, (((Upd.refl [] w).alloc _).alloc _).alloc _⟩
theorem AlW.drew (h : AlW w f g w1) : AlW w f g w1.drew := by
 have u := (Upd.refl [] w1).drew
 exact ⟨u.get h.z7 (by simp), u.get h.z9 (by simp), u.get h.z10 (by simp), h.u.drew⟩
theorem AlW.quiet (h : AlW w f g w1) (u : Upd [] w1 w2) : AlW w f g w2 := ⟨u.get h.z7 (by simp), u.get h.z9 (by simp), u.get h.z10 (by simp), h.u.also u (by simp)⟩
theorem AlW.put (h : AlW w f g w1) (k : Nat) (x : Bool) (f' : Fl) (he : f.cells.setIfInBounds k (.bool x) = f'.cells) : AlW w f' g (w1.setCell ⟨w.heap.size, k, none⟩ (.bool x)) := by
 have u := (Upd.refl [w.heap.size] w1).setCell (p := ⟨w.heap.size, k, none⟩) (.inl (by simp)) (.bool x)
 exact ⟨by rw [← he]; exact Yf h.z7 k (.bool x), u.get h.z9 (by simp), u.get h.z10 (by simp <;> omega), h.u.setCell (p := ⟨w.heap.size, k, none⟩) (.inr (Nat.le_refl _)) _⟩
theorem AlW.st (h : AlW w f g w1) (x0 x1 x2 x3 x4 x5 : Bool) : AlW w ⟨x0, x1, x2, x3, x4, x5⟩ g ((((((w1.setCell ⟨w.heap.size, 0, none⟩ (.bool x0)).setCell ⟨w.heap.size, 1, none⟩ (.bool x1)).setCell ⟨w.heap.size, 2, none⟩ (.bool x2)).setCell ⟨w.heap.size, 3, none⟩ (.bool x3)).setCell ⟨w.heap.size, 4, none⟩ (.bool x4)).setCell ⟨w.heap.size, 5, none⟩ (.bool x5)) := by
 have u := Yt (S := [w.heap.size]) (b := w.heap.size) (Upd.refl _ w1) (.inl (by simp)) (.bool x0) (.bool x1) (.bool x2) (.bool x3) (.bool x4) (.bool x5)
 exact ⟨Yam h.z7 _ _ _ _ _ _, u.get h.z9 (by simp), u.get h.z10 (by simp <;> omega), Yt h.u (.inr (Nat.le_refl _)) _ _ _ _ _ _⟩
end
theorem Yjq (a m n : Int) (f : Fl) (w : World) (ha : 0 ≤ a ∧ a < 4294967296) (hm : 0 ≤ m) (hn : m % 32 = n) (h1 : n = 1) :
  Calls Tryd.prog 31 #[.int .i64 23, .int .u32 a, .int .u32 m, .agg f.cells] w fun e w' => e = .returned (.tuple #[.int .u32 (shV 23 a n), .agg (shF 23 a n f).cells]) ∧ Upd [] w w' := by
 obtain ⟨c, d, e', z, n', o⟩ := f
 have hn1 : 1 ≤ n ∧ n < 32 := by omega
 have HN := Yh_ (And.intro hn1 ha)
 have e0 : m.tmod 32 = n := by rw [Int.tmod_eq_emod_of_nonneg hm]; exact hn
 have e00 : m % 32 = n := hn
 have ez : (n == 0) = false := by simp; omega
 have e32 : (32 - n) % 4294967296 = 32 - n := by omega
 have em1 : (n - 1) % 4294967296 = n - 1 := by omega
 have el1 : decide (n < 32) = true := by simp; omega
 have el2 : decide (32 - n < 32) = true := by simp; omega
 obtain ⟨R, hR⟩ : ∃ R, a * 2 ^ n.toNat % 4294967296 = R := ⟨_, rfl⟩
 have HR := Yh_ (show shV 23 a n = R from hR)
 have HRR := Yh_ (show 0 ≤ R ∧ R < 4294967296 from hR ▸ Ybg 23 a n ha)
 obtain ⟨C, hC⟩ : ∃ C, Yaf a (32 - n) = C := ⟨_, rfl⟩
 have HC := Yh_ hC
 have HF := Yh_ (show shF 23 a n ⟨c, d, e', z, n', o⟩ = ⟨C, Ybd R, e', R == 0, decide (2147483648 ≤ R), (Yaf R 31 != C)⟩ by
  have h1' : shC 23 a n = C := by rw [← hC]; simp [shC, HR.out]
  have h2' : shO 23 a n = (Yaf R 31 != C) := by simp [shO, HR.out, h1']
  simp only [shF, Ydw, HR.out, h1', h2']
  rw [if_pos h1]
  simp [Fl.by])
 have en : (n == 1) = true := by simpa using h1
 have en2 : (n != 1) = false := by simpa using h1
 clear hC hn hn1 hm ha
 clear h1
 rw [HR.out, HF.out]
 have tokA : True := trivial
 have tokB : True := trivial
 unfold Fl.cells
 go_enter Tryd.func31, Tryd.ntmps31
 go_wp2_with (first | (have _t := tokA; clear _t tokA; go_at_call 48; refine (Ya3 a (32 - n) _ HN.out.2 (by have := HN.out.1; omega)).mono ?_; rintro e w6 ⟨rfl, rfl⟩; rw [HC.out]))
 refine Yx 6 (AlW w ⟨C, d, e', z, n', o⟩ ⟨c, d, e', z, n', o⟩) (fun _ _ => False) (by kernel_rfl) (by decide +kernel) (AlW.of w ⟨C, d, e', z, n', o⟩ ⟨c, d, e', z, n', o⟩).drew (fun _ _ _ h => h.elim) ?_
 simp only [List.take_succ_cons, List.take_zero, List.drop_succ_cons, List.drop_zero]
 iterate 1
  apply Yg rfl rfl
  ·intro K hK w5 hB1
   have c7 := Ya hB1.z7; unfold Fl.cells at c7
   have HB := Yh_ hB1
   clear hB1
   go_wp2_with fail
   first
   |exact hK _ HB.out
   |exact HB.out
  ·exact ⟨_, rfl⟩
 apply Yg rfl rfl
 ·intro K hK w5 hB1
  have HB := Yh_ hB1
  clear hB1
  go_wp2_with (go_at_call 48; refine (Ya3 R 31 _ HRR.out (by decide)).mono ?_; rintro e w6 ⟨rfl, rfl⟩)
  first
  |exact hK _ HB.out
  |exact HB.out
 ·exact ⟨_, rfl⟩
 iterate 4
  apply Yg rfl rfl
  ·intro K hK w5 hB1
   have c7 := Ya hB1.z7; unfold Fl.cells at c7
   have HB := Yh_ hB1
   clear hB1
   go_wp2_with fail
   first
   |exact hK _ HB.out
   |exact HB.out
  ·exact ⟨_, rfl⟩
 refine Yo (fun _ w6 hB1 => ?_)
 have c7 := Ya hB1.z7
 have f7 := Yc hB1.z7
 have c10 := Ya hB1.z10
 unfold Fl.cells at c7 c10
 have H5 := Yh_ hB1
 clear hB1
 have tokY : True := trivial
 go_wp2_with (first | (have _t := tokY; have H6 := Yh_ (H5.out.put 5 ((Yaf R 31 != C)) ⟨C, d, e', z, n', (Yaf R 31 != C)⟩ rfl); have _t := tokY; clear _t tokY; go_at_call 49; refine (Yca ⟨C, d, e', z, n', (Yaf R 31 != C)⟩ R _ HRR.out).mono ?_; rintro e w7 ⟨rfl, hu⟩; have H7 := Yh_ (H6.out.quiet hu); simp only [Fl.by]; unfold Fl.cells; have c7 := Ya H7.out.z7; have f7 := Yc H7.out.z7; unfold Fl.cells at c7; clear hu H6))
 refine Yx 3 (AlW w ⟨C, Ybd R, e', R == 0, decide (2147483648 ≤ R), (Yaf R 31 != C)⟩ ⟨c, d, e', z, n', o⟩) (fun _ _ => False) (by kernel_rfl) (by decide +kernel) (H7.out.st C (Ybd R) e' (R == 0) (decide (2147483648 ≤ R)) ((Yaf R 31 != C))).drew (fun _ _ _ h => h.elim) ?_
 simp only [List.take_succ_cons, List.take_zero, List.drop_succ_cons, List.drop_zero]
 iterate 3
  apply Yg rfl rfl
  ·intro K hK w5 hB1
   have c7 := Ya hB1.z7; unfold Fl.cells at c7
   have HB := Yh_ hB1
   clear hB1
   go_wp2_with fail
   first
   |exact hK _ HB.out
   |exact HB.out
  ·exact ⟨_, rfl⟩
 refine Yo (fun _ w9 hB1 => ?_)
 have c9 := Ya hB1.z9
 have f9 := Yc hB1.z9
 unfold Fl.cells Fl.zero at c9
 have HZ := Yh_ hB1
 clear hB1
 go_wp2_with fail
 exact bodyPost_ret (Yp rfl (Yk 8 rfl) (Yan 9 (w.heap.size + 1) ⟨C, Ybd R, e', R == 0, decide (2147483648 ≤ R), (Yaf R 31 != C)⟩ rfl (Yam HZ.out.z9 _ _ _ _ _ _))) rfl ⟨rfl, Yt HZ.out.u (.inr (by omega)) _ _ _ _ _ _⟩
theorem Yir (a m n : Int) (f : Fl) (w : World) (ha : 0 ≤ a ∧ a < 4294967296) (hm : 0 ≤ m) (hn : m % 32 = n) (h1 : 1 < n) :
  Calls Tryd.prog 31 #[.int .i64 23, .int .u32 a, .int .u32 m, .agg f.cells] w fun e w' => e = .returned (.tuple #[.int .u32 (shV 23 a n), .agg (shF 23 a n f).cells]) ∧ Upd [] w w' := by
 obtain ⟨c, d, e', z, n', o⟩ := f
 have hn1 : 1 ≤ n ∧ n < 32 := by omega
 have HN := Yh_ (And.intro hn1 ha)
 have e0 : m.tmod 32 = n := by rw [Int.tmod_eq_emod_of_nonneg hm]; exact hn
 have e00 : m % 32 = n := hn
 have ez : (n == 0) = false := by simp; omega
 have e32 : (32 - n) % 4294967296 = 32 - n := by omega
 have em1 : (n - 1) % 4294967296 = n - 1 := by omega
 have el1 : decide (n < 32) = true := by simp; omega
 have el2 : decide (32 - n < 32) = true := by simp; omega
 obtain ⟨R, hR⟩ : ∃ R, a * 2 ^ n.toNat % 4294967296 = R := ⟨_, rfl⟩
 have HR := Yh_ (show shV 23 a n = R from hR)
 have HRR := Yh_ (show 0 ≤ R ∧ R < 4294967296 from hR ▸ Ybg 23 a n ha)
 obtain ⟨C, hC⟩ : ∃ C, Yaf a (32 - n) = C := ⟨_, rfl⟩
 have HC := Yh_ hC
 have HF := Yh_ (show shF 23 a n ⟨c, d, e', z, n', o⟩ = ⟨C, Ybd R, e', R == 0, decide (2147483648 ≤ R), o⟩ by
  have h1' : shC 23 a n = C := by rw [← hC]; simp [shC, HR.out]
  have h2' : shO 23 a n = (Yaf R 31 != C) := by simp [shO, HR.out, h1']
  simp only [shF, Ydw, HR.out, h1', h2']
  rw [if_neg (show ¬ n = 1 by omega)]
  simp [Fl.by])
 have en : (n == 1) = false := by simp; omega
 have en2 : (n != 1) = true := by simp; omega
 clear hC hn hn1 hm ha
 clear h1
 rw [HR.out, HF.out]
 have tokA : True := trivial
 have tokB : True := trivial
 unfold Fl.cells
 go_enter Tryd.func31, Tryd.ntmps31
 go_wp2_with (first | (have _t := tokA; clear _t tokA; go_at_call 48; refine (Ya3 a (32 - n) _ HN.out.2 (by have := HN.out.1; omega)).mono ?_; rintro e w6 ⟨rfl, rfl⟩; rw [HC.out]))
 refine Yx 6 (AlW w ⟨C, d, e', z, n', o⟩ ⟨c, d, e', z, n', o⟩) (fun _ _ => False) (by kernel_rfl) (by decide +kernel) (AlW.of w ⟨C, d, e', z, n', o⟩ ⟨c, d, e', z, n', o⟩).drew (fun _ _ _ h => h.elim) ?_
 simp only [List.take_succ_cons, List.take_zero, List.drop_succ_cons, List.drop_zero]
 iterate 1
  apply Yg rfl rfl
  ·intro K hK w5 hB1
   have c7 := Ya hB1.z7; unfold Fl.cells at c7
   have HB := Yh_ hB1
   clear hB1
   go_wp2_with fail
   first
   |exact hK _ HB.out
   |exact HB.out
  ·exact ⟨_, rfl⟩
 apply Yg rfl rfl
 ·intro K hK w5 hB1
  have HB := Yh_ hB1
  clear hB1
  go_wp2_with (go_at_call 48; refine (Ya3 R 31 _ HRR.out (by decide)).mono ?_; rintro e w6 ⟨rfl, rfl⟩)
  first
  |exact hK _ HB.out
  |exact HB.out
 ·exact ⟨_, rfl⟩
 iterate 4
  apply Yg rfl rfl
  ·intro K hK w5 hB1
   have c7 := Ya hB1.z7; unfold Fl.cells at c7
   have HB := Yh_ hB1
   clear hB1
   go_wp2_with fail
   first
   |exact hK _ HB.out
   |exact HB.out
  ·exact ⟨_, rfl⟩
 refine Yo (fun _ w6 hB1 => ?_)
 have c7 := Ya hB1.z7
 have f7 := Yc hB1.z7
 have c10 := Ya hB1.z10
 unfold Fl.cells at c7 c10
 have H5 := Yh_ hB1
 clear hB1
 have tokY : True := trivial
 go_wp2_with (first | (have _t := tokY; have H6 := Yh_ ((H5.out.put 5 ((Yaf R 31 != C)) ⟨C, d, e', z, n', (Yaf R 31 != C)⟩ rfl).put 5 o ⟨C, d, e', z, n', o⟩ rfl); have _t := tokY; clear _t tokY; go_at_call 49; refine (Yca ⟨C, d, e', z, n', o⟩ R _ HRR.out).mono ?_; rintro e w7 ⟨rfl, hu⟩; have H7 := Yh_ (H6.out.quiet hu); simp only [Fl.by]; unfold Fl.cells; have c7 := Ya H7.out.z7; have f7 := Yc H7.out.z7; unfold Fl.cells at c7; clear hu H6))
 refine Yx 3 (AlW w ⟨C, Ybd R, e', R == 0, decide (2147483648 ≤ R), o⟩ ⟨c, d, e', z, n', o⟩) (fun _ _ => False) (by kernel_rfl) (by decide +kernel) (H7.out.st C (Ybd R) e' (R == 0) (decide (2147483648 ≤ R)) (o)).drew (fun _ _ _ h => h.elim) ?_
 simp only [List.take_succ_cons, List.take_zero, List.drop_succ_cons, List.drop_zero]
 iterate 3
  apply Yg rfl rfl
  ·intro K hK w5 hB1
   have c7 := Ya hB1.z7; unfold Fl.cells at c7
   have HB := Yh_ hB1
   clear hB1
   go_wp2_with fail
   first
   |exact hK _ HB.out
   |exact HB.out
  ·exact ⟨_, rfl⟩
 refine Yo (fun _ w9 hB1 => ?_)
 have c9 := Ya hB1.z9
 have f9 := Yc hB1.z9
 unfold Fl.cells Fl.zero at c9
 have HZ := Yh_ hB1
 clear hB1
 go_wp2_with fail
 exact bodyPost_ret (Yp rfl (Yk 8 rfl) (Yan 9 (w.heap.size + 1) ⟨C, Ybd R, e', R == 0, decide (2147483648 ≤ R), o⟩ rfl (Yam HZ.out.z9 _ _ _ _ _ _))) rfl ⟨rfl, Yt HZ.out.u (.inr (by omega)) _ _ _ _ _ _⟩
theorem Yjo (a m n : Int) (f : Fl) (w : World) (ha : 0 ≤ a ∧ a < 4294967296) (hm : 0 ≤ m) (hn : m % 32 = n) (h1 : n = 1) :
  Calls Tryd.prog 31 #[.int .i64 24, .int .u32 a, .int .u32 m, .agg f.cells] w fun e w' => e = .returned (.tuple #[.int .u32 (shV 24 a n), .agg (shF 24 a n f).cells]) ∧ Upd [] w w' := by
 obtain ⟨c, d, e', z, n', o⟩ := f
 have hn1 : 1 ≤ n ∧ n < 32 := by omega
 have HN := Yh_ (And.intro hn1 ha)
 have e0 : m.tmod 32 = n := by rw [Int.tmod_eq_emod_of_nonneg hm]; exact hn
 have e00 : m % 32 = n := hn
 have ez : (n == 0) = false := by simp; omega
 have e32 : (32 - n) % 4294967296 = 32 - n := by omega
 have em1 : (n - 1) % 4294967296 = n - 1 := by omega
 have el1 : decide (n < 32) = true := by simp; omega
 have el2 : decide (32 - n < 32) = true := by simp; omega
 obtain ⟨R, hR⟩ : ∃ R, a / 2 ^ n.toNat = R := ⟨_, rfl⟩
 have HR := Yh_ (show shV 24 a n = R from hR)
 have HRR := Yh_ (show 0 ≤ R ∧ R < 4294967296 from hR ▸ Ybg 24 a n ha)
 obtain ⟨C, hC⟩ : ∃ C, Yaf a (n - 1) = C := ⟨_, rfl⟩
 have HC := Yh_ hC
 have HF := Yh_ (show shF 24 a n ⟨c, d, e', z, n', o⟩ = ⟨C, Ybd R, e', R == 0, decide (2147483648 ≤ R), Yaf a 31⟩ by
  have h1' : shC 24 a n = C := by rw [← hC]; simp [shC, HR.out]
  have h2' : shO 24 a n = Yaf a 31 := by simp [shO, HR.out, h1']
  simp only [shF, Ydw, HR.out, h1', h2']
  rw [if_pos h1]
  simp [Fl.by])
 have en : (n == 1) = true := by simpa using h1
 have en2 : (n != 1) = false := by simpa using h1
 clear hC hn hn1 hm ha
 clear h1
 rw [HR.out, HF.out]
 have tokA : True := trivial
 have tokB : True := trivial
 unfold Fl.cells
 go_enter Tryd.func31, Tryd.ntmps31
 have tokY : True := trivial
 go_wp2_with (first | (have _t := tokA; clear _t tokA; go_at_call 48; refine (Ya3 a (n - 1) _ HN.out.2 (by have := HN.out.1; omega)).mono ?_; rintro e w6 ⟨rfl, rfl⟩; rw [HC.out]) | (have _t := tokB; clear _t tokB; go_at_call 48; refine (Ya3 a 31 _ HN.out.2 (by decide)).mono ?_; rintro e w6 ⟨rfl, rfl⟩) | (have _t := tokY; have H6 := Yh_ (AlW.of w ⟨C, d, e', z, n', Yaf a 31⟩ ⟨c, d, e', z, n', o⟩); have _t := tokY; clear _t tokY; go_at_call 49; refine (Yca ⟨C, d, e', z, n', Yaf a 31⟩ R _ HRR.out).mono ?_; rintro e w7 ⟨rfl, hu⟩; have H7 := Yh_ (H6.out.quiet hu); simp only [Fl.by]; unfold Fl.cells; have c7 := Ya H7.out.z7; have f7 := Yc H7.out.z7; unfold Fl.cells at c7; clear hu H6))
 refine Yx 3 (AlW w ⟨C, Ybd R, e', R == 0, decide (2147483648 ≤ R), Yaf a 31⟩ ⟨c, d, e', z, n', o⟩) (fun _ _ => False) (by kernel_rfl) (by decide +kernel) (H7.out.st C (Ybd R) e' (R == 0) (decide (2147483648 ≤ R)) (Yaf a 31)).drew (fun _ _ _ h => h.elim) ?_
 simp only [List.take_succ_cons, List.take_zero, List.drop_succ_cons, List.drop_zero]
 iterate 3
  apply Yg rfl rfl
  ·intro K hK w5 hB1
   have c7 := Ya hB1.z7; unfold Fl.cells at c7
   have HB := Yh_ hB1
   clear hB1
   go_wp2_with fail
   first
   |exact hK _ HB.out
   |exact HB.out
  ·exact ⟨_, rfl⟩
 refine Yo (fun _ w9 hB1 => ?_)
 have c9 := Ya hB1.z9
 have f9 := Yc hB1.z9
 unfold Fl.cells Fl.zero at c9
 have HZ := Yh_ hB1
 clear hB1
 go_wp2_with fail
 exact bodyPost_ret (Yp rfl (Yk 8 rfl) (Yan 9 (w.heap.size + 1) ⟨C, Ybd R, e', R == 0, decide (2147483648 ≤ R), Yaf a 31⟩ rfl (Yam HZ.out.z9 _ _ _ _ _ _))) rfl ⟨rfl, Yt HZ.out.u (.inr (by omega)) _ _ _ _ _ _⟩
theorem Yin (a m n : Int) (f : Fl) (w : World) (ha : 0 ≤ a ∧ a < 4294967296) (hm : 0 ≤ m) (hn : m % 32 = n) (h1 : 1 < n) :
  Calls Tryd.prog 31 #[.int .i64 24, .int .u32 a, .int .u32 m, .agg f.cells] w fun e w' => e = .returned (.tuple #[.int .u32 (shV 24 a n), .agg (shF 24 a n f).cells]) ∧ Upd [] w w' := by
 obtain ⟨c, d, e', z, n', o⟩ := f
 have hn1 : 1 ≤ n ∧ n < 32 := by omega
 have HN := Yh_ (And.intro hn1 ha)
 have e0 : m.tmod 32 = n := by rw [Int.tmod_eq_emod_of_nonneg hm]; exact hn
 have e00 : m % 32 = n := hn
 have ez : (n == 0) = false := by simp; omega
 have e32 : (32 - n) % 4294967296 = 32 - n := by omega
 have em1 : (n - 1) % 4294967296 = n - 1 := by omega
 have el1 : decide (n < 32) = true := by simp; omega
 have el2 : decide (32 - n < 32) = true := by simp; omega
 obtain ⟨R, hR⟩ : ∃ R, a / 2 ^ n.toNat = R := ⟨_, rfl⟩
 have HR := Yh_ (show shV 24 a n = R from hR)
 have HRR := Yh_ (show 0 ≤ R ∧ R < 4294967296 from hR ▸ Ybg 24 a n ha)
 obtain ⟨C, hC⟩ : ∃ C, Yaf a (n - 1) = C := ⟨_, rfl⟩
 have HC := Yh_ hC
 have HF := Yh_ (show shF 24 a n ⟨c, d, e', z, n', o⟩ = ⟨C, Ybd R, e', R == 0, decide (2147483648 ≤ R), o⟩ by
  have h1' : shC 24 a n = C := by rw [← hC]; simp [shC, HR.out]
  have h2' : shO 24 a n = Yaf a 31 := by simp [shO, HR.out, h1']
  simp only [shF, Ydw, HR.out, h1', h2']
  rw [if_neg (show ¬ n = 1 by omega)]
  simp [Fl.by])
 have en : (n == 1) = false := by simp; omega
 have en2 : (n != 1) = true := by simp; omega
 clear hC hn hn1 hm ha
 clear h1
 rw [HR.out, HF.out]
 have tokA : True := trivial
 have tokB : True := trivial
 unfold Fl.cells
 go_enter Tryd.func31, Tryd.ntmps31
 have tokY : True := trivial
 go_wp2_with (first | (have _t := tokA; clear _t tokA; go_at_call 48; refine (Ya3 a (n - 1) _ HN.out.2 (by have := HN.out.1; omega)).mono ?_; rintro e w6 ⟨rfl, rfl⟩; rw [HC.out]) | (have _t := tokB; clear _t tokB; go_at_call 48; refine (Ya3 a 31 _ HN.out.2 (by decide)).mono ?_; rintro e w6 ⟨rfl, rfl⟩) | (have _t := tokY; have H6 := Yh_ (AlW.of w ⟨C, d, e', z, n', o⟩ ⟨c, d, e', z, n', o⟩); have _t := tokY; clear _t tokY; go_at_call 49; refine (Yca ⟨C, d, e', z, n', o⟩ R _ HRR.out).mono ?_; rintro e w7 ⟨rfl, hu⟩; have H7 := Yh_ (H6.out.quiet hu); simp only [Fl.by]; unfold Fl.cells; have c7 := Ya H7.out.z7; have f7 := Yc H7.out.z7; unfold Fl.cells at c7; clear hu H6))
 refine Yx 3 (AlW w ⟨C, Ybd R, e', R == 0, decide (2147483648 ≤ R), o⟩ ⟨c, d, e', z, n', o⟩) (fun _ _ => False) (by kernel_rfl) (by decide +kernel) (H7.out.st C (Ybd R) e' (R == 0) (decide (2147483648 ≤ R)) (o)).drew (fun _ _ _ h => h.elim) ?_
 simp only [List.take_succ_cons, List.take_zero, List.drop_succ_cons, List.drop_zero]
 iterate 3
  apply Yg rfl rfl
  ·intro K hK w5 hB1
   have c7 := Ya hB1.z7; unfold Fl.cells at c7
   have HB := Yh_ hB1
   clear hB1
   go_wp2_with fail
   first
   |exact hK _ HB.out
   |exact HB.out
  ·exact ⟨_, rfl⟩
 refine Yo (fun _ w9 hB1 => ?_)
 have c9 := Ya hB1.z9
 have f9 := Yc hB1.z9
 unfold Fl.cells Fl.zero at c9
 have HZ := Yh_ hB1
 clear hB1
 go_wp2_with fail
 exact bodyPost_ret (Yp rfl (Yk 8 rfl) (Yan 9 (w.heap.size + 1) ⟨C, Ybd R, e', R == 0, decide (2147483648 ≤ R), o⟩ rfl (Yam HZ.out.z9 _ _ _ _ _ _))) rfl ⟨rfl, Yt HZ.out.u (.inr (by omega)) _ _ _ _ _ _⟩
theorem Yiw (a m n : Int) (f : Fl) (w : World) (ha : 0 ≤ a ∧ a < 4294967296) (hm : 0 ≤ m) (hn : m % 32 = n) (h1 : n = 1) :
  Calls Tryd.prog 31 #[.int .i64 25, .int .u32 a, .int .u32 m, .agg f.cells] w fun e w' => e = .returned (.tuple #[.int .u32 (shV 25 a n), .agg (shF 25 a n f).cells]) ∧ Upd [] w w' := by
 obtain ⟨c, d, e', z, n', o⟩ := f
 have hn1 : 1 ≤ n ∧ n < 32 := by omega
 have HN := Yh_ (And.intro hn1 ha)
 have e0 : m.tmod 32 = n := by rw [Int.tmod_eq_emod_of_nonneg hm]; exact hn
 have e00 : m % 32 = n := hn
 have ez : (n == 0) = false := by simp; omega
 have e32 : (32 - n) % 4294967296 = 32 - n := by omega
 have em1 : (n - 1) % 4294967296 = n - 1 := by omega
 have el1 : decide (n < 32) = true := by simp; omega
 have el2 : decide (32 - n < 32) = true := by simp; omega
 obtain ⟨R, hR⟩ : ∃ R, wrap32 a / 2 ^ n.toNat % 4294967296 = R := ⟨_, rfl⟩
 have HR := Yh_ (show shV 25 a n = R from hR)
 have HRR := Yh_ (show 0 ≤ R ∧ R < 4294967296 from hR ▸ Ybg 25 a n ha)
 obtain ⟨C, hC⟩ : ∃ C, Yaf a (n - 1) = C := ⟨_, rfl⟩
 have HC := Yh_ hC
 have HF := Yh_ (show shF 25 a n ⟨c, d, e', z, n', o⟩ = ⟨C, Ybd R, e', R == 0, decide (2147483648 ≤ R), false⟩ by
  have h1' : shC 25 a n = C := by rw [← hC]; simp [shC, HR.out]
  have h2' : shO 25 a n = false := by simp [shO, HR.out, h1']
  simp only [shF, Ydw, HR.out, h1', h2']
  rw [if_pos h1]
  simp [Fl.by])
 have en : (n == 1) = true := by simpa using h1
 have en2 : (n != 1) = false := by simpa using h1
 clear hC hn hn1 hm ha
 clear h1
 rw [HR.out, HF.out]
 have tokA : True := trivial
 have tokB : True := trivial
 unfold Fl.cells
 go_enter Tryd.func31, Tryd.ntmps31
 have tokY : True := trivial
 go_wp2_with (first | (have _t := tokA; clear _t tokA; go_at_call 48; refine (Ya3 a (n - 1) _ HN.out.2 (by have := HN.out.1; omega)).mono ?_; rintro e w6 ⟨rfl, rfl⟩; rw [HC.out]) | (have _t := tokY; have H6 := Yh_ (AlW.of w ⟨C, d, e', z, n', false⟩ ⟨c, d, e', z, n', o⟩); have _t := tokY; clear _t tokY; go_at_call 49; refine (Yca ⟨C, d, e', z, n', false⟩ R _ HRR.out).mono ?_; rintro e w7 ⟨rfl, hu⟩; have H7 := Yh_ (H6.out.quiet hu); simp only [Fl.by]; unfold Fl.cells; have c7 := Ya H7.out.z7; have f7 := Yc H7.out.z7; unfold Fl.cells at c7; clear hu H6))
 refine Yx 3 (AlW w ⟨C, Ybd R, e', R == 0, decide (2147483648 ≤ R), false⟩ ⟨c, d, e', z, n', o⟩) (fun _ _ => False) (by kernel_rfl) (by decide +kernel) (H7.out.st C (Ybd R) e' (R == 0) (decide (2147483648 ≤ R)) (false)).drew (fun _ _ _ h => h.elim) ?_
 simp only [List.take_succ_cons, List.take_zero, List.drop_succ_cons, List.drop_zero]
 iterate 3
  apply Yg rfl rfl
  ·intro K hK w5 hB1
   have c7 := Ya hB1.z7; unfold Fl.cells at c7
   have HB := Yh_ hB1
   clear hB1
   go_wp2_with fail
   first
   |exact hK _ HB.out
   |exact HB.out
  ·exact ⟨_, rfl⟩
 refine Yo (fun _ w9 hB1 => ?_)
 have c9 := Ya hB1.z9
 have f9 := Yc hB1.z9
 unfold Fl.cells Fl.zero at c9
 have HZ := Yh_ hB1
 clear hB1
 go_wp2_with fail
 exact bodyPost_ret (Yp rfl (Yk 8 rfl) (Yan 9 (w.heap.size + 1) ⟨C, Ybd R, e', R == 0, decide (2147483648 ≤ R), false⟩ rfl (Yam HZ.out.z9 _ _ _ _ _ _))) rfl ⟨rfl, Yt HZ.out.u (.inr (by omega)) _ _ _ _ _ _⟩
theorem Yip (a m n : Int) (f : Fl) (w : World) (ha : 0 ≤ a ∧ a < 4294967296) (hm : 0 ≤ m) (hn : m % 32 = n) (h1 : 1 < n) :
  Calls Tryd.prog 31 #[.int .i64 25, .int .u32 a, .int .u32 m, .agg f.cells] w fun e w' => e = .returned (.tuple #[.int .u32 (shV 25 a n), .agg (shF 25 a n f).cells]) ∧ Upd [] w w' := by
 obtain ⟨c, d, e', z, n', o⟩ := f
 have hn1 : 1 ≤ n ∧ n < 32 := by omega
 have HN := Yh_ (And.intro hn1 ha)
 have e0 : m.tmod 32 = n := by rw [Int.tmod_eq_emod_of_nonneg hm]; exact hn
 have e00 : m % 32 = n := hn
 have ez : (n == 0) = false := by simp; omega
 have e32 : (32 - n) % 4294967296 = 32 - n := by omega
 have em1 : (n - 1) % 4294967296 = n - 1 := by omega
 have el1 : decide (n < 32) = true := by simp; omega
 have el2 : decide (32 - n < 32) = true := by simp; omega
 obtain ⟨R, hR⟩ : ∃ R, wrap32 a / 2 ^ n.toNat % 4294967296 = R := ⟨_, rfl⟩
 have HR := Yh_ (show shV 25 a n = R from hR)
 have HRR := Yh_ (show 0 ≤ R ∧ R < 4294967296 from hR ▸ Ybg 25 a n ha)
 obtain ⟨C, hC⟩ : ∃ C, Yaf a (n - 1) = C := ⟨_, rfl⟩
 have HC := Yh_ hC
 have HF := Yh_ (show shF 25 a n ⟨c, d, e', z, n', o⟩ = ⟨C, Ybd R, e', R == 0, decide (2147483648 ≤ R), o⟩ by
  have h1' : shC 25 a n = C := by rw [← hC]; simp [shC, HR.out]
  have h2' : shO 25 a n = false := by simp [shO, HR.out, h1']
  simp only [shF, Ydw, HR.out, h1', h2']
  rw [if_neg (show ¬ n = 1 by omega)]
  simp [Fl.by])
 have en : (n == 1) = false := by simp; omega
 have en2 : (n != 1) = true := by simp; omega
 clear hC hn hn1 hm ha
 clear h1
 rw [HR.out, HF.out]
 have tokA : True := trivial
 have tokB : True := trivial
 unfold Fl.cells
 go_enter Tryd.func31, Tryd.ntmps31
 have tokY : True := trivial
 go_wp2_with (first | (have _t := tokA; clear _t tokA; go_at_call 48; refine (Ya3 a (n - 1) _ HN.out.2 (by have := HN.out.1; omega)).mono ?_; rintro e w6 ⟨rfl, rfl⟩; rw [HC.out]) | (have _t := tokY; have H6 := Yh_ (AlW.of w ⟨C, d, e', z, n', o⟩ ⟨c, d, e', z, n', o⟩); have _t := tokY; clear _t tokY; go_at_call 49; refine (Yca ⟨C, d, e', z, n', o⟩ R _ HRR.out).mono ?_; rintro e w7 ⟨rfl, hu⟩; have H7 := Yh_ (H6.out.quiet hu); simp only [Fl.by]; unfold Fl.cells; have c7 := Ya H7.out.z7; have f7 := Yc H7.out.z7; unfold Fl.cells at c7; clear hu H6))
 refine Yx 3 (AlW w ⟨C, Ybd R, e', R == 0, decide (2147483648 ≤ R), o⟩ ⟨c, d, e', z, n', o⟩) (fun _ _ => False) (by kernel_rfl) (by decide +kernel) (H7.out.st C (Ybd R) e' (R == 0) (decide (2147483648 ≤ R)) (o)).drew (fun _ _ _ h => h.elim) ?_
 simp only [List.take_succ_cons, List.take_zero, List.drop_succ_cons, List.drop_zero]
 iterate 3
  apply Yg rfl rfl
  ·intro K hK w5 hB1
   have c7 := Ya hB1.z7; unfold Fl.cells at c7
   have HB := Yh_ hB1
   clear hB1
   go_wp2_with fail
   first
   |exact hK _ HB.out
   |exact HB.out
  ·exact ⟨_, rfl⟩
 refine Yo (fun _ w9 hB1 => ?_)
 have c9 := Ya hB1.z9
 have f9 := Yc hB1.z9
 unfold Fl.cells Fl.zero at c9
 have HZ := Yh_ hB1
 clear hB1
 go_wp2_with fail
 exact bodyPost_ret (Yp rfl (Yk 8 rfl) (Yan 9 (w.heap.size + 1) ⟨C, Ybd R, e', R == 0, decide (2147483648 ≤ R), o⟩ rfl (Yam HZ.out.z9 _ _ _ _ _ _))) rfl ⟨rfl, Yt HZ.out.u (.inr (by omega)) _ _ _ _ _ _⟩
theorem Yi5 (a m n : Int) (f : Fl) (w : World) (ha : 0 ≤ a ∧ a < 4294967296) (hm : 0 ≤ m) (hn : m % 32 = n) (h1 : n = 1) :
  Calls Tryd.prog 31 #[.int .i64 21, .int .u32 a, .int .u32 m, .agg f.cells] w fun e w' => e = .returned (.tuple #[.int .u32 (shV 21 a n), .agg (shF 21 a n f).cells]) ∧ Upd [] w w' := by
 obtain ⟨c, d, e', z, n', o⟩ := f
 have hn1 : 1 ≤ n ∧ n < 32 := by omega
 have HN := Yh_ (And.intro hn1 ha)
 have e0 : m.tmod 32 = n := by rw [Int.tmod_eq_emod_of_nonneg hm]; exact hn
 have e00 : m % 32 = n := hn
 have ez : (n == 0) = false := by simp; omega
 have e32 : (32 - n) % 4294967296 = 32 - n := by omega
 have em1 : (n - 1) % 4294967296 = n - 1 := by omega
 have el1 : decide (n < 32) = true := by simp; omega
 have el2 : decide (32 - n < 32) = true := by simp; omega
 obtain ⟨R, hR⟩ : ∃ R, bits .or .u32 (a * 2 ^ n.toNat % 4294967296) (a / 2 ^ (32 - n).toNat) = R := ⟨_, rfl⟩
 have HR := Yh_ (show shV 21 a n = R from hR)
 have HRR := Yh_ (show 0 ≤ R ∧ R < 4294967296 from hR ▸ Ybg 21 a n ha)
 obtain ⟨C, hC⟩ : ∃ C, Yaf R 0 = C := ⟨_, rfl⟩
 have HC := Yh_ hC
 have HF := Yh_ (show shF 21 a n ⟨c, d, e', z, n', o⟩ = ⟨C, d, e', z, n', (Yaf R 31 != C)⟩ by
  have h1' : shC 21 a n = C := by rw [← hC]; simp [shC, HR.out]
  have h2' : shO 21 a n = (Yaf R 31 != C) := by simp [shO, HR.out, h1']
  simp only [shF, Ydw, HR.out, h1', h2']
  rw [if_pos h1]
  simp [Fl.by])
 have en : (n == 1) = true := by simpa using h1
 have en2 : (n != 1) = false := by simpa using h1
 clear hC hn hn1 hm ha
 clear h1
 rw [HR.out, HF.out]
 have tokA : True := trivial
 have tokB : True := trivial
 unfold Fl.cells
 go_enter Tryd.func31, Tryd.ntmps31
 go_wp2_with (first | (have _t := tokA; clear _t tokA; go_at_call 48; refine (Ya3 R 0 _ HRR.out (by decide)).mono ?_; rintro e w6 ⟨rfl, rfl⟩; rw [HC.out]))
 refine Yx 6 (AlW w ⟨C, d, e', z, n', o⟩ ⟨c, d, e', z, n', o⟩) (fun _ _ => False) (by kernel_rfl) (by decide +kernel) (AlW.of w ⟨C, d, e', z, n', o⟩ ⟨c, d, e', z, n', o⟩).drew (fun _ _ _ h => h.elim) ?_
 simp only [List.take_succ_cons, List.take_zero, List.drop_succ_cons, List.drop_zero]
 iterate 1
  apply Yg rfl rfl
  ·intro K hK w5 hB1
   have c7 := Ya hB1.z7; unfold Fl.cells at c7
   have HB := Yh_ hB1
   clear hB1
   go_wp2_with fail
   first
   |exact hK _ HB.out
   |exact HB.out
  ·exact ⟨_, rfl⟩
 apply Yg rfl rfl
 ·intro K hK w5 hB1
  have HB := Yh_ hB1
  clear hB1
  go_wp2_with (go_at_call 48; refine (Ya3 R 31 _ HRR.out (by decide)).mono ?_; rintro e w6 ⟨rfl, rfl⟩)
  first
  |exact hK _ HB.out
  |exact HB.out
 ·exact ⟨_, rfl⟩
 iterate 4
  apply Yg rfl rfl
  ·intro K hK w5 hB1
   have c7 := Ya hB1.z7; unfold Fl.cells at c7
   have HB := Yh_ hB1
   clear hB1
   go_wp2_with fail
   first
   |exact hK _ HB.out
   |exact HB.out
  ·exact ⟨_, rfl⟩
 refine Yo (fun _ w6 hB1 => ?_)
 have c7 := Ya hB1.z7
 have f7 := Yc hB1.z7
 have c10 := Ya hB1.z10
 unfold Fl.cells at c7 c10
 have H5 := Yh_ hB1
 clear hB1
 go_wp2_with fail
 refine Yx 3 (AlW w ⟨C, d, e', z, n', (Yaf R 31 != C)⟩ ⟨c, d, e', z, n', o⟩) (fun _ _ => False) (by kernel_rfl) (by decide +kernel) (H5.out.put 5 ((Yaf R 31 != C)) ⟨C, d, e', z, n', (Yaf R 31 != C)⟩ rfl).drew (fun _ _ _ h => h.elim) ?_
 simp only [List.take_succ_cons, List.take_zero, List.drop_succ_cons, List.drop_zero]
 iterate 3
  apply Yg rfl rfl
  ·intro K hK w5 hB1
   have c7 := Ya hB1.z7; unfold Fl.cells at c7
   have HB := Yh_ hB1
   clear hB1
   go_wp2_with fail
   first
   |exact hK _ HB.out
   |exact HB.out
  ·exact ⟨_, rfl⟩
 refine Yo (fun _ w9 hB1 => ?_)
 have c9 := Ya hB1.z9
 have f9 := Yc hB1.z9
 unfold Fl.cells Fl.zero at c9
 have HZ := Yh_ hB1
 clear hB1
 go_wp2_with fail
 exact bodyPost_ret (Yp rfl (Yk 8 rfl) (Yan 9 (w.heap.size + 1) ⟨C, d, e', z, n', (Yaf R 31 != C)⟩ rfl (Yam HZ.out.z9 _ _ _ _ _ _))) rfl ⟨rfl, Yt HZ.out.u (.inr (by omega)) _ _ _ _ _ _⟩
theorem Yiq (a m n : Int) (f : Fl) (w : World) (ha : 0 ≤ a ∧ a < 4294967296) (hm : 0 ≤ m) (hn : m % 32 = n) (h1 : 1 < n) :
  Calls Tryd.prog 31 #[.int .i64 21, .int .u32 a, .int .u32 m, .agg f.cells] w fun e w' => e = .returned (.tuple #[.int .u32 (shV 21 a n), .agg (shF 21 a n f).cells]) ∧ Upd [] w w' := by
 obtain ⟨c, d, e', z, n', o⟩ := f
 have hn1 : 1 ≤ n ∧ n < 32 := by omega
 have HN := Yh_ (And.intro hn1 ha)
 have e0 : m.tmod 32 = n := by rw [Int.tmod_eq_emod_of_nonneg hm]; exact hn
 have e00 : m % 32 = n := hn
 have ez : (n == 0) = false := by simp; omega
 have e32 : (32 - n) % 4294967296 = 32 - n := by omega
 have em1 : (n - 1) % 4294967296 = n - 1 := by omega
 have el1 : decide (n < 32) = true := by simp; omega
 have el2 : decide (32 - n < 32) = true := by simp; omega
 obtain ⟨R, hR⟩ : ∃ R, bits .or .u32 (a * 2 ^ n.toNat % 4294967296) (a / 2 ^ (32 - n).toNat) = R := ⟨_, rfl⟩
 have HR := Yh_ (show shV 21 a n = R from hR)
 have HRR := Yh_ (show 0 ≤ R ∧ R < 4294967296 from hR ▸ Ybg 21 a n ha)
 obtain ⟨C, hC⟩ : ∃ C, Yaf R 0 = C := ⟨_, rfl⟩
 have HC := Yh_ hC
 have HF := Yh_ (show shF 21 a n ⟨c, d, e', z, n', o⟩ = ⟨C, d, e', z, n', o⟩ by
  have h1' : shC 21 a n = C := by rw [← hC]; simp [shC, HR.out]
  have h2' : shO 21 a n = (Yaf R 31 != C) := by simp [shO, HR.out, h1']
  simp only [shF, Ydw, HR.out, h1', h2']
  rw [if_neg (show ¬ n = 1 by omega)]
  simp [Fl.by])
 have en : (n == 1) = false := by simp; omega
 have en2 : (n != 1) = true := by simp; omega
 clear hC hn hn1 hm ha
 clear h1
 rw [HR.out, HF.out]
 have tokA : True := trivial
 have tokB : True := trivial
 unfold Fl.cells
 go_enter Tryd.func31, Tryd.ntmps31
 go_wp2_with (first | (have _t := tokA; clear _t tokA; go_at_call 48; refine (Ya3 R 0 _ HRR.out (by decide)).mono ?_; rintro e w6 ⟨rfl, rfl⟩; rw [HC.out]))
 refine Yx 6 (AlW w ⟨C, d, e', z, n', o⟩ ⟨c, d, e', z, n', o⟩) (fun _ _ => False) (by kernel_rfl) (by decide +kernel) (AlW.of w ⟨C, d, e', z, n', o⟩ ⟨c, d, e', z, n', o⟩).drew (fun _ _ _ h => h.elim) ?_
 simp only [List.take_succ_cons, List.take_zero, List.drop_succ_cons, List.drop_zero]
 iterate 1
  apply Yg rfl rfl
  ·intro K hK w5 hB1
   have c7 := Ya hB1.z7; unfold Fl.cells at c7
   have HB := Yh_ hB1
   clear hB1
   go_wp2_with fail
   first
   |exact hK _ HB.out
   |exact HB.out
  ·exact ⟨_, rfl⟩
 apply Yg rfl rfl
 ·intro K hK w5 hB1
  have HB := Yh_ hB1
  clear hB1
  go_wp2_with (go_at_call 48; refine (Ya3 R 31 _ HRR.out (by decide)).mono ?_; rintro e w6 ⟨rfl, rfl⟩)
  first
  |exact hK _ HB.out
  |exact HB.out
 ·exact ⟨_, rfl⟩
 iterate 4
  apply Yg rfl rfl
  ·intro K hK w5 hB1
   have c7 := Ya hB1.z7; unfold Fl.cells at c7
   have HB := Yh_ hB1
   clear hB1
   go_wp2_with fail
   first
   |exact hK _ HB.out
   |exact HB.out
  ·exact ⟨_, rfl⟩
 refine Yo (fun _ w6 hB1 => ?_)
 have c7 := Ya hB1.z7
 have f7 := Yc hB1.z7
 have c10 := Ya hB1.z10
 unfold Fl.cells at c7 c10
 have H5 := Yh_ hB1
 clear hB1
 go_wp2_with fail
 refine Yx 3 (AlW w ⟨C, d, e', z, n', o⟩ ⟨c, d, e', z, n', o⟩) (fun _ _ => False) (by kernel_rfl) (by decide +kernel) ((H5.out.put 5 ((Yaf R 31 != C)) ⟨C, d, e', z, n', (Yaf R 31 != C)⟩ rfl).put 5 o ⟨C, d, e', z, n', o⟩ rfl).drew (fun _ _ _ h => h.elim) ?_
 simp only [List.take_succ_cons, List.take_zero, List.drop_succ_cons, List.drop_zero]
 iterate 3
  apply Yg rfl rfl
  ·intro K hK w5 hB1
   have c7 := Ya hB1.z7; unfold Fl.cells at c7
   have HB := Yh_ hB1
   clear hB1
   go_wp2_with fail
   first
   |exact hK _ HB.out
   |exact HB.out
  ·exact ⟨_, rfl⟩
 refine Yo (fun _ w9 hB1 => ?_)
 have c9 := Ya hB1.z9
 have f9 := Yc hB1.z9
 unfold Fl.cells Fl.zero at c9
 have HZ := Yh_ hB1
 clear hB1
 go_wp2_with fail
 exact bodyPost_ret (Yp rfl (Yk 8 rfl) (Yan 9 (w.heap.size + 1) ⟨C, d, e', z, n', o⟩ rfl (Yam HZ.out.z9 _ _ _ _ _ _))) rfl ⟨rfl, Yt HZ.out.u (.inr (by omega)) _ _ _ _ _ _⟩
theorem Yjr (a m n : Int) (f : Fl) (w : World) (ha : 0 ≤ a ∧ a < 4294967296) (hm : 0 ≤ m) (hn : m % 32 = n) (h1 : n = 1) :
  Calls Tryd.prog 31 #[.int .i64 22, .int .u32 a, .int .u32 m, .agg f.cells] w fun e w' => e = .returned (.tuple #[.int .u32 (shV 22 a n), .agg (shF 22 a n f).cells]) ∧ Upd [] w w' := by
 obtain ⟨c, d, e', z, n', o⟩ := f
 have hn1 : 1 ≤ n ∧ n < 32 := by omega
 have HN := Yh_ (And.intro hn1 ha)
 have e0 : m.tmod 32 = n := by rw [Int.tmod_eq_emod_of_nonneg hm]; exact hn
 have e00 : m % 32 = n := hn
 have ez : (n == 0) = false := by simp; omega
 have e32 : (32 - n) % 4294967296 = 32 - n := by omega
 have em1 : (n - 1) % 4294967296 = n - 1 := by omega
 have el1 : decide (n < 32) = true := by simp; omega
 have el2 : decide (32 - n < 32) = true := by simp; omega
 obtain ⟨R, hR⟩ : ∃ R, bits .or .u32 (a / 2 ^ n.toNat) (a * 2 ^ (32 - n).toNat % 4294967296) = R := ⟨_, rfl⟩
 have HR := Yh_ (show shV 22 a n = R from hR)
 have HRR := Yh_ (show 0 ≤ R ∧ R < 4294967296 from hR ▸ Ybg 22 a n ha)
 obtain ⟨C, hC⟩ : ∃ C, Yaf R 31 = C := ⟨_, rfl⟩
 have HC := Yh_ hC
 have HF := Yh_ (show shF 22 a n ⟨c, d, e', z, n', o⟩ = ⟨C, d, e', z, n', (C != Yaf R 30)⟩ by
  have h1' : shC 22 a n = C := by rw [← hC]; simp [shC, HR.out]
  have h2' : shO 22 a n = (C != Yaf R 30) := by simp [shO, HR.out, h1', shC, hC]
  simp only [shF, Ydw, HR.out, h1', h2']
  rw [if_pos h1]
  simp [Fl.by])
 have en : (n == 1) = true := by simpa using h1
 have en2 : (n != 1) = false := by simpa using h1
 clear hC hn hn1 hm ha
 clear h1
 rw [HR.out, HF.out]
 have tokA : True := trivial
 have tokB : True := trivial
 unfold Fl.cells
 go_enter Tryd.func31, Tryd.ntmps31
 go_wp2_with (first | (have _t := tokA; clear _t tokA; go_at_call 48; refine (Ya3 R 31 _ HRR.out (by decide)).mono ?_; rintro e w6 ⟨rfl, rfl⟩; rw [HC.out]))
 refine Yx 6 (AlW w ⟨C, d, e', z, n', o⟩ ⟨c, d, e', z, n', o⟩) (fun _ _ => False) (by kernel_rfl) (by decide +kernel) (AlW.of w ⟨C, d, e', z, n', o⟩ ⟨c, d, e', z, n', o⟩).drew (fun _ _ _ h => h.elim) ?_
 simp only [List.take_succ_cons, List.take_zero, List.drop_succ_cons, List.drop_zero]
 iterate 3
  apply Yg rfl rfl
  ·intro K hK w5 hB1
   have c7 := Ya hB1.z7; unfold Fl.cells at c7
   have HB := Yh_ hB1
   clear hB1
   go_wp2_with fail
   first
   |exact hK _ HB.out
   |exact HB.out
  ·exact ⟨_, rfl⟩
 apply Yg rfl rfl
 ·intro K hK w5 hB1
  have HB := Yh_ hB1
  clear hB1
  go_wp2_with (go_at_call 48; refine (Ya3 R 30 _ HRR.out (by decide)).mono ?_; rintro e w6 ⟨rfl, rfl⟩)
  first
  |exact hK _ HB.out
  |exact HB.out
 ·exact ⟨_, rfl⟩
 iterate 2
  apply Yg rfl rfl
  ·intro K hK w5 hB1
   have c7 := Ya hB1.z7; unfold Fl.cells at c7
   have HB := Yh_ hB1
   clear hB1
   go_wp2_with fail
   first
   |exact hK _ HB.out
   |exact HB.out
  ·exact ⟨_, rfl⟩
 refine Yo (fun _ w6 hB1 => ?_)
 have c7 := Ya hB1.z7
 have f7 := Yc hB1.z7
 have c10 := Ya hB1.z10
 unfold Fl.cells at c7 c10
 have H5 := Yh_ hB1
 clear hB1
 go_wp2_with fail
 refine Yx 3 (AlW w ⟨C, d, e', z, n', (C != Yaf R 30)⟩ ⟨c, d, e', z, n', o⟩) (fun _ _ => False) (by kernel_rfl) (by decide +kernel) (H5.out.put 5 ((C != Yaf R 30)) ⟨C, d, e', z, n', (C != Yaf R 30)⟩ rfl).drew (fun _ _ _ h => h.elim) ?_
 simp only [List.take_succ_cons, List.take_zero, List.drop_succ_cons, List.drop_zero]
 iterate 3
  apply Yg rfl rfl
  ·intro K hK w5 hB1
   have c7 := Ya hB1.z7; unfold Fl.cells at c7
   have HB := Yh_ hB1
   clear hB1
   go_wp2_with fail
   first
   |exact hK _ HB.out
   |exact HB.out
  ·exact ⟨_, rfl⟩
 refine Yo (fun _ w9 hB1 => ?_)
 have c9 := Ya hB1.z9
 have f9 := Yc hB1.z9
 unfold Fl.cells Fl.zero at c9
 have HZ := Yh_ hB1
 clear hB1
 go_wp2_with fail
 exact bodyPost_ret (Yp rfl (Yk 8 rfl) (Yan 9 (w.heap.size + 1) ⟨C, d, e', z, n', (C != Yaf R 30)⟩ rfl (Yam HZ.out.z9 _ _ _ _ _ _))) rfl ⟨rfl, Yt HZ.out.u (.inr (by omega)) _ _ _ _ _ _⟩
theorem Yim (a m n : Int) (f : Fl) (w : World) (ha : 0 ≤ a ∧ a < 4294967296) (hm : 0 ≤ m) (hn : m % 32 = n) (h1 : 1 < n) :
  Calls Tryd.prog 31 #[.int .i64 22, .int .u32 a, .int .u32 m, .agg f.cells] w fun e w' => e = .returned (.tuple #[.int .u32 (shV 22 a n), .agg (shF 22 a n f).cells]) ∧ Upd [] w w' := by
 obtain ⟨c, d, e', z, n', o⟩ := f
 have hn1 : 1 ≤ n ∧ n < 32 := by omega
 have HN := Yh_ (And.intro hn1 ha)
 have e0 : m.tmod 32 = n := by rw [Int.tmod_eq_emod_of_nonneg hm]; exact hn
 have e00 : m % 32 = n := hn
 have ez : (n == 0) = false := by simp; omega
 have e32 : (32 - n) % 4294967296 = 32 - n := by omega
 have em1 : (n - 1) % 4294967296 = n - 1 := by omega
 have el1 : decide (n < 32) = true := by simp; omega
 have el2 : decide (32 - n < 32) = true := by simp; omega
 obtain ⟨R, hR⟩ : ∃ R, bits .or .u32 (a / 2 ^ n.toNat) (a * 2 ^ (32 - n).toNat % 4294967296) = R := ⟨_, rfl⟩
 have HR := Yh_ (show shV 22 a n = R from hR)
 have HRR := Yh_ (show 0 ≤ R ∧ R < 4294967296 from hR ▸ Ybg 22 a n ha)
 obtain ⟨C, hC⟩ : ∃ C, Yaf R 31 = C := ⟨_, rfl⟩
 have HC := Yh_ hC
 have HF := Yh_ (show shF 22 a n ⟨c, d, e', z, n', o⟩ = ⟨C, d, e', z, n', o⟩ by
  have h1' : shC 22 a n = C := by rw [← hC]; simp [shC, HR.out]
  have h2' : shO 22 a n = (C != Yaf R 30) := by simp [shO, HR.out, h1', shC, hC]
  simp only [shF, Ydw, HR.out, h1', h2']
  rw [if_neg (show ¬ n = 1 by omega)]
  simp [Fl.by])
 have en : (n == 1) = false := by simp; omega
 have en2 : (n != 1) = true := by simp; omega
 clear hC hn hn1 hm ha
 clear h1
 rw [HR.out, HF.out]
 have tokA : True := trivial
 have tokB : True := trivial
 unfold Fl.cells
 go_enter Tryd.func31, Tryd.ntmps31
 go_wp2_with (first | (have _t := tokA; clear _t tokA; go_at_call 48; refine (Ya3 R 31 _ HRR.out (by decide)).mono ?_; rintro e w6 ⟨rfl, rfl⟩; rw [HC.out]))
 refine Yx 6 (AlW w ⟨C, d, e', z, n', o⟩ ⟨c, d, e', z, n', o⟩) (fun _ _ => False) (by kernel_rfl) (by decide +kernel) (AlW.of w ⟨C, d, e', z, n', o⟩ ⟨c, d, e', z, n', o⟩).drew (fun _ _ _ h => h.elim) ?_
 simp only [List.take_succ_cons, List.take_zero, List.drop_succ_cons, List.drop_zero]
 iterate 3
  apply Yg rfl rfl
  ·intro K hK w5 hB1
   have c7 := Ya hB1.z7; unfold Fl.cells at c7
   have HB := Yh_ hB1
   clear hB1
   go_wp2_with fail
   first
   |exact hK _ HB.out
   |exact HB.out
  ·exact ⟨_, rfl⟩
 apply Yg rfl rfl
 ·intro K hK w5 hB1
  have HB := Yh_ hB1
  clear hB1
  go_wp2_with (go_at_call 48; refine (Ya3 R 30 _ HRR.out (by decide)).mono ?_; rintro e w6 ⟨rfl, rfl⟩)
  first
  |exact hK _ HB.out
  |exact HB.out
 ·exact ⟨_, rfl⟩
 iterate 2
  apply Yg rfl rfl
  ·intro K hK w5 hB1
   have c7 := Ya hB1.z7; unfold Fl.cells at c7
   have HB := Yh_ hB1
   clear hB1
   go_wp2_with fail
   first
   |exact hK _ HB.out
   |exact HB.out
  ·exact ⟨_, rfl⟩
 refine Yo (fun _ w6 hB1 => ?_)
 have c7 := Ya hB1.z7
 have f7 := Yc hB1.z7
 have c10 := Ya hB1.z10
 unfold Fl.cells at c7 c10
 have H5 := Yh_ hB1
 clear hB1
 go_wp2_with fail
 refine Yx 3 (AlW w ⟨C, d, e', z, n', o⟩ ⟨c, d, e', z, n', o⟩) (fun _ _ => False) (by kernel_rfl) (by decide +kernel) ((H5.out.put 5 ((C != Yaf R 30)) ⟨C, d, e', z, n', (C != Yaf R 30)⟩ rfl).put 5 o ⟨C, d, e', z, n', o⟩ rfl).drew (fun _ _ _ h => h.elim) ?_
 simp only [List.take_succ_cons, List.take_zero, List.drop_succ_cons, List.drop_zero]
 iterate 3
  apply Yg rfl rfl
  ·intro K hK w5 hB1
   have c7 := Ya hB1.z7; unfold Fl.cells at c7
   have HB := Yh_ hB1
   clear hB1
   go_wp2_with fail
   first
   |exact hK _ HB.out
   |exact HB.out
  ·exact ⟨_, rfl⟩
 refine Yo (fun _ w9 hB1 => ?_)
 have c9 := Ya hB1.z9
 have f9 := Yc hB1.z9
 unfold Fl.cells Fl.zero at c9
 have HZ := Yh_ hB1
 clear hB1
 go_wp2_with fail
 exact bodyPost_ret (Yp rfl (Yk 8 rfl) (Yan 9 (w.heap.size + 1) ⟨C, d, e', z, n', o⟩ rfl (Yam HZ.out.z9 _ _ _ _ _ _))) rfl ⟨rfl, Yt HZ.out.u (.inr (by omega)) _ _ _ _ _ _⟩
theorem Yjl (op a m : Int) (f : Fl) (w : World) (ha : 0 ≤ a ∧ a < 4294967296) (hm : 0 ≤ m) (hn : m % 32 = 0) :
  Calls Tryd.prog 31 #[.int .i64 op, .int .u32 a, .int .u32 m, .agg f.cells] w fun e w' => e = .returned (.tuple #[.int .u32 a, .agg f.cells]) ∧ Upd [] w w' := by
 obtain ⟨c, d, e', z, n', o⟩ := f
 have e0 : m.tmod 32 = 0 := by rw [Int.tmod_eq_emod_of_nonneg hm]; exact hn
 clear hm ha
 unfold Fl.cells
 go_enter Tryd.func31, Tryd.ntmps31
 go_wp2_with fail
 have h0 : (((w.alloc (.cells (Fl.cells ⟨c, d, e', z, n', o⟩) 25)).alloc (.cells Fl.zero.cells 25))).heap[w.heap.size]? = some (.cells (Fl.cells ⟨c, d, e', z, n', o⟩) 25 (0, 0)) := heap_alloc2_old _ _ _
 have h9 : (((w.alloc (.cells (Fl.cells ⟨c, d, e', z, n', o⟩) 25)).alloc (.cells Fl.zero.cells 25))).heap[w.heap.size + 1]? = some (.cells Fl.zero.cells 25 (0, 0)) := heap_alloc2_new _ _ _
 have hu : Upd [] w ((w.alloc (.cells (Fl.cells ⟨c, d, e', z, n', o⟩) 25)).alloc (.cells Fl.zero.cells 25)) := ((Upd.refl [] w).alloc _).alloc _
 refine Yx 3 (AlE w ⟨c, d, e', z, n', o⟩) (fun _ _ => False) (by kernel_rfl) (by decide +kernel) (AlE.drew ⟨h0, h9, hu⟩) (fun _ _ _ h => h.elim) ?_
 simp only [List.take_succ_cons, List.take_zero, List.drop_succ_cons, List.drop_zero]
 iterate 3
  apply Yg rfl rfl
  ·intro K hK w5 hB1
   have c7 := Ya hB1.r7; unfold Fl.cells at c7
   have HB := Yh_ hB1
   clear hB1
   go_wp2_with fail
   first
   |exact hK _ HB.out
   |exact HB.out
  ·exact ⟨_, rfl⟩
 refine Yo (fun _ w9 hB1 => ?_)
 have c9 := Ya hB1.r9
 have f9 := Yc hB1.r9
 unfold Fl.cells Fl.zero at c9
 have HZ := Yh_ hB1
 clear hB1
 go_wp2_with fail
 exact bodyPost_ret (Yp rfl (Yk 8 rfl) (Yan 9 (w.heap.size + 1) ⟨c, d, e', z, n', o⟩ rfl (Yam HZ.out.r9 _ _ _ _ _ _))) rfl ⟨rfl, Yt HZ.out.u (.inr (by omega)) _ _ _ _ _ _⟩
def isSh (op : Int) : Bool := decide (21 ≤ op) && decide (op ≤ 25)
def Ydu (op a m : Int) : Int := if m % 32 = 0 then a else shV op a (m % 32)
def Yfx (op a m : Int) (f : Fl) : Fl := if m % 32 = 0 then f else shF op a (m % 32) f
theorem Yd9 (op a m : Int) (ha : 0 ≤ a ∧ a < 4294967296) : 0 ≤ Ydu op a m ∧ Ydu op a m < 4294967296 := by
 unfold Ydu; split
 ·exact ha
 ·exact Ybg op a _ ha
theorem Yii (op a m : Int) (f : Fl) (w : World) (hop : isSh op = true) (ha : 0 ≤ a ∧ a < 4294967296) (hm : 0 ≤ m) :
  Calls Tryd.prog 31 #[.int .i64 op, .int .u32 a, .int .u32 m, .agg f.cells] w fun e w' => e = .returned (.tuple #[.int .u32 (Ydu op a m), .agg (Yfx op a m f).cells]) ∧ Upd [] w w' := by
 unfold Ydu Yfx
 by_cases h0 : m % 32 = 0
 ·rw [if_pos h0, if_pos h0]; exact Yjl op a m f w ha hm h0
 ·rw [if_neg h0, if_neg h0]
  have ho : op = 21 ∨ op = 22 ∨ op = 23 ∨ op = 24 ∨ op = 25 := by simp [isSh] at hop; omega
  by_cases h1 : m % 32 = 1
  ·rcases ho with rfl | rfl | rfl | rfl | rfl
   ·exact Yi5 a m _ f w ha hm rfl h1
   ·exact Yjr a m _ f w ha hm rfl h1
   ·exact Yjq a m _ f w ha hm rfl h1
   ·exact Yjo a m _ f w ha hm rfl h1
   ·exact Yiw a m _ f w ha hm rfl h1
  ·have h2 : 1 < m % 32 := by omega
   rcases ho with rfl | rfl | rfl | rfl | rfl
   ·exact Yiq a m _ f w ha hm rfl h2
   ·exact Yim a m _ f w ha hm rfl h2
   ·exact Yir a m _ f w ha hm rfl h2
   ·exact Yin a m _ f w ha hm rfl h2
   ·exact Yip a m _ f w ha hm rfl h2
end
section
section
variable {w w1 w2 : World} {d a pb cb : Nat} {s : St} {i : Ins} {M : Mem} {f : Nat} {dn : Nat → Bool} {r : Nat → Value}
theorem fl_one (F : Fl) : F.cells.all (·.oneCell') = true := by simp [Fl.cells, Value.oneCell']
end
end
theorem Yks {M : Mem} {x bytes : Int} (h : M.writeK x bytes = false) (v : Int) : M.writeM x bytes v = M := by
 unfold Mem.writeK at h
 unfold Mem.writeM
 cases hb : M.bad x 2 (Yap bytes).toNat with
 |none => rw [hb] at h; cases h
 |some i => rfl
theorem Yi7 (d ma pb t4 t5 t6 : Nat) (r : Rn) (x : Mi) (M : Mem) (a bytes : Int) (w : World) (hr : Ys w d ma r) (hM : Yi w ma pb M) (hx : 0 ≤ a ∧ a < 4294967296) (hk : M.readK a bytes 1 = false)
  (h1 : w.heap[t4]? = some (.cells #[.pointer (some ⟨d, 0, none⟩)] 52 (0, 0))) (h2 : w.heap[t6]? = some (.cells #[.int .u32 a] 22 (0, 0))) (h3 : w.heap[t5]? = some (.cells x.cells 35 (0, 0))) :
  Calls Tryd.prog 35 #[.int .i64 bytes, .pointer (some ⟨t4, 0, none⟩), .pointer (some ⟨t6, 0, none⟩), .pointer (some ⟨t5, 0, none⟩)] w fun e w' => e = .panicked [{ v := .iface 37 (M.rdF a bytes 1).val, recovered := false }] ∧ Upd [] w w' := by
 have HX := Yh_ (And.intro hr (And.intro hM (And.intro hx hk)))
 have HC := Yh_ (And.intro h1 (And.intro h2 h3))
 obtain ⟨⟨fk, fp, fa, fw⟩, hF⟩ : ∃ F, M.rdF a bytes 1 = F := ⟨_, rfl⟩
 rw [hF]
 have HF := Yh_ hF
 clear hr hM hx hk h1 h2 h3 hF
 go_enter Tryd.func35, Tryd.ntmps35
 go_wp2_with fail
 refine Yeb 15 (Vg w [] (fun _ => True) 11 13 37 (Yj Flt.zero) (Yj ⟨fk, fp, fa, fw⟩)) (fun _ _ => False) (by kernel_rfl) (by decide +kernel) (fun r0 => Vg.start w [] (fun _ => True) (Ykn w) trivial 11 13 37 (Yj Flt.zero) (Yj ⟨fk, fp, fa, fw⟩) r0) (fun _ _ _ h => h.elim) ?_
 simp only [List.take_succ_cons, List.take_zero, List.drop_succ_cons, List.drop_zero]
 iterate 6
  apply Yab rfl rfl
  ·intro dn r0 K hd hdep hK w5 hB2
   have hB1 := hB2.u
   have c1 := Ya (hB1.get HC.out.1 (by simp)); have c2 := Ya (hB1.get HC.out.2.1 (by simp)); have c3 := Ya (hB1.get HC.out.2.2 (by simp)); have c0 : w5.cell? ⟨d, 0, none⟩ = some (.pointer (some ⟨ma, 0, none⟩)) := (HX.out.1.keep hB1 (by simp)).cell 0
   have HB := Yh_ hB2
   clear hB1 hB2 hdep
   go_wp2_with fail
   first
   |exact hK _ (HB.out.same _ (by decide) (by decide))
   |exact HB.out.same _ (by decide) (by decide)
  ·exact ⟨_, rfl⟩
 apply Yab rfl rfl
 ·intro dn r0 K hd hdep hK w5 hB2
  have hB1 := hB2.u
  have HB := Yh_ hB2
  clear hB1 hB2 hdep
  go_wp2_with (go_at_call 36; refine (Ydd M ma pb a bytes 1 _ (HX.out.2.1.keep HB.out.u (by simp) (by simp)) HX.out.2.2.1.1 HX.out.2.2.1.2).mono ?_; rintro e w6 ⟨rfl, hu⟩; rw [Mem.readF_val, HF.out, HX.out.2.2.2]; unfold Flt.val)
  first
  |exact hK _ (HB.out.quiet hu _ (by decide) (by decide))
  |exact HB.out.quiet hu _ (by decide) (by decide)
 ·exact ⟨_, rfl⟩
 iterate 4
  apply Yab rfl rfl
  ·intro dn r0 K hd hdep hK w5 hB2
   have hB1 := hB2.u
   have c1 := Ya (hB1.get HC.out.1 (by simp)); have c2 := Ya (hB1.get HC.out.2.1 (by simp)); have c3 := Ya (hB1.get HC.out.2.2 (by simp)); have c0 : w5.cell? ⟨d, 0, none⟩ = some (.pointer (some ⟨ma, 0, none⟩)) := (HX.out.1.keep hB1 (by simp)).cell 0
   have HB := Yh_ hB2
   clear hB1 hB2 hdep
   go_wp2_with fail
   first
   |exact hK _ (HB.out.same _ (by decide) (by decide))
   |exact HB.out.same _ (by decide) (by decide)
  ·exact ⟨_, rfl⟩
 refine Yc4 rfl (fun _ => rfl) 6 rfl (by simp [Act.put]) ?_ ?_
 ·intro dn r0 K hd w5 hB2 hK
  have HB := Yh_ hB2
  clear hB2
  simp only [Yq]
  go_wp2_with fail
  first
  |exact hK (.pointer (some ⟨w5.heap.size, 0, none⟩)) _ (HB.out.lay hd (by decide))
  |exact HB.out.lay hd (by decide)
 iterate 1
  apply Yaq rfl (fun _ => rfl)
  ·intro dn r0 K hd hdep hK w5 hB2
   have hB1 := hB2.u
   have c1 := Ya (hB1.get HC.out.1 (by simp)); have c2 := Ya (hB1.get HC.out.2.1 (by simp)); have c3 := Ya (hB1.get HC.out.2.2 (by simp)); have c0 : w5.cell? ⟨d, 0, none⟩ = some (.pointer (some ⟨ma, 0, none⟩)) := (HX.out.1.keep hB1 (by simp)).cell 0
   have HB := Yh_ hB2
   clear hB1 hB2 hdep
   simp only [Yq]
   go_wp2_with fail
   first
   |exact hK _ (HB.out.same _ (by decide) (by decide))
   |exact HB.out.same _ (by decide) (by decide)
  ·exact ⟨_, fun _ => rfl, rfl⟩
 apply Yaq rfl (fun _ => rfl)
 ·intro dn r0 K hd hdep hK w5 hB2
  have h8 : dn 11 = true := hdep ⟨11, .data⟩ (by simp) rfl
  obtain ⟨g0, e1, e2, e3⟩ := hB2.x h8
  refine Ybu ⟨fk, fp, fa, fw⟩ (if dn 13 = true then ⟨fk, fp, fa, fw⟩ else Flt.zero) g0 _ _ rfl (by show r0 11 = _; exact e1) rfl (by rw [e3]; split <;> rfl) ?_
  exact hK _ (hB2.put h8 e1 (by rintro c (rfl | rfl) <;> rfl) (by decide))
 ·exact ⟨_, fun _ => rfl, rfl⟩
 iterate 1
  apply Yaq rfl (fun _ => rfl)
  ·intro dn r0 K hd hdep hK w5 hB2
   have hB1 := hB2.u
   have c1 := Ya (hB1.get HC.out.1 (by simp)); have c2 := Ya (hB1.get HC.out.2.1 (by simp)); have c3 := Ya (hB1.get HC.out.2.2 (by simp)); have c0 : w5.cell? ⟨d, 0, none⟩ = some (.pointer (some ⟨ma, 0, none⟩)) := (HX.out.1.keep hB1 (by simp)).cell 0
   have HB := Yh_ hB2
   clear hB1 hB2 hdep
   simp only [Yq]
   go_wp2_with fail
   first
   |exact hK _ (HB.out.same _ (by decide) (by decide))
   |exact HB.out.same _ (by decide) (by decide)
  ·exact ⟨_, fun _ => rfl, rfl⟩
 refine Yds (fun _ r0 w6 dn hall hB2 => ?_)
 obtain ⟨g, e1, hgl, hB1⟩ := hB2.x (hall 11 (by decide))
 have hU := hB2.u
 have hP := hB2.p
 rw [hall 13 (by decide), if_pos rfl] at hB1
 show wpList _ _ _ _ (Act.put (Yq _ _ [] _) (some 6) (r0 11)) _
 rw [e1]
 simp only [Yq]
 clear e1 hall hB2
 have cg := Ya hB1
 unfold Yj at cg
 dsimp only at cg
 have H6 := Yh_ (And.intro hU hP)
 clear hU hB1 hgl hP
 go_wp2_with fail
 exact ⟨rfl, rfl, H6.out.1⟩
theorem Yia (d ma pb t4 t6 t7 : Nat) (r : Rn) (M : Mem) (a b bytes : Int) (w : World) (hr : Ys w d ma r) (hM : Yi w ma pb M) (hx : (0 ≤ a ∧ a < 4294967296) ∧ 0 ≤ b ∧ b < 4294967296) (hk : M.writeK a bytes = false ∧ d ≠ pb ∧ t4 ≠ pb ∧ t6 ≠ pb ∧ t7 ≠ pb)
  (h1 : w.heap[t4]? = some (.cells #[.pointer (some ⟨d, 0, none⟩)] 52 (0, 0))) (h2 : w.heap[t6]? = some (.cells #[.int .u32 a] 22 (0, 0))) (h3 : w.heap[t7]? = some (.cells #[.int .u32 b] 22 (0, 0))) :
  Calls Tryd.prog 37 #[.int .i64 bytes, .pointer (some ⟨t4, 0, none⟩), .pointer (some ⟨t6, 0, none⟩), .pointer (some ⟨t7, 0, none⟩)] w fun e w' => e = .panicked [{ v := .iface 37 (M.wrF a bytes).val, recovered := false }] ∧ Yi w' ma pb M ∧ Upd [pb] w w' := by
 have HX := Yh_ (And.intro hr (And.intro hM (And.intro hx hk)))
 have HC := Yh_ (And.intro h1 (And.intro h2 h3))
 obtain ⟨⟨fk, fp, fa, fw⟩, hF⟩ : ∃ F, M.wrF a bytes = F := ⟨_, rfl⟩
 rw [hF]
 have HF := Yh_ hF
 clear hr hM hx hk h1 h2 h3 hF
 go_enter Tryd.func37, Tryd.ntmps37
 go_wp2_with fail
 refine Yeb 14 (Vg w [pb] (fun w1 => Yi w1 ma pb M) 11 12 37 (Yj Flt.zero) (Yj ⟨fk, fp, fa, fw⟩)) (fun _ _ => False) (by kernel_rfl) (by decide +kernel) (fun r0 => Vg.start w [pb] (fun w1 => Yi w1 ma pb M) (Yh7 HX.out.2.1) HX.out.2.1 11 12 37 (Yj Flt.zero) (Yj ⟨fk, fp, fa, fw⟩) r0) (fun _ _ _ h => h.elim) ?_
 simp only [List.take_succ_cons, List.take_zero, List.drop_succ_cons, List.drop_zero]
 iterate 7
  apply Yab rfl rfl
  ·intro dn r0 K hd hdep hK w5 hB2
   have hB1 := hB2.u
   have c1 := Ya (hB1.get HC.out.1 (by simpa using HX.out.2.2.2.2.2.1)); have c2 := Ya (hB1.get HC.out.2.1 (by simpa using HX.out.2.2.2.2.2.2.1)); have c3 := Ya (hB1.get HC.out.2.2 (by simpa using HX.out.2.2.2.2.2.2.2)); have c0 : w5.cell? ⟨d, 0, none⟩ = some (.pointer (some ⟨ma, 0, none⟩)) := (HX.out.1.keep hB1 (by simpa using HX.out.2.2.2.2.1)).cell 0
   have HB := Yh_ hB2
   clear hB1 hB2 hdep
   go_wp2_with fail
   first
   |exact hK _ (HB.out.same _ (by decide) (by decide))
   |exact HB.out.same _ (by decide) (by decide)
  ·exact ⟨_, rfl⟩
 apply Yab rfl rfl
 ·intro dn r0 K hd hdep hK w5 hB2
  have hB1 := hB2.u
  have HB := Yh_ hB2
  clear hB1 hB2 hdep
  go_wp2_with (go_at_call 38; refine (Yfw M ma pb a bytes b _ HB.out.p HX.out.2.2.1.1.1 HX.out.2.2.1.1.2 HX.out.2.2.1.2.1 HX.out.2.2.1.2.2).mono ?_; rintro e w6 ⟨rfl, hm, hu⟩; rw [Mem.writeF_val, HF.out, HX.out.2.2.2.1]; unfold Flt.val; have hm2 := Yks HX.out.2.2.2.1 b ▸ hm)
  first
  |exact hK _ (HB.out.wrote hu hm2 (by simpa using HX.out.2.1.pl) _ (by decide) (by decide))
  |exact HB.out.wrote hu hm2 (by simpa using HX.out.2.1.pl) _ (by decide) (by decide)
 ·exact ⟨_, rfl⟩
 iterate 3
  apply Yab rfl rfl
  ·intro dn r0 K hd hdep hK w5 hB2
   have hB1 := hB2.u
   have c1 := Ya (hB1.get HC.out.1 (by simpa using HX.out.2.2.2.2.2.1)); have c2 := Ya (hB1.get HC.out.2.1 (by simpa using HX.out.2.2.2.2.2.2.1)); have c3 := Ya (hB1.get HC.out.2.2 (by simpa using HX.out.2.2.2.2.2.2.2)); have c0 : w5.cell? ⟨d, 0, none⟩ = some (.pointer (some ⟨ma, 0, none⟩)) := (HX.out.1.keep hB1 (by simpa using HX.out.2.2.2.2.1)).cell 0
   have HB := Yh_ hB2
   clear hB1 hB2 hdep
   go_wp2_with fail
   first
   |exact hK _ (HB.out.same _ (by decide) (by decide))
   |exact HB.out.same _ (by decide) (by decide)
  ·exact ⟨_, rfl⟩
 refine Yc4 rfl (fun _ => rfl) 5 rfl (by simp [Act.put]) ?_ ?_
 ·intro dn r0 K hd w5 hB2 hK
  have HB := Yh_ hB2
  clear hB2
  simp only [Yq]
  go_wp2_with fail
  first
  |exact hK (.pointer (some ⟨w5.heap.size, 0, none⟩)) _ (HB.out.lay hd (by decide))
  |exact HB.out.lay hd (by decide)
 apply Yaq rfl (fun _ => rfl)
 ·intro dn r0 K hd hdep hK w5 hB2
  have h8 : dn 11 = true := hdep ⟨11, .data⟩ (by simp) rfl
  obtain ⟨g0, e1, e2, e3⟩ := hB2.x h8
  refine Ybu ⟨fk, fp, fa, fw⟩ (if dn 12 = true then ⟨fk, fp, fa, fw⟩ else Flt.zero) g0 _ _ rfl (by show r0 11 = _; exact e1) rfl (by rw [e3]; split <;> rfl) ?_
  exact hK _ (hB2.put h8 e1 (by rintro c (rfl | rfl) <;> rfl) (by decide))
 ·exact ⟨_, fun _ => rfl, rfl⟩
 iterate 1
  apply Yaq rfl (fun _ => rfl)
  ·intro dn r0 K hd hdep hK w5 hB2
   have hB1 := hB2.u
   have c1 := Ya (hB1.get HC.out.1 (by simpa using HX.out.2.2.2.2.2.1)); have c2 := Ya (hB1.get HC.out.2.1 (by simpa using HX.out.2.2.2.2.2.2.1)); have c3 := Ya (hB1.get HC.out.2.2 (by simpa using HX.out.2.2.2.2.2.2.2)); have c0 : w5.cell? ⟨d, 0, none⟩ = some (.pointer (some ⟨ma, 0, none⟩)) := (HX.out.1.keep hB1 (by simpa using HX.out.2.2.2.2.1)).cell 0
   have HB := Yh_ hB2
   clear hB1 hB2 hdep
   simp only [Yq]
   go_wp2_with fail
   first
   |exact hK _ (HB.out.same _ (by decide) (by decide))
   |exact HB.out.same _ (by decide) (by decide)
  ·exact ⟨_, fun _ => rfl, rfl⟩
 refine Yds (fun _ r0 w6 dn hall hB2 => ?_)
 obtain ⟨g, e1, hgl, hB1⟩ := hB2.x (hall 11 (by decide))
 have hU := hB2.u
 have hP := hB2.p
 rw [hall 12 (by decide), if_pos rfl] at hB1
 show wpList _ _ _ _ (Act.put (Yq _ _ [] _) (some 5) (r0 11)) _
 rw [e1]
 simp only [Yq]
 clear e1 hall hB2
 have cg := Ya hB1
 unfold Yj at cg
 dsimp only at cg
 have H6 := Yh_ (And.intro hU hP)
 clear hU hB1 hgl hP
 go_wp2_with fail
 exact ⟨rfl, rfl, H6.out.2, H6.out.1⟩
end Go.Proofs.YtjkolegknpflfaaDoor
