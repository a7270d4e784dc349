/-
  Parts of the proof (their names shortened by a program). No condition.
-/
import Derived.Test.YthakgjpejhjaoaaGreatMg01
import Derived.Test.YthakgjpejhjaoaaGreatMg18
import Derived.Test.YthakgjpejhjaoaaGreatMg08
namespace Go.Proofs.YthakgjpejhjaoaaGreat
open Go Go.RowKit
set_option linter.unusedVariables false
set_option linter.unusedSimpArgs false
set_option maxRecDepth 100000
set_option maxHeartbeats 16000000
section
def Ya5 (x n : Int) : Bool := x / 2 ^ n.toNat % 2 == 1
theorem Ygi (x : Int) (n : Nat) (hx : 0 ≤ x ∧ x < 4294967296) : 0 ≤ x / 2 ^ n ∧ x / 2 ^ n < 4294967296 := by
 have h2 : (0 : Int) < 2 ^ n := Int.pow_pos (by decide)
 exact ⟨Int.ediv_nonneg hx.1 (Int.le_of_lt h2), Int.lt_of_le_of_lt (Int.ediv_le_self _ hx.1) hx.2⟩
theorem Yca (x n : Int) (w : World) (hx : 0 ≤ x ∧ x < 4294967296) (hn : 0 ≤ n ∧ n < 32) :
  Calls Tryz.prog 66 #[.int .u32 x, .int .u32 n] w fun e w' => e = .returned (.bool (Ya5 x n)) ∧ w = w' := by
 have h1 := Ygi x n.toNat hx
 have e1 : bits .and .u32 (x / 2 ^ n.toNat) 1 = x / 2 ^ n.toNat % 2 := You _ h1.1 h1.2
 clear h1 hx
 go_enter Tryz.func66, Tryz.ntmps66
 go_wp2_with fail
 go_ret
 exact ⟨rfl, rfl⟩
def shlI (a n : Int) : Int := a * 2 ^ n.toNat % 4294967296
def shV (op a n : Int) : Int :=
 if op = 23 then shlI a n else if op = 24 then a / 2 ^ n.toNat else if op = 25 then wrap32 a / 2 ^ n.toNat % 4294967296
 else if op = 21 then bits .or .u32 (shlI a n) (a / 2 ^ (32 - n).toNat) else bits .or .u32 (a / 2 ^ n.toNat) (shlI a (32 - n))
def shC (op a n : Int) : Bool :=
 if op = 23 then Ya5 a (32 - n) else if op = 24 ∨ op = 25 then Ya5 a (n - 1) else if op = 21 then Ya5 (shV 21 a n) 0 else Ya5 (shV 22 a n) 31
def shO (op a n : Int) : Bool :=
 if op = 23 ∨ op = 21 then Ya5 (shV op a n) 31 != shC op a n else if op = 24 then Ya5 a 31 else if op = 25 then false else shC 22 a n != Ya5 (shV 22 a n) 30
def Yff (op a n : Int) (f : Fl) : Fl := { f with cf := shC op a n, of_ := if n = 1 then shO op a n else f.of_ }
def shF (op a n : Int) (f : Fl) : Fl := if op = 23 ∨ op = 24 ∨ op = 25 then (Yff op a n f).by (shV op a n) else Yff op a n f
theorem Yg4 (a n : Int) : 0 ≤ shlI a n ∧ shlI a n < 4294967296 := by unfold shlI; omega
theorem Ycp (op a n : Int) (ha : 0 ≤ a ∧ a < 4294967296) : 0 ≤ shV op a n ∧ shV op a n < 4294967296 := by
 unfold shV
 split
 ·exact Yg4 a n
 ·split
  ·exact Ygi a _ ha
  ·split
   ·omega
   ·split
    ·exact Yix _ _ (Yg4 a n) (Ygi a _ ha)
    ·exact Yix _ _ (Ygi a _ ha) (Yg4 a _)
structure AlW (w : World) (f g : Fl) (w1 : World) : Prop where
 z7 : w1.heap[w.heap.size]? = some (.cells f.cells 25 (0, 0))
 z9 : w1.heap[w.heap.size + 1]? = some (.cells Fl.zero.cells 25 (0, 0))
 z10 : w1.heap[w.heap.size + 1 + 1]? = some (.cells g.cells 25 (0, 0))
 u : Upd [] w w1
section
variable {w w1 w2 : World} {f g : Fl}
theorem AlW.of (w : World) (f g : Fl) : AlW w f g (((w.alloc (.cells f.cells 25)).alloc (.cells Fl.zero.cells 25)).alloc (.cells g.cells 25)) := by
 have h2 := heap_alloc_new ((w.alloc (.cells f.cells 25)).alloc (.cells Fl.zero.cells 25)) (.cells g.cells 25)
 rw [show ((w.alloc (.cells f.cells 25)).alloc (.cells Fl.zero.cells 25)).heap.size = w.heap.size + 1 + 1 from by simp] at h2
 exact ⟨Ym _ (heap_alloc2_old _ _ _), Ym _ (heap_alloc2_new _ _ _), h2, (((Upd.refl [] w).alloc _).alloc _).alloc _⟩
theorem AlW.drew (h : AlW w f g w1) : AlW w f g w1.drew := by
 have u := (Upd.refl [] w1).drew
 exact ⟨u.get h.z7 (by simp), u.get h.z9 (by simp), u.get h.z10 (by simp), h.u.drew⟩
theorem AlW.quiet (h : AlW w f g w1) (u : Upd [] w1 w2) : AlW w f g w2 := ⟨u.get h.z7 (by simp), u.get h.z9 (by simp), u.get h.z10 (by simp), h.u.also u (by simp)⟩
theorem AlW.put (h : AlW w f g w1) (k : Nat) (x : Bool) (f' : Fl) (he : f.cells.setIfInBounds k (.bool x) = f'.cells) : AlW w f' g (w1.setCell ⟨w.heap.size, k, none⟩ (.bool x)) := by
 have u := (Upd.refl [w.heap.size] w1).setCell (p := ⟨w.heap.size, k, none⟩) (.inl (by simp)) (.bool x)
 exact ⟨by rw [← he]; exact Yi h.z7 k (.bool x), u.get h.z9 (by simp), u.get h.z10 (by simp <;> omega), h.u.setCell (p := ⟨w.heap.size, k, none⟩) (.inr (Nat.le_refl _)) _⟩
theorem AlW.st (h : AlW w f g w1) (x0 x1 x2 x3 x4 x5 : Bool) : AlW w ⟨x0, x1, x2, x3, x4, x5⟩ g ((((((w1.setCell ⟨w.heap.size, 0, none⟩ (.bool x0)).setCell ⟨w.heap.size, 1, none⟩ (.bool x1)).setCell ⟨w.heap.size, 2, none⟩ (.bool x2)).setCell ⟨w.heap.size, 3, none⟩ (.bool x3)).setCell ⟨w.heap.size, 4, none⟩ (.bool x4)).setCell ⟨w.heap.size, 5, none⟩ (.bool x5)) := by
 have u := Yao (S := [w.heap.size]) (b := w.heap.size) (Upd.refl _ w1) (.inl (by simp)) (.bool x0) (.bool x1) (.bool x2) (.bool x3) (.bool x4) (.bool x5)
 exact ⟨Ybq h.z7 _ _ _ _ _ _, u.get h.z9 (by simp), u.get h.z10 (by simp <;> omega), Yao h.u (.inr (Nat.le_refl _)) _ _ _ _ _ _⟩
end
theorem Yl0 (a m n : Int) (f : Fl) (w : World) (ha : 0 ≤ a ∧ a < 4294967296) (hm : 0 ≤ m) (hn : m % 32 = n) (h1 : n = 1) :
  Calls Tryz.prog 50 #[.int .i64 23, .int .u32 a, .int .u32 m, .agg f.cells] w fun e w' => e = .returned (.tuple #[.int .u32 (shV 23 a n), .agg (shF 23 a n f).cells]) ∧ Upd [] w w' := by
 obtain ⟨c, d, e', z, n', o⟩ := f
 have hn1 : 1 ≤ n ∧ n < 32 := by omega
 have HN := Yh_ (And.intro hn1 ha)
 have e0 : m.tmod 32 = n := by rw [Int.tmod_eq_emod_of_nonneg hm]; exact hn
 have e00 : m % 32 = n := hn
 have ez : (n == 0) = false := by simp; omega
 have e32 : (32 - n) % 4294967296 = 32 - n := by omega
 have em1 : (n - 1) % 4294967296 = n - 1 := by omega
 have el1 : decide (n < 32) = true := by simp; omega
 have el2 : decide (32 - n < 32) = true := by simp; omega
 obtain ⟨R, hR⟩ : ∃ R, a * 2 ^ n.toNat % 4294967296 = R := ⟨_, rfl⟩
 have HR := Yh_ (show shV 23 a n = R from hR)
 have HRR := Yh_ (show 0 ≤ R ∧ R < 4294967296 from hR ▸ Ycp 23 a n ha)
 obtain ⟨C, hC⟩ : ∃ C, Ya5 a (32 - n) = C := ⟨_, rfl⟩
 have HC := Yh_ hC
 have HF := Yh_ (show shF 23 a n ⟨c, d, e', z, n', o⟩ = ⟨C, Ycl R, e', R == 0, decide (2147483648 ≤ R), (Ya5 R 31 != C)⟩ by
  have h1' : shC 23 a n = C := by rw [← hC]; simp [shC, HR.out]
  have h2' : shO 23 a n = (Ya5 R 31 != C) := by simp [shO, HR.out, h1']
  simp only [shF, Yff, HR.out, h1', h2']
  rw [if_pos h1]
  simp [Fl.by])
 have en : (n == 1) = true := by simpa using h1
 have en2 : (n != 1) = false := by simpa using h1
 clear hC hn hn1 hm ha
 clear h1
 rw [HR.out, HF.out]
 have tokA : True := trivial
 have tokB : True := trivial
 unfold Fl.cells
 go_enter Tryz.func50, Tryz.ntmps50
 go_wp2_with (first | (have _t := tokA; clear _t tokA; go_at_call 66; refine (Yca a (32 - n) _ HN.out.2 (by have := HN.out.1; omega)).mono ?_; rintro e w6 ⟨rfl, rfl⟩; rw [HC.out]))
 refine Yam 6 (AlW w ⟨C, d, e', z, n', o⟩ ⟨c, d, e', z, n', o⟩) (fun _ _ => False) (by kernel_rfl) (by decide +kernel) (AlW.of w ⟨C, d, e', z, n', o⟩ ⟨c, d, e', z, n', o⟩).drew (fun _ _ _ h => h.elim) ?_
 simp only [List.take_succ_cons, List.take_zero, List.drop_succ_cons, List.drop_zero]
 iterate 1
  apply Yo rfl rfl
  ·intro K hK w5 hB1
   have c7 := Ya hB1.z7; unfold Fl.cells at c7
   have HB := Yh_ hB1
   clear hB1
   go_wp2_with fail
   first
   |exact hK _ HB.out
   |exact HB.out
  ·exact ⟨_, rfl⟩
 apply Yo rfl rfl
 ·intro K hK w5 hB1
  have HB := Yh_ hB1
  clear hB1
  go_wp2_with (go_at_call 66; refine (Yca R 31 _ HRR.out (by decide)).mono ?_; rintro e w6 ⟨rfl, rfl⟩)
  first
  |exact hK _ HB.out
  |exact HB.out
 ·exact ⟨_, rfl⟩
 iterate 4
  apply Yo rfl rfl
  ·intro K hK w5 hB1
   have c7 := Ya hB1.z7; unfold Fl.cells at c7
   have HB := Yh_ hB1
   clear hB1
   go_wp2_with fail
   first
   |exact hK _ HB.out
   |exact HB.out
  ·exact ⟨_, rfl⟩
 refine Yaa (fun _ w6 hB1 => ?_)
 have c7 := Ya hB1.z7
 have f7 := Yg hB1.z7
 have c10 := Ya hB1.z10
 unfold Fl.cells at c7 c10
 have H5 := Yh_ hB1
 clear hB1
 have tokY : True := trivial
 go_wp2_with (first | (have _t := tokY; have H6 := Yh_ (H5.out.put 5 ((Ya5 R 31 != C)) ⟨C, d, e', z, n', (Ya5 R 31 != C)⟩ rfl); have _t := tokY; clear _t tokY; go_at_call 63; refine (Ydp ⟨C, d, e', z, n', (Ya5 R 31 != C)⟩ R _ HRR.out).mono ?_; rintro e w7 ⟨rfl, hu⟩; have H7 := Yh_ (H6.out.quiet hu); simp only [Fl.by]; unfold Fl.cells; have c7 := Ya H7.out.z7; have f7 := Yg H7.out.z7; unfold Fl.cells at c7; clear hu H6))
 refine Yam 3 (AlW w ⟨C, Ycl R, e', R == 0, decide (2147483648 ≤ R), (Ya5 R 31 != C)⟩ ⟨c, d, e', z, n', o⟩) (fun _ _ => False) (by kernel_rfl) (by decide +kernel) (H7.out.st C (Ycl R) e' (R == 0) (decide (2147483648 ≤ R)) ((Ya5 R 31 != C))).drew (fun _ _ _ h => h.elim) ?_
 simp only [List.take_succ_cons, List.take_zero, List.drop_succ_cons, List.drop_zero]
 iterate 3
  apply Yo rfl rfl
  ·intro K hK w5 hB1
   have c7 := Ya hB1.z7; unfold Fl.cells at c7
   have HB := Yh_ hB1
   clear hB1
   go_wp2_with fail
   first
   |exact hK _ HB.out
   |exact HB.out
  ·exact ⟨_, rfl⟩
 refine Yaa (fun _ w9 hB1 => ?_)
 have c9 := Ya hB1.z9
 have f9 := Yg hB1.z9
 unfold Fl.cells Fl.zero at c9
 have HZ := Yh_ hB1
 clear hB1
 go_wp2_with fail
 exact bodyPost_ret (Yag rfl (Yad 8 rfl) (Ybu 9 (w.heap.size + 1) ⟨C, Ycl R, e', R == 0, decide (2147483648 ≤ R), (Ya5 R 31 != C)⟩ rfl (Ybq HZ.out.z9 _ _ _ _ _ _))) rfl ⟨rfl, Yao HZ.out.u (.inr (by omega)) _ _ _ _ _ _⟩
theorem Ykg (a m n : Int) (f : Fl) (w : World) (ha : 0 ≤ a ∧ a < 4294967296) (hm : 0 ≤ m) (hn : m % 32 = n) (h1 : 1 < n) :
  Calls Tryz.prog 50 #[.int .i64 23, .int .u32 a, .int .u32 m, .agg f.cells] w fun e w' => e = .returned (.tuple #[.int .u32 (shV 23 a n), .agg (shF 23 a n f).cells]) ∧ Upd [] w w' := by
 obtain ⟨c, d, e', z, n', o⟩ := f
 have hn1 : 1 ≤ n ∧ n < 32 := by omega
 have HN := Yh_ (And.intro hn1 ha)
 have e0 : m.tmod 32 = n := by rw [Int.tmod_eq_emod_of_nonneg hm]; exact hn
 have e00 : m % 32 = n := hn
 have ez : (n == 0) = false := by simp; omega
 have e32 : (32 - n) % 4294967296 = 32 - n := by omega
 have em1 : (n - 1) % 4294967296 = n - 1 := by omega
 have el1 : decide (n < 32) = true := by simp; omega
 have el2 : decide (32 - n < 32) = true := by simp; omega
 obtain ⟨R, hR⟩ : ∃ R, a * 2 ^ n.toNat % 4294967296 = R := ⟨_, rfl⟩
 have HR := Yh_ (show shV 23 a n = R from hR)
 have HRR := Yh_ (show 0 ≤ R ∧ R < 4294967296 from hR ▸ Ycp 23 a n ha)
 obtain ⟨C, hC⟩ : ∃ C, Ya5 a (32 - n) = C := ⟨_, rfl⟩
 have HC := Yh_ hC
 have HF := Yh_ (show shF 23 a n ⟨c, d, e', z, n', o⟩ = ⟨C, Ycl R, e', R == 0, decide (2147483648 ≤ R), o⟩ by
  have h1' : shC 23 a n = C := by rw [← hC]; simp [shC, HR.out]
  have h2' : shO 23 a n = (Ya5 R 31 != C) := by simp [shO, HR.out, h1']
  simp only [shF, Yff, HR.out, h1', h2']
  rw [if_neg (show ¬ n = 1 by omega)]
  simp [Fl.by])
 have en : (n == 1) = false := by simp; omega
 have en2 : (n != 1) = true := by simp; omega
 clear hC hn hn1 hm ha
 clear h1
 rw [HR.out, HF.out]
 have tokA : True := trivial
 have tokB : True := trivial
 unfold Fl.cells
 go_enter Tryz.func50, Tryz.ntmps50
 go_wp2_with (first | (have _t := tokA; clear _t tokA; go_at_call 66; refine (Yca a (32 - n) _ HN.out.2 (by have := HN.out.1; omega)).mono ?_; rintro e w6 ⟨rfl, rfl⟩; rw [HC.out]))
 refine Yam 6 (AlW w ⟨C, d, e', z, n', o⟩ ⟨c, d, e', z, n', o⟩) (fun _ _ => False) (by kernel_rfl) (by decide +kernel) (AlW.of w ⟨C, d, e', z, n', o⟩ ⟨c, d, e', z, n', o⟩).drew (fun _ _ _ h => h.elim) ?_
 simp only [List.take_succ_cons, List.take_zero, List.drop_succ_cons, List.drop_zero]
 iterate 1
  apply Yo rfl rfl
  ·intro K hK w5 hB1
   have c7 := Ya hB1.z7; unfold Fl.cells at c7
   have HB := Yh_ hB1
   clear hB1
   go_wp2_with fail
   first
   |exact hK _ HB.out
   |exact HB.out
  ·exact ⟨_, rfl⟩
 apply Yo rfl rfl
 ·intro K hK w5 hB1
  have HB := Yh_ hB1
  clear hB1
  go_wp2_with (go_at_call 66; refine (Yca R 31 _ HRR.out (by decide)).mono ?_; rintro e w6 ⟨rfl, rfl⟩)
  first
  |exact hK _ HB.out
  |exact HB.out
 ·exact ⟨_, rfl⟩
 iterate 4
  apply Yo rfl rfl
  ·intro K hK w5 hB1
   have c7 := Ya hB1.z7; unfold Fl.cells at c7
   have HB := Yh_ hB1
   clear hB1
   go_wp2_with fail
   first
   |exact hK _ HB.out
   |exact HB.out
  ·exact ⟨_, rfl⟩
 refine Yaa (fun _ w6 hB1 => ?_)
 have c7 := Ya hB1.z7
 have f7 := Yg hB1.z7
 have c10 := Ya hB1.z10
 unfold Fl.cells at c7 c10
 have H5 := Yh_ hB1
 clear hB1
 have tokY : True := trivial
 go_wp2_with (first | (have _t := tokY; have H6 := Yh_ ((H5.out.put 5 ((Ya5 R 31 != C)) ⟨C, d, e', z, n', (Ya5 R 31 != C)⟩ rfl).put 5 o ⟨C, d, e', z, n', o⟩ rfl); have _t := tokY; clear _t tokY; go_at_call 63; refine (Ydp ⟨C, d, e', z, n', o⟩ R _ HRR.out).mono ?_; rintro e w7 ⟨rfl, hu⟩; have H7 := Yh_ (H6.out.quiet hu); simp only [Fl.by]; unfold Fl.cells; have c7 := Ya H7.out.z7; have f7 := Yg H7.out.z7; unfold Fl.cells at c7; clear hu H6))
 refine Yam 3 (AlW w ⟨C, Ycl R, e', R == 0, decide (2147483648 ≤ R), o⟩ ⟨c, d, e', z, n', o⟩) (fun _ _ => False) (by kernel_rfl) (by decide +kernel) (H7.out.st C (Ycl R) e' (R == 0) (decide (2147483648 ≤ R)) (o)).drew (fun _ _ _ h => h.elim) ?_
 simp only [List.take_succ_cons, List.take_zero, List.drop_succ_cons, List.drop_zero]
 iterate 3
  apply Yo rfl rfl
  ·intro K hK w5 hB1
   have c7 := Ya hB1.z7; unfold Fl.cells at c7
   have HB := Yh_ hB1
   clear hB1
   go_wp2_with fail
   first
   |exact hK _ HB.out
   |exact HB.out
  ·exact ⟨_, rfl⟩
 refine Yaa (fun _ w9 hB1 => ?_)
 have c9 := Ya hB1.z9
 have f9 := Yg hB1.z9
 unfold Fl.cells Fl.zero at c9
 have HZ := Yh_ hB1
 clear hB1
 go_wp2_with fail
 exact bodyPost_ret (Yag rfl (Yad 8 rfl) (Ybu 9 (w.heap.size + 1) ⟨C, Ycl R, e', R == 0, decide (2147483648 ≤ R), o⟩ rfl (Ybq HZ.out.z9 _ _ _ _ _ _))) rfl ⟨rfl, Yao HZ.out.u (.inr (by omega)) _ _ _ _ _ _⟩
theorem Yln (a m n : Int) (f : Fl) (w : World) (ha : 0 ≤ a ∧ a < 4294967296) (hm : 0 ≤ m) (hn : m % 32 = n) (h1 : n = 1) :
  Calls Tryz.prog 50 #[.int .i64 24, .int .u32 a, .int .u32 m, .agg f.cells] w fun e w' => e = .returned (.tuple #[.int .u32 (shV 24 a n), .agg (shF 24 a n f).cells]) ∧ Upd [] w w' := by
 obtain ⟨c, d, e', z, n', o⟩ := f
 have hn1 : 1 ≤ n ∧ n < 32 := by omega
 have HN := Yh_ (And.intro hn1 ha)
 have e0 : m.tmod 32 = n := by rw [Int.tmod_eq_emod_of_nonneg hm]; exact hn
 have e00 : m % 32 = n := hn
 have ez : (n == 0) = false := by simp; omega
 have e32 : (32 - n) % 4294967296 = 32 - n := by omega
 have em1 : (n - 1) % 4294967296 = n - 1 := by omega
 have el1 : decide (n < 32) = true := by simp; omega
 have el2 : decide (32 - n < 32) = true := by simp; omega
 obtain ⟨R, hR⟩ : ∃ R, a / 2 ^ n.toNat = R := ⟨_, rfl⟩
 have HR := Yh_ (show shV 24 a n = R from hR)
 have HRR := Yh_ (show 0 ≤ R ∧ R < 4294967296 from hR ▸ Ycp 24 a n ha)
 obtain ⟨C, hC⟩ : ∃ C, Ya5 a (n - 1) = C := ⟨_, rfl⟩
 have HC := Yh_ hC
 have HF := Yh_ (show shF 24 a n ⟨c, d, e', z, n', o⟩ = ⟨C, Ycl R, e', R == 0, decide (2147483648 ≤ R), Ya5 a 31⟩ by
  have h1' : shC 24 a n = C := by rw [← hC]; simp [shC, HR.out]
  have h2' : shO 24 a n = Ya5 a 31 := by simp [shO, HR.out, h1']
  simp only [shF, Yff, HR.out, h1', h2']
  rw [if_pos h1]
  simp [Fl.by])
 have en : (n == 1) = true := by simpa using h1
 have en2 : (n != 1) = false := by simpa using h1
 clear hC hn hn1 hm ha
 clear h1
 rw [HR.out, HF.out]
 have tokA : True := trivial
 have tokB : True := trivial
 unfold Fl.cells
 go_enter Tryz.func50, Tryz.ntmps50
 have tokY : True := trivial
 go_wp2_with (first | (have _t := tokA; clear _t tokA; go_at_call 66; refine (Yca a (n - 1) _ HN.out.2 (by have := HN.out.1; omega)).mono ?_; rintro e w6 ⟨rfl, rfl⟩; rw [HC.out]) | (have _t := tokB; clear _t tokB; go_at_call 66; refine (Yca a 31 _ HN.out.2 (by decide)).mono ?_; rintro e w6 ⟨rfl, rfl⟩) | (have _t := tokY; have H6 := Yh_ (AlW.of w ⟨C, d, e', z, n', Ya5 a 31⟩ ⟨c, d, e', z, n', o⟩); have _t := tokY; clear _t tokY; go_at_call 63; refine (Ydp ⟨C, d, e', z, n', Ya5 a 31⟩ R _ HRR.out).mono ?_; rintro e w7 ⟨rfl, hu⟩; have H7 := Yh_ (H6.out.quiet hu); simp only [Fl.by]; unfold Fl.cells; have c7 := Ya H7.out.z7; have f7 := Yg H7.out.z7; unfold Fl.cells at c7; clear hu H6))
 refine Yam 3 (AlW w ⟨C, Ycl R, e', R == 0, decide (2147483648 ≤ R), Ya5 a 31⟩ ⟨c, d, e', z, n', o⟩) (fun _ _ => False) (by kernel_rfl) (by decide +kernel) (H7.out.st C (Ycl R) e' (R == 0) (decide (2147483648 ≤ R)) (Ya5 a 31)).drew (fun _ _ _ h => h.elim) ?_
 simp only [List.take_succ_cons, List.take_zero, List.drop_succ_cons, List.drop_zero]
 iterate 3
  apply Yo rfl rfl
  ·intro K hK w5 hB1
   have c7 := Ya hB1.z7; unfold Fl.cells at c7
   have HB := Yh_ hB1
   clear hB1
   go_wp2_with fail
   first
   |exact hK _ HB.out
   |exact HB.out
  ·exact ⟨_, rfl⟩
 refine Yaa (fun _ w9 hB1 => ?_)
 have c9 := Ya hB1.z9
 have f9 := Yg hB1.z9
 unfold Fl.cells Fl.zero at c9
 have HZ := Yh_ hB1
 clear hB1
 go_wp2_with fail
 exact bodyPost_ret (Yag rfl (Yad 8 rfl) (Ybu 9 (w.heap.size + 1) ⟨C, Ycl R, e', R == 0, decide (2147483648 ≤ R), Ya5 a 31⟩ rfl (Ybq HZ.out.z9 _ _ _ _ _ _))) rfl ⟨rfl, Yao HZ.out.u (.inr (by omega)) _ _ _ _ _ _⟩
theorem Yke (a m n : Int) (f : Fl) (w : World) (ha : 0 ≤ a ∧ a < 4294967296) (hm : 0 ≤ m) (hn : m % 32 = n) (h1 : 1 < n) :
  Calls Tryz.prog 50 #[.int .i64 24, .int .u32 a, .int .u32 m, .agg f.cells] w fun e w' => e = .returned (.tuple #[.int .u32 (shV 24 a n), .agg (shF 24 a n f).cells]) ∧ Upd [] w w' := by
 obtain ⟨c, d, e', z, n', o⟩ := f
 have hn1 : 1 ≤ n ∧ n < 32 := by omega
 have HN := Yh_ (And.intro hn1 ha)
 have e0 : m.tmod 32 = n := by rw [Int.tmod_eq_emod_of_nonneg hm]; exact hn
 have e00 : m % 32 = n := hn
 have ez : (n == 0) = false := by simp; omega
 have e32 : (32 - n) % 4294967296 = 32 - n := by omega
 have em1 : (n - 1) % 4294967296 = n - 1 := by omega
 have el1 : decide (n < 32) = true := by simp; omega
 have el2 : decide (32 - n < 32) = true := by simp; omega
 obtain ⟨R, hR⟩ : ∃ R, a / 2 ^ n.toNat = R := ⟨_, rfl⟩
 have HR := Yh_ (show shV 24 a n = R from hR)
 have HRR := Yh_ (show 0 ≤ R ∧ R < 4294967296 from hR ▸ Ycp 24 a n ha)
 obtain ⟨C, hC⟩ : ∃ C, Ya5 a (n - 1) = C := ⟨_, rfl⟩
 have HC := Yh_ hC
 have HF := Yh_ (show shF 24 a n ⟨c, d, e', z, n', o⟩ = ⟨C, Ycl R, e', R == 0, decide (2147483648 ≤ R), o⟩ by
  have h1' : shC 24 a n = C := by rw [← hC]; simp [shC, HR.out]
  have h2' : shO 24 a n = Ya5 a 31 := by simp [shO, HR.out, h1']
  simp only [shF, Yff, HR.out, h1', h2']
  rw [if_neg (show ¬ n = 1 by omega)]
  simp [Fl.by])
 have en : (n == 1) = false := by simp; omega
 have en2 : (n != 1) = true := by simp; omega
 clear hC hn hn1 hm ha
 clear h1
 rw [HR.out, HF.out]
 have tokA : True := trivial
 have tokB : True := trivial
 unfold Fl.cells
 go_enter Tryz.func50, Tryz.ntmps50
 have tokY : True := trivial
 go_wp2_with (first | (have _t := tokA; clear _t tokA; go_at_call 66; refine (Yca a (n - 1) _ HN.out.2 (by have := HN.out.1; omega)).mono ?_; rintro e w6 ⟨rfl, rfl⟩; rw [HC.out]) | (have _t := tokB; clear _t tokB; go_at_call 66; refine (Yca a 31 _ HN.out.2 (by decide)).mono ?_; rintro e w6 ⟨rfl, rfl⟩) | (have _t := tokY; have H6 := Yh_ (AlW.of w ⟨C, d, e', z, n', o⟩ ⟨c, d, e', z, n', o⟩); have _t := tokY; clear _t tokY; go_at_call 63; refine (Ydp ⟨C, d, e', z, n', o⟩ R _ HRR.out).mono ?_; rintro e w7 ⟨rfl, hu⟩; have H7 := Yh_ (H6.out.quiet hu); simp only [Fl.by]; unfold Fl.cells; have c7 := Ya H7.out.z7; have f7 := Yg H7.out.z7; unfold Fl.cells at c7; clear hu H6))
 refine Yam 3 (AlW w ⟨C, Ycl R, e', R == 0, decide (2147483648 ≤ R), o⟩ ⟨c, d, e', z, n', o⟩) (fun _ _ => False) (by kernel_rfl) (by decide +kernel) (H7.out.st C (Ycl R) e' (R == 0) (decide (2147483648 ≤ R)) (o)).drew (fun _ _ _ h => h.elim) ?_
 simp only [List.take_succ_cons, List.take_zero, List.drop_succ_cons, List.drop_zero]
 iterate 3
  apply Yo rfl rfl
  ·intro K hK w5 hB1
   have c7 := Ya hB1.z7; unfold Fl.cells at c7
   have HB := Yh_ hB1
   clear hB1
   go_wp2_with fail
   first
   |exact hK _ HB.out
   |exact HB.out
  ·exact ⟨_, rfl⟩
 refine Yaa (fun _ w9 hB1 => ?_)
 have c9 := Ya hB1.z9
 have f9 := Yg hB1.z9
 unfold Fl.cells Fl.zero at c9
 have HZ := Yh_ hB1
 clear hB1
 go_wp2_with fail
 exact bodyPost_ret (Yag rfl (Yad 8 rfl) (Ybu 9 (w.heap.size + 1) ⟨C, Ycl R, e', R == 0, decide (2147483648 ≤ R), o⟩ rfl (Ybq HZ.out.z9 _ _ _ _ _ _))) rfl ⟨rfl, Yao HZ.out.u (.inr (by omega)) _ _ _ _ _ _⟩
theorem Ylt (a m n : Int) (f : Fl) (w : World) (ha : 0 ≤ a ∧ a < 4294967296) (hm : 0 ≤ m) (hn : m % 32 = n) (h1 : n = 1) :
  Calls Tryz.prog 50 #[.int .i64 25, .int .u32 a, .int .u32 m, .agg f.cells] w fun e w' => e = .returned (.tuple #[.int .u32 (shV 25 a n), .agg (shF 25 a n f).cells]) ∧ Upd [] w w' := by
 obtain ⟨c, d, e', z, n', o⟩ := f
 have hn1 : 1 ≤ n ∧ n < 32 := by omega
 have HN := Yh_ (And.intro hn1 ha)
 have e0 : m.tmod 32 = n := by rw [Int.tmod_eq_emod_of_nonneg hm]; exact hn
 have e00 : m % 32 = n := hn
 have ez : (n == 0) = false := by simp; omega
 have e32 : (32 - n) % 4294967296 = 32 - n := by omega
 have em1 : (n - 1) % 4294967296 = n - 1 := by omega
 have el1 : decide (n < 32) = true := by simp; omega
 have el2 : decide (32 - n < 32) = true := by simp; omega
 obtain ⟨R, hR⟩ : ∃ R, wrap32 a / 2 ^ n.toNat % 4294967296 = R := ⟨_, rfl⟩
 have HR := Yh_ (show shV 25 a n = R from hR)
 have HRR := Yh_ (show 0 ≤ R ∧ R < 4294967296 from hR ▸ Ycp 25 a n ha)
 obtain ⟨C, hC⟩ : ∃ C, Ya5 a (n - 1) = C := ⟨_, rfl⟩
 have HC := Yh_ hC
 have HF := Yh_ (show shF 25 a n ⟨c, d, e', z, n', o⟩ = ⟨C, Ycl R, e', R == 0, decide (2147483648 ≤ R), false⟩ by
  have h1' : shC 25 a n = C := by rw [← hC]; simp [shC, HR.out]
  have h2' : shO 25 a n = false := by simp [shO, HR.out, h1']
  simp only [shF, Yff, HR.out, h1', h2']
  rw [if_pos h1]
  simp [Fl.by])
 have en : (n == 1) = true := by simpa using h1
 have en2 : (n != 1) = false := by simpa using h1
 clear hC hn hn1 hm ha
 clear h1
 rw [HR.out, HF.out]
 have tokA : True := trivial
 have tokB : True := trivial
 unfold Fl.cells
 go_enter Tryz.func50, Tryz.ntmps50
 have tokY : True := trivial
 go_wp2_with (first | (have _t := tokA; clear _t tokA; go_at_call 66; refine (Yca a (n - 1) _ HN.out.2 (by have := HN.out.1; omega)).mono ?_; rintro e w6 ⟨rfl, rfl⟩; rw [HC.out]) | (have _t := tokY; have H6 := Yh_ (AlW.of w ⟨C, d, e', z, n', false⟩ ⟨c, d, e', z, n', o⟩); have _t := tokY; clear _t tokY; go_at_call 63; refine (Ydp ⟨C, d, e', z, n', false⟩ R _ HRR.out).mono ?_; rintro e w7 ⟨rfl, hu⟩; have H7 := Yh_ (H6.out.quiet hu); simp only [Fl.by]; unfold Fl.cells; have c7 := Ya H7.out.z7; have f7 := Yg H7.out.z7; unfold Fl.cells at c7; clear hu H6))
 refine Yam 3 (AlW w ⟨C, Ycl R, e', R == 0, decide (2147483648 ≤ R), false⟩ ⟨c, d, e', z, n', o⟩) (fun _ _ => False) (by kernel_rfl) (by decide +kernel) (H7.out.st C (Ycl R) e' (R == 0) (decide (2147483648 ≤ R)) (false)).drew (fun _ _ _ h => h.elim) ?_
 simp only [List.take_succ_cons, List.take_zero, List.drop_succ_cons, List.drop_zero]
 iterate 3
  apply Yo rfl rfl
  ·intro K hK w5 hB1
   have c7 := Ya hB1.z7; unfold Fl.cells at c7
   have HB := Yh_ hB1
   clear hB1
   go_wp2_with fail
   first
   |exact hK _ HB.out
   |exact HB.out
  ·exact ⟨_, rfl⟩
 refine Yaa (fun _ w9 hB1 => ?_)
 have c9 := Ya hB1.z9
 have f9 := Yg hB1.z9
 unfold Fl.cells Fl.zero at c9
 have HZ := Yh_ hB1
 clear hB1
 go_wp2_with fail
 exact bodyPost_ret (Yag rfl (Yad 8 rfl) (Ybu 9 (w.heap.size + 1) ⟨C, Ycl R, e', R == 0, decide (2147483648 ≤ R), false⟩ rfl (Ybq HZ.out.z9 _ _ _ _ _ _))) rfl ⟨rfl, Yao HZ.out.u (.inr (by omega)) _ _ _ _ _ _⟩
theorem Yj9 (a m n : Int) (f : Fl) (w : World) (ha : 0 ≤ a ∧ a < 4294967296) (hm : 0 ≤ m) (hn : m % 32 = n) (h1 : 1 < n) :
  Calls Tryz.prog 50 #[.int .i64 25, .int .u32 a, .int .u32 m, .agg f.cells] w fun e w' => e = .returned (.tuple #[.int .u32 (shV 25 a n), .agg (shF 25 a n f).cells]) ∧ Upd [] w w' := by
 obtain ⟨c, d, e', z, n', o⟩ := f
 have hn1 : 1 ≤ n ∧ n < 32 := by omega
 have HN := Yh_ (And.intro hn1 ha)
 have e0 : m.tmod 32 = n := by rw [Int.tmod_eq_emod_of_nonneg hm]; exact hn
 have e00 : m % 32 = n := hn
 have ez : (n == 0) = false := by simp; omega
 have e32 : (32 - n) % 4294967296 = 32 - n := by omega
 have em1 : (n - 1) % 4294967296 = n - 1 := by omega
 have el1 : decide (n < 32) = true := by simp; omega
 have el2 : decide (32 - n < 32) = true := by simp; omega
 obtain ⟨R, hR⟩ : ∃ R, wrap32 a / 2 ^ n.toNat % 4294967296 = R := ⟨_, rfl⟩
 have HR := Yh_ (show shV 25 a n = R from hR)
 have HRR := Yh_ (show 0 ≤ R ∧ R < 4294967296 from hR ▸ Ycp 25 a n ha)
 obtain ⟨C, hC⟩ : ∃ C, Ya5 a (n - 1) = C := ⟨_, rfl⟩
 have HC := Yh_ hC
 have HF := Yh_ (show shF 25 a n ⟨c, d, e', z, n', o⟩ = ⟨C, Ycl R, e', R == 0, decide (2147483648 ≤ R), o⟩ by
  have h1' : shC 25 a n = C := by rw [← hC]; simp [shC, HR.out]
  have h2' : shO 25 a n = false := by simp [shO, HR.out, h1']
  simp only [shF, Yff, HR.out, h1', h2']
  rw [if_neg (show ¬ n = 1 by omega)]
  simp [Fl.by])
 have en : (n == 1) = false := by simp; omega
 have en2 : (n != 1) = true := by simp; omega
 clear hC hn hn1 hm ha
 clear h1
 rw [HR.out, HF.out]
 have tokA : True := trivial
 have tokB : True := trivial
 unfold Fl.cells
 go_enter Tryz.func50, Tryz.ntmps50
 have tokY : True := trivial
 go_wp2_with (first | (have _t := tokA; clear _t tokA; go_at_call 66; refine (Yca a (n - 1) _ HN.out.2 (by have := HN.out.1; omega)).mono ?_; rintro e w6 ⟨rfl, rfl⟩; rw [HC.out]) | (have _t := tokY; have H6 := Yh_ (AlW.of w ⟨C, d, e', z, n', o⟩ ⟨c, d, e', z, n', o⟩); have _t := tokY; clear _t tokY; go_at_call 63; refine (Ydp ⟨C, d, e', z, n', o⟩ R _ HRR.out).mono ?_; rintro e w7 ⟨rfl, hu⟩; have H7 := Yh_ (H6.out.quiet hu); simp only [Fl.by]; unfold Fl.cells; have c7 := Ya H7.out.z7; have f7 := Yg H7.out.z7; unfold Fl.cells at c7; clear hu H6))
 refine Yam 3 (AlW w ⟨C, Ycl R, e', R == 0, decide (2147483648 ≤ R), o⟩ ⟨c, d, e', z, n', o⟩) (fun _ _ => False) (by kernel_rfl) (by decide +kernel) (H7.out.st C (Ycl R) e' (R == 0) (decide (2147483648 ≤ R)) (o)).drew (fun _ _ _ h => h.elim) ?_
 simp only [List.take_succ_cons, List.take_zero, List.drop_succ_cons, List.drop_zero]
 iterate 3
  apply Yo rfl rfl
  ·intro K hK w5 hB1
   have c7 := Ya hB1.z7; unfold Fl.cells at c7
   have HB := Yh_ hB1
   clear hB1
   go_wp2_with fail
   first
   |exact hK _ HB.out
   |exact HB.out
  ·exact ⟨_, rfl⟩
 refine Yaa (fun _ w9 hB1 => ?_)
 have c9 := Ya hB1.z9
 have f9 := Yg hB1.z9
 unfold Fl.cells Fl.zero at c9
 have HZ := Yh_ hB1
 clear hB1
 go_wp2_with fail
 exact bodyPost_ret (Yag rfl (Yad 8 rfl) (Ybu 9 (w.heap.size + 1) ⟨C, Ycl R, e', R == 0, decide (2147483648 ≤ R), o⟩ rfl (Ybq HZ.out.z9 _ _ _ _ _ _))) rfl ⟨rfl, Yao HZ.out.u (.inr (by omega)) _ _ _ _ _ _⟩
theorem Ylp (a m n : Int) (f : Fl) (w : World) (ha : 0 ≤ a ∧ a < 4294967296) (hm : 0 ≤ m) (hn : m % 32 = n) (h1 : n = 1) :
  Calls Tryz.prog 50 #[.int .i64 21, .int .u32 a, .int .u32 m, .agg f.cells] w fun e w' => e = .returned (.tuple #[.int .u32 (shV 21 a n), .agg (shF 21 a n f).cells]) ∧ Upd [] w w' := by
 obtain ⟨c, d, e', z, n', o⟩ := f
 have hn1 : 1 ≤ n ∧ n < 32 := by omega
 have HN := Yh_ (And.intro hn1 ha)
 have e0 : m.tmod 32 = n := by rw [Int.tmod_eq_emod_of_nonneg hm]; exact hn
 have e00 : m % 32 = n := hn
 have ez : (n == 0) = false := by simp; omega
 have e32 : (32 - n) % 4294967296 = 32 - n := by omega
 have em1 : (n - 1) % 4294967296 = n - 1 := by omega
 have el1 : decide (n < 32) = true := by simp; omega
 have el2 : decide (32 - n < 32) = true := by simp; omega
 obtain ⟨R, hR⟩ : ∃ R, bits .or .u32 (a * 2 ^ n.toNat % 4294967296) (a / 2 ^ (32 - n).toNat) = R := ⟨_, rfl⟩
 have HR := Yh_ (show shV 21 a n = R from hR)
 have HRR := Yh_ (show 0 ≤ R ∧ R < 4294967296 from hR ▸ Ycp 21 a n ha)
 obtain ⟨C, hC⟩ : ∃ C, Ya5 R 0 = C := ⟨_, rfl⟩
 have HC := Yh_ hC
 have HF := Yh_ (show shF 21 a n ⟨c, d, e', z, n', o⟩ = ⟨C, d, e', z, n', (Ya5 R 31 != C)⟩ by
  have h1' : shC 21 a n = C := by rw [← hC]; simp [shC, HR.out]
  have h2' : shO 21 a n = (Ya5 R 31 != C) := by simp [shO, HR.out, h1']
  simp only [shF, Yff, HR.out, h1', h2']
  rw [if_pos h1]
  simp [Fl.by])
 have en : (n == 1) = true := by simpa using h1
 have en2 : (n != 1) = false := by simpa using h1
 clear hC hn hn1 hm ha
 clear h1
 rw [HR.out, HF.out]
 have tokA : True := trivial
 have tokB : True := trivial
 unfold Fl.cells
 go_enter Tryz.func50, Tryz.ntmps50
 go_wp2_with (first | (have _t := tokA; clear _t tokA; go_at_call 66; refine (Yca R 0 _ HRR.out (by decide)).mono ?_; rintro e w6 ⟨rfl, rfl⟩; rw [HC.out]))
 refine Yam 6 (AlW w ⟨C, d, e', z, n', o⟩ ⟨c, d, e', z, n', o⟩) (fun _ _ => False) (by kernel_rfl) (by decide +kernel) (AlW.of w ⟨C, d, e', z, n', o⟩ ⟨c, d, e', z, n', o⟩).drew (fun _ _ _ h => h.elim) ?_
 simp only [List.take_succ_cons, List.take_zero, List.drop_succ_cons, List.drop_zero]
 iterate 1
  apply Yo rfl rfl
  ·intro K hK w5 hB1
   have c7 := Ya hB1.z7; unfold Fl.cells at c7
   have HB := Yh_ hB1
   clear hB1
   go_wp2_with fail
   first
   |exact hK _ HB.out
   |exact HB.out
  ·exact ⟨_, rfl⟩
 apply Yo rfl rfl
 ·intro K hK w5 hB1
  have HB := Yh_ hB1
  clear hB1
  go_wp2_with (go_at_call 66; refine (Yca R 31 _ HRR.out (by decide)).mono ?_; rintro e w6 ⟨rfl, rfl⟩)
  first
  |exact hK _ HB.out
  |exact HB.out
 ·exact ⟨_, rfl⟩
 iterate 4
  apply Yo rfl rfl
  ·intro K hK w5 hB1
   have c7 := Ya hB1.z7; unfold Fl.cells at c7
   have HB := Yh_ hB1
   clear hB1
   go_wp2_with fail
   first
   |exact hK _ HB.out
   |exact HB.out
  ·exact ⟨_, rfl⟩
 refine Yaa (fun _ w6 hB1 => ?_)
 have c7 := Ya hB1.z7
 have f7 := Yg hB1.z7
 have c10 := Ya hB1.z10
 unfold Fl.cells at c7 c10
 have H5 := Yh_ hB1
 clear hB1
 go_wp2_with fail
 refine Yam 3 (AlW w ⟨C, d, e', z, n', (Ya5 R 31 != C)⟩ ⟨c, d, e', z, n', o⟩) (fun _ _ => False) (by kernel_rfl) (by decide +kernel) (H5.out.put 5 ((Ya5 R 31 != C)) ⟨C, d, e', z, n', (Ya5 R 31 != C)⟩ rfl).drew (fun _ _ _ h => h.elim) ?_
 simp only [List.take_succ_cons, List.take_zero, List.drop_succ_cons, List.drop_zero]
 iterate 3
  apply Yo rfl rfl
  ·intro K hK w5 hB1
   have c7 := Ya hB1.z7; unfold Fl.cells at c7
   have HB := Yh_ hB1
   clear hB1
   go_wp2_with fail
   first
   |exact hK _ HB.out
   |exact HB.out
  ·exact ⟨_, rfl⟩
 refine Yaa (fun _ w9 hB1 => ?_)
 have c9 := Ya hB1.z9
 have f9 := Yg hB1.z9
 unfold Fl.cells Fl.zero at c9
 have HZ := Yh_ hB1
 clear hB1
 go_wp2_with fail
 exact bodyPost_ret (Yag rfl (Yad 8 rfl) (Ybu 9 (w.heap.size + 1) ⟨C, d, e', z, n', (Ya5 R 31 != C)⟩ rfl (Ybq HZ.out.z9 _ _ _ _ _ _))) rfl ⟨rfl, Yao HZ.out.u (.inr (by omega)) _ _ _ _ _ _⟩
theorem Ykf (a m n : Int) (f : Fl) (w : World) (ha : 0 ≤ a ∧ a < 4294967296) (hm : 0 ≤ m) (hn : m % 32 = n) (h1 : 1 < n) :
  Calls Tryz.prog 50 #[.int .i64 21, .int .u32 a, .int .u32 m, .agg f.cells] w fun e w' => e = .returned (.tuple #[.int .u32 (shV 21 a n), .agg (shF 21 a n f).cells]) ∧ Upd [] w w' := by
 obtain ⟨c, d, e', z, n', o⟩ := f
 have hn1 : 1 ≤ n ∧ n < 32 := by omega
 have HN := Yh_ (And.intro hn1 ha)
 have e0 : m.tmod 32 = n := by rw [Int.tmod_eq_emod_of_nonneg hm]; exact hn
 have e00 : m % 32 = n := hn
 have ez : (n == 0) = false := by simp; omega
 have e32 : (32 - n) % 4294967296 = 32 - n := by omega
 have em1 : (n - 1) % 4294967296 = n - 1 := by omega
 have el1 : decide (n < 32) = true := by simp; omega
 have el2 : decide (32 - n < 32) = true := by simp; omega
 obtain ⟨R, hR⟩ : ∃ R, bits .or .u32 (a * 2 ^ n.toNat % 4294967296) (a / 2 ^ (32 - n).toNat) = R := ⟨_, rfl⟩
 have HR := Yh_ (show shV 21 a n = R from hR)
 have HRR := Yh_ (show 0 ≤ R ∧ R < 4294967296 from hR ▸ Ycp 21 a n ha)
 obtain ⟨C, hC⟩ : ∃ C, Ya5 R 0 = C := ⟨_, rfl⟩
 have HC := Yh_ hC
 have HF := Yh_ (show shF 21 a n ⟨c, d, e', z, n', o⟩ = ⟨C, d, e', z, n', o⟩ by
  have h1' : shC 21 a n = C := by rw [← hC]; simp [shC, HR.out]
  have h2' : shO 21 a n = (Ya5 R 31 != C) := by simp [shO, HR.out, h1']
  simp only [shF, Yff, HR.out, h1', h2']
  rw [if_neg (show ¬ n = 1 by omega)]
  simp [Fl.by])
 have en : (n == 1) = false := by simp; omega
 have en2 : (n != 1) = true := by simp; omega
 clear hC hn hn1 hm ha
 clear h1
 rw [HR.out, HF.out]
 have tokA : True := trivial
 have tokB : True := trivial
 unfold Fl.cells
 go_enter Tryz.func50, Tryz.ntmps50
 go_wp2_with (first | (have _t := tokA; clear _t tokA; go_at_call 66; refine (Yca R 0 _ HRR.out (by decide)).mono ?_; rintro e w6 ⟨rfl, rfl⟩; rw [HC.out]))
 refine Yam 6 (AlW w ⟨C, d, e', z, n', o⟩ ⟨c, d, e', z, n', o⟩) (fun _ _ => False) (by kernel_rfl) (by decide +kernel) (AlW.of w ⟨C, d, e', z, n', o⟩ ⟨c, d, e', z, n', o⟩).drew (fun _ _ _ h => h.elim) ?_
 simp only [List.take_succ_cons, List.take_zero, List.drop_succ_cons, List.drop_zero]
 iterate 1
  apply Yo rfl rfl
  ·intro K hK w5 hB1
   have c7 := Ya hB1.z7; unfold Fl.cells at c7
   have HB := Yh_ hB1
   clear hB1
   go_wp2_with fail
   first
   |exact hK _ HB.out
   |exact HB.out
  ·exact ⟨_, rfl⟩
 apply Yo rfl rfl
 ·intro K hK w5 hB1
  have HB := Yh_ hB1
  clear hB1
  go_wp2_with (go_at_call 66; refine (Yca R 31 _ HRR.out (by decide)).mono ?_; rintro e w6 ⟨rfl, rfl⟩)
  first
  |exact hK _ HB.out
  |exact HB.out
 ·exact ⟨_, rfl⟩
 iterate 4
  apply Yo rfl rfl
  ·intro K hK w5 hB1
   have c7 := Ya hB1.z7; unfold Fl.cells at c7
   have HB := Yh_ hB1
   clear hB1
   go_wp2_with fail
   first
   |exact hK _ HB.out
   |exact HB.out
  ·exact ⟨_, rfl⟩
 refine Yaa (fun _ w6 hB1 => ?_)
 have c7 := Ya hB1.z7
 have f7 := Yg hB1.z7
 have c10 := Ya hB1.z10
 unfold Fl.cells at c7 c10
 have H5 := Yh_ hB1
 clear hB1
 go_wp2_with fail
 refine Yam 3 (AlW w ⟨C, d, e', z, n', o⟩ ⟨c, d, e', z, n', o⟩) (fun _ _ => False) (by kernel_rfl) (by decide +kernel) ((H5.out.put 5 ((Ya5 R 31 != C)) ⟨C, d, e', z, n', (Ya5 R 31 != C)⟩ rfl).put 5 o ⟨C, d, e', z, n', o⟩ rfl).drew (fun _ _ _ h => h.elim) ?_
 simp only [List.take_succ_cons, List.take_zero, List.drop_succ_cons, List.drop_zero]
 iterate 3
  apply Yo rfl rfl
  ·intro K hK w5 hB1
   have c7 := Ya hB1.z7; unfold Fl.cells at c7
   have HB := Yh_ hB1
   clear hB1
   go_wp2_with fail
   first
   |exact hK _ HB.out
   |exact HB.out
  ·exact ⟨_, rfl⟩
 refine Yaa (fun _ w9 hB1 => ?_)
 have c9 := Ya hB1.z9
 have f9 := Yg hB1.z9
 unfold Fl.cells Fl.zero at c9
 have HZ := Yh_ hB1
 clear hB1
 go_wp2_with fail
 exact bodyPost_ret (Yag rfl (Yad 8 rfl) (Ybu 9 (w.heap.size + 1) ⟨C, d, e', z, n', o⟩ rfl (Ybq HZ.out.z9 _ _ _ _ _ _))) rfl ⟨rfl, Yao HZ.out.u (.inr (by omega)) _ _ _ _ _ _⟩
theorem Yl1 (a m n : Int) (f : Fl) (w : World) (ha : 0 ≤ a ∧ a < 4294967296) (hm : 0 ≤ m) (hn : m % 32 = n) (h1 : n = 1) :
  Calls Tryz.prog 50 #[.int .i64 22, .int .u32 a, .int .u32 m, .agg f.cells] w fun e w' => e = .returned (.tuple #[.int .u32 (shV 22 a n), .agg (shF 22 a n f).cells]) ∧ Upd [] w w' := by
 obtain ⟨c, d, e', z, n', o⟩ := f
 have hn1 : 1 ≤ n ∧ n < 32 := by omega
 have HN := Yh_ (And.intro hn1 ha)
 have e0 : m.tmod 32 = n := by rw [Int.tmod_eq_emod_of_nonneg hm]; exact hn
 have e00 : m % 32 = n := hn
 have ez : (n == 0) = false := by simp; omega
 have e32 : (32 - n) % 4294967296 = 32 - n := by omega
 have em1 : (n - 1) % 4294967296 = n - 1 := by omega
 have el1 : decide (n < 32) = true := by simp; omega
 have el2 : decide (32 - n < 32) = true := by simp; omega
 obtain ⟨R, hR⟩ : ∃ R, bits .or .u32 (a / 2 ^ n.toNat) (a * 2 ^ (32 - n).toNat % 4294967296) = R := ⟨_, rfl⟩
 have HR := Yh_ (show shV 22 a n = R from hR)
 have HRR := Yh_ (show 0 ≤ R ∧ R < 4294967296 from hR ▸ Ycp 22 a n ha)
 obtain ⟨C, hC⟩ : ∃ C, Ya5 R 31 = C := ⟨_, rfl⟩
 have HC := Yh_ hC
 have HF := Yh_ (show shF 22 a n ⟨c, d, e', z, n', o⟩ = ⟨C, d, e', z, n', (C != Ya5 R 30)⟩ by
  have h1' : shC 22 a n = C := by rw [← hC]; simp [shC, HR.out]
  have h2' : shO 22 a n = (C != Ya5 R 30) := by simp [shO, HR.out, h1', shC, hC]
  simp only [shF, Yff, HR.out, h1', h2']
  rw [if_pos h1]
  simp [Fl.by])
 have en : (n == 1) = true := by simpa using h1
 have en2 : (n != 1) = false := by simpa using h1
 clear hC hn hn1 hm ha
 clear h1
 rw [HR.out, HF.out]
 have tokA : True := trivial
 have tokB : True := trivial
 unfold Fl.cells
 go_enter Tryz.func50, Tryz.ntmps50
 go_wp2_with (first | (have _t := tokA; clear _t tokA; go_at_call 66; refine (Yca R 31 _ HRR.out (by decide)).mono ?_; rintro e w6 ⟨rfl, rfl⟩; rw [HC.out]))
 refine Yam 6 (AlW w ⟨C, d, e', z, n', o⟩ ⟨c, d, e', z, n', o⟩) (fun _ _ => False) (by kernel_rfl) (by decide +kernel) (AlW.of w ⟨C, d, e', z, n', o⟩ ⟨c, d, e', z, n', o⟩).drew (fun _ _ _ h => h.elim) ?_
 simp only [List.take_succ_cons, List.take_zero, List.drop_succ_cons, List.drop_zero]
 iterate 3
  apply Yo rfl rfl
  ·intro K hK w5 hB1
   have c7 := Ya hB1.z7; unfold Fl.cells at c7
   have HB := Yh_ hB1
   clear hB1
   go_wp2_with fail
   first
   |exact hK _ HB.out
   |exact HB.out
  ·exact ⟨_, rfl⟩
 apply Yo rfl rfl
 ·intro K hK w5 hB1
  have HB := Yh_ hB1
  clear hB1
  go_wp2_with (go_at_call 66; refine (Yca R 30 _ HRR.out (by decide)).mono ?_; rintro e w6 ⟨rfl, rfl⟩)
  first
  |exact hK _ HB.out
  |exact HB.out
 ·exact ⟨_, rfl⟩
 iterate 2
  apply Yo rfl rfl
  ·intro K hK w5 hB1
   have c7 := Ya hB1.z7; unfold Fl.cells at c7
   have HB := Yh_ hB1
   clear hB1
   go_wp2_with fail
   first
   |exact hK _ HB.out
   |exact HB.out
  ·exact ⟨_, rfl⟩
 refine Yaa (fun _ w6 hB1 => ?_)
 have c7 := Ya hB1.z7
 have f7 := Yg hB1.z7
 have c10 := Ya hB1.z10
 unfold Fl.cells at c7 c10
 have H5 := Yh_ hB1
 clear hB1
 go_wp2_with fail
 refine Yam 3 (AlW w ⟨C, d, e', z, n', (C != Ya5 R 30)⟩ ⟨c, d, e', z, n', o⟩) (fun _ _ => False) (by kernel_rfl) (by decide +kernel) (H5.out.put 5 ((C != Ya5 R 30)) ⟨C, d, e', z, n', (C != Ya5 R 30)⟩ rfl).drew (fun _ _ _ h => h.elim) ?_
 simp only [List.take_succ_cons, List.take_zero, List.drop_succ_cons, List.drop_zero]
 iterate 3
  apply Yo rfl rfl
  ·intro K hK w5 hB1
   have c7 := Ya hB1.z7; unfold Fl.cells at c7
   have HB := Yh_ hB1
   clear hB1
   go_wp2_with fail
   first
   |exact hK _ HB.out
   |exact HB.out
  ·exact ⟨_, rfl⟩
 refine Yaa (fun _ w9 hB1 => ?_)
 have c9 := Ya hB1.z9
 have f9 := Yg hB1.z9
 unfold Fl.cells Fl.zero at c9
 have HZ := Yh_ hB1
 clear hB1
 go_wp2_with fail
 exact bodyPost_ret (Yag rfl (Yad 8 rfl) (Ybu 9 (w.heap.size + 1) ⟨C, d, e', z, n', (C != Ya5 R 30)⟩ rfl (Ybq HZ.out.z9 _ _ _ _ _ _))) rfl ⟨rfl, Yao HZ.out.u (.inr (by omega)) _ _ _ _ _ _⟩
theorem Ykd (a m n : Int) (f : Fl) (w : World) (ha : 0 ≤ a ∧ a < 4294967296) (hm : 0 ≤ m) (hn : m % 32 = n) (h1 : 1 < n) :
  Calls Tryz.prog 50 #[.int .i64 22, .int .u32 a, .int .u32 m, .agg f.cells] w fun e w' => e = .returned (.tuple #[.int .u32 (shV 22 a n), .agg (shF 22 a n f).cells]) ∧ Upd [] w w' := by
 obtain ⟨c, d, e', z, n', o⟩ := f
 have hn1 : 1 ≤ n ∧ n < 32 := by omega
 have HN := Yh_ (And.intro hn1 ha)
 have e0 : m.tmod 32 = n := by rw [Int.tmod_eq_emod_of_nonneg hm]; exact hn
 have e00 : m % 32 = n := hn
 have ez : (n == 0) = false := by simp; omega
 have e32 : (32 - n) % 4294967296 = 32 - n := by omega
 have em1 : (n - 1) % 4294967296 = n - 1 := by omega
 have el1 : decide (n < 32) = true := by simp; omega
 have el2 : decide (32 - n < 32) = true := by simp; omega
 obtain ⟨R, hR⟩ : ∃ R, bits .or .u32 (a / 2 ^ n.toNat) (a * 2 ^ (32 - n).toNat % 4294967296) = R := ⟨_, rfl⟩
 have HR := Yh_ (show shV 22 a n = R from hR)
 have HRR := Yh_ (show 0 ≤ R ∧ R < 4294967296 from hR ▸ Ycp 22 a n ha)
 obtain ⟨C, hC⟩ : ∃ C, Ya5 R 31 = C := ⟨_, rfl⟩
 have HC := Yh_ hC
 have HF := Yh_ (show shF 22 a n ⟨c, d, e', z, n', o⟩ = ⟨C, d, e', z, n', o⟩ by
  have h1' : shC 22 a n = C := by rw [← hC]; simp [shC, HR.out]
  have h2' : shO 22 a n = (C != Ya5 R 30) := by simp [shO, HR.out, h1', shC, hC]
  simp only [shF, Yff, HR.out, h1', h2']
  rw [if_neg (show ¬ n = 1 by omega)]
  simp [Fl.by])
 have en : (n == 1) = false := by simp; omega
 have en2 : (n != 1) = true := by simp; omega
 clear hC hn hn1 hm ha
 clear h1
 rw [HR.out, HF.out]
 have tokA : True := trivial
 have tokB : True := trivial
 unfold Fl.cells
 go_enter Tryz.func50, Tryz.ntmps50
 go_wp2_with (first | (have _t := tokA; clear _t tokA; go_at_call 66; refine (Yca R 31 _ HRR.out (by decide)).mono ?_; rintro e w6 ⟨rfl, rfl⟩; rw [HC.out]))
 refine Yam 6 (AlW w ⟨C, d, e', z, n', o⟩ ⟨c, d, e', z, n', o⟩) (fun _ _ => False) (by kernel_rfl) (by decide +kernel) (AlW.of w ⟨C, d, e', z, n', o⟩ ⟨c, d, e', z, n', o⟩).drew (fun _ _ _ h => h.elim) ?_
 simp only [List.take_succ_cons, List.take_zero, List.drop_succ_cons, List.drop_zero]
 iterate 3
  apply Yo rfl rfl
  ·intro K hK w5 hB1
   have c7 := Ya hB1.z7; unfold Fl.cells at c7
   have HB := Yh_ hB1
   clear hB1
   go_wp2_with fail
   first
   |exact hK _ HB.out
   |exact HB.out
  ·exact ⟨_, rfl⟩
 apply Yo rfl rfl
 ·intro K hK w5 hB1
  have HB := Yh_ hB1
  clear hB1
  go_wp2_with (go_at_call 66; refine (Yca R 30 _ HRR.out (by decide)).mono ?_; rintro e w6 ⟨rfl, rfl⟩)
  first
  |exact hK _ HB.out
  |exact HB.out
 ·exact ⟨_, rfl⟩
 iterate 2
  apply Yo rfl rfl
  ·intro K hK w5 hB1
   have c7 := Ya hB1.z7; unfold Fl.cells at c7
   have HB := Yh_ hB1
   clear hB1
   go_wp2_with fail
   first
   |exact hK _ HB.out
   |exact HB.out
  ·exact ⟨_, rfl⟩
 refine Yaa (fun _ w6 hB1 => ?_)
 have c7 := Ya hB1.z7
 have f7 := Yg hB1.z7
 have c10 := Ya hB1.z10
 unfold Fl.cells at c7 c10
 have H5 := Yh_ hB1
 clear hB1
 go_wp2_with fail
 refine Yam 3 (AlW w ⟨C, d, e', z, n', o⟩ ⟨c, d, e', z, n', o⟩) (fun _ _ => False) (by kernel_rfl) (by decide +kernel) ((H5.out.put 5 ((C != Ya5 R 30)) ⟨C, d, e', z, n', (C != Ya5 R 30)⟩ rfl).put 5 o ⟨C, d, e', z, n', o⟩ rfl).drew (fun _ _ _ h => h.elim) ?_
 simp only [List.take_succ_cons, List.take_zero, List.drop_succ_cons, List.drop_zero]
 iterate 3
  apply Yo rfl rfl
  ·intro K hK w5 hB1
   have c7 := Ya hB1.z7; unfold Fl.cells at c7
   have HB := Yh_ hB1
   clear hB1
   go_wp2_with fail
   first
   |exact hK _ HB.out
   |exact HB.out
  ·exact ⟨_, rfl⟩
 refine Yaa (fun _ w9 hB1 => ?_)
 have c9 := Ya hB1.z9
 have f9 := Yg hB1.z9
 unfold Fl.cells Fl.zero at c9
 have HZ := Yh_ hB1
 clear hB1
 go_wp2_with fail
 exact bodyPost_ret (Yag rfl (Yad 8 rfl) (Ybu 9 (w.heap.size + 1) ⟨C, d, e', z, n', o⟩ rfl (Ybq HZ.out.z9 _ _ _ _ _ _))) rfl ⟨rfl, Yao HZ.out.u (.inr (by omega)) _ _ _ _ _ _⟩
theorem Yl5 (op a m : Int) (f : Fl) (w : World) (ha : 0 ≤ a ∧ a < 4294967296) (hm : 0 ≤ m) (hn : m % 32 = 0) :
  Calls Tryz.prog 50 #[.int .i64 op, .int .u32 a, .int .u32 m, .agg f.cells] w fun e w' => e = .returned (.tuple #[.int .u32 a, .agg f.cells]) ∧ Upd [] w w' := by
 obtain ⟨c, d, e', z, n', o⟩ := f
 have e0 : m.tmod 32 = 0 := by rw [Int.tmod_eq_emod_of_nonneg hm]; exact hn
 clear hm ha
 unfold Fl.cells
 go_enter Tryz.func50, Tryz.ntmps50
 go_wp2_with fail
 have h0 : (((w.alloc (.cells (Fl.cells ⟨c, d, e', z, n', o⟩) 25)).alloc (.cells Fl.zero.cells 25))).heap[w.heap.size]? = some (.cells (Fl.cells ⟨c, d, e', z, n', o⟩) 25 (0, 0)) := heap_alloc2_old _ _ _
 have h9 : (((w.alloc (.cells (Fl.cells ⟨c, d, e', z, n', o⟩) 25)).alloc (.cells Fl.zero.cells 25))).heap[w.heap.size + 1]? = some (.cells Fl.zero.cells 25 (0, 0)) := heap_alloc2_new _ _ _
 have hu : Upd [] w ((w.alloc (.cells (Fl.cells ⟨c, d, e', z, n', o⟩) 25)).alloc (.cells Fl.zero.cells 25)) := ((Upd.refl [] w).alloc _).alloc _
 refine Yam 3 (AlE w ⟨c, d, e', z, n', o⟩) (fun _ _ => False) (by kernel_rfl) (by decide +kernel) (AlE.drew ⟨h0, h9, hu⟩) (fun _ _ _ h => h.elim) ?_
 simp only [List.take_succ_cons, List.take_zero, List.drop_succ_cons, List.drop_zero]
 iterate 3
  apply Yo rfl rfl
  ·intro K hK w5 hB1
   have c7 := Ya hB1.r7; unfold Fl.cells at c7
   have HB := Yh_ hB1
   clear hB1
   go_wp2_with fail
   first
   |exact hK _ HB.out
   |exact HB.out
  ·exact ⟨_, rfl⟩
 refine Yaa (fun _ w9 hB1 => ?_)
 have c9 := Ya hB1.r9
 have f9 := Yg hB1.r9
 unfold Fl.cells Fl.zero at c9
 have HZ := Yh_ hB1
 clear hB1
 go_wp2_with fail
 exact bodyPost_ret (Yag rfl (Yad 8 rfl) (Ybu 9 (w.heap.size + 1) ⟨c, d, e', z, n', o⟩ rfl (Ybq HZ.out.r9 _ _ _ _ _ _))) rfl ⟨rfl, Yao HZ.out.u (.inr (by omega)) _ _ _ _ _ _⟩
def isSh (op : Int) : Bool := decide (21 ≤ op) && decide (op ≤ 25)
def Yd8 (op a m : Int) : Int := if m % 32 = 0 then a else shV op a (m % 32)
def Yfa (op a m : Int) (f : Fl) : Fl := if m % 32 = 0 then f else shF op a (m % 32) f
theorem Ykn (op a m : Int) (ha : 0 ≤ a ∧ a < 4294967296) : 0 ≤ Yd8 op a m ∧ Yd8 op a m < 4294967296 := by
 unfold Yd8; split
 ·exact ha
 ·exact Ycp op a _ ha
theorem Yp5 (op a m : Int) (f : Fl) (w : World) (hop : isSh op = true) (ha : 0 ≤ a ∧ a < 4294967296) (hm : 0 ≤ m) :
  Calls Tryz.prog 50 #[.int .i64 op, .int .u32 a, .int .u32 m, .agg f.cells] w fun e w' => e = .returned (.tuple #[.int .u32 (Yd8 op a m), .agg (Yfa op a m f).cells]) ∧ Upd [] w w' := by
 unfold Yd8 Yfa
 by_cases h0 : m % 32 = 0
 ·rw [if_pos h0, if_pos h0]; exact Yl5 op a m f w ha hm h0
 ·rw [if_neg h0, if_neg h0]
  have ho : op = 21 ∨ op = 22 ∨ op = 23 ∨ op = 24 ∨ op = 25 := by simp [isSh] at hop; omega
  by_cases h1 : m % 32 = 1
  ·rcases ho with rfl | rfl | rfl | rfl | rfl
   ·exact Ylp a m _ f w ha hm rfl h1
   ·exact Yl1 a m _ f w ha hm rfl h1
   ·exact Yl0 a m _ f w ha hm rfl h1
   ·exact Yln a m _ f w ha hm rfl h1
   ·exact Ylt a m _ f w ha hm rfl h1
  ·have h2 : 1 < m % 32 := by omega
   rcases ho with rfl | rfl | rfl | rfl | rfl
   ·exact Ykf a m _ f w ha hm rfl h2
   ·exact Ykd a m _ f w ha hm rfl h2
   ·exact Ykg a m _ f w ha hm rfl h2
   ·exact Yke a m _ f w ha hm rfl h2
   ·exact Yj9 a m _ f w ha hm rfl h2
end
section
theorem Ymv {P : Program} {Q : Exit → Act → World → Prop} {a : Act} {w : World} {l : List Oper} (n : Nat) (B : (Nat → Bool) → (Nat → Value) → World → Prop) (X : List PanicEntry → World → Prop) (hok : Yem l.toArray n = true)
  (hB : ∀ r, B (fun _ => false) r w.drew)
  (hX : ∀ c a' w', X c w' → a'.defers = a.defers → a'.tmps.size = a.tmps.size → (∀ t, Yhz l n t = true → a'.tmps[t]? = a.tmps[t]?) → Q (.panic c) a' w')
  (h : Ycq P l.toArray B X n (fun dead free F => dead = [] → ∀ r w1 d, (∀ j, j < n → d j = true) → B d r w1 → wpList P l.toArray Q (l.drop n) (Yn l.toArray r free F) w1) [] [] 0 (l.take n) a) : wpAny P .any l.toArray Q l.toArray.size (Array.replicate l.toArray.size false) a w.drew := by
 simp only [Yem, Bool.and_eq_true, Bool.or_eq_true, decide_eq_true_eq] at hok
 obtain ⟨⟨hh, ht⟩, hq⟩ := hok
 have hk := Ye1 hh
 have hle : n ≤ l.length := by simpa using hk.le
 have htl : (l.take n).length = n := by simp; omega
 obtain ⟨vs, dead, free, F, hf, hr, _, hdn, _, hfn⟩ := Ydu hk (l.take n) 0 [] [] a (fun j hj => by
  have hj' : j < n := by rw [htl] at hj; exact hj
  simp [hj']) (by simpa using htl) (by simp) (by simp) h
 have hun : Yco n (Array.replicate l.toArray.size false) = n := by
  have : ∀ i, i ∈ List.range n → (!(Array.replicate l.toArray.size false).getD i true) = true := fun i hi => by
   have hi' : i < l.toArray.size := by have := List.mem_range.1 hi; simp; omega
   have hi'' : i < l.length := by simpa using hi'
   simp [hi'']
  unfold Yco
  rw [List.countP_eq_length.2 this, List.length_range]
 have inv0 : HeadInv .any l.toArray n (Array.replicate l.toArray.size false) :=
  ⟨by simp, fun j oj _ hl => (by rw [getD_replicate_false] at hl; cases hl), fun t _ ht => getD_in (by simpa using ht) (getD_replicate_false _ _)⟩
 have hgo := Yf4 (Q := Q) hk hr hdn hfn ?_ (fun c a' w' hx h1 h2 h3 => hX c a' w' hx h1 h2 fun t ht' => h3 t fun j oj g1 g2 => Yfo ht' j oj g1 (by simpa using g2)) ?_ n (fun _ => undef) _ a w.drew hun
  ⟨inv0, by rw [Yg8]; exact hB _, rfl, rfl, fun j _ hl => (by rw [getD_replicate_false] at hl; cases hl), fun _ _ => rfl, fun j oj t _ _ _ hl => (by rw [getD_replicate_false] at hl; cases hl), fun j oj t _ _ _ hl => (by rw [getD_replicate_false] at hl; cases hl)⟩
 ·rw [show n + (l.toArray.size - n) = l.toArray.size by simp; omega] at hgo
  exact hgo
 ·intro listed inv i hi hun t hnt
  rcases ht with ht | ⟨⟨h1, h2⟩, h3⟩
  ·intro hrd
   obtain ⟨_, o, ho, _⟩ := mem_ready.1 hrd
   have := (Array.getElem?_eq_some_iff.1 ho).1
   omega
  ·exact tail_waits h2 h3 h1 inv _ i rfl hi hun t hnt
 ·intro listed r w1 inv hall hd hBw
  have hlst : listed = Array.replicate n true ++ Array.replicate (l.toArray.size - n) false := by
   apply Array.ext
   ·rw [inv.size]; simp; omega
   ·intro i h1 h2
    by_cases hi : i < n
    ·have := hall i hi
     simp [h1] at this
     rw [this, Array.getElem_append_left (by simpa using hi)]
     simp
    ·have := inv.tail i (by omega) (by rw [← inv.size]; exact h1)
     simp [h1] at this
     rw [this, Array.getElem_append_right (by simpa using hi)]
     simp
  have hdl : (l.drop n).length = l.toArray.size - n := by simp
  have := wpAny_of_seq (md := .any) (P := P) (ops := l.toArray) (Q' := Q) (l.drop n) n listed (Yn l.toArray r free F) w1 (fun j => by simp [List.getElem?_drop]) (by rw [hdl, hlst]; exact hq) (hf hd r w1 (Ycv listed) (fun j hj => by
   have h1 := hall j hj
   have h2 : j < listed.size := by rw [inv.size]; have := hk.le; omega
   simp only [Ycv]
   simp [h2] at h1 ⊢; exact h1) hBw)
  rwa [hdl] at this
theorem Yoy {P : Program} {Q : Exit → Act → World → Prop} {o : Oper} {a : Act} {w : World} {K : Act → World → Prop} (h : o.wp P a w K Q) :
  o.wp P a w (fun a' w' => K a' w' ∧ ∃ d v, a' = ({ a with defers := d } : Act).put o.dst v) Q := by
 unfold Oper.wp at *
 generalize (execOp a.eval o).run P w = r at *
 cases r with
 |ok n w' =>
  cases n <;> simp only [Oper.upon] at h ⊢
  case value v => exact ⟨h, a.defers, v, rfl⟩
  case skip => exact ⟨h, a.defers, undef, rfl⟩
  case defer d => exact ⟨h, _, undef, rfl⟩
  case enter f args => exact Calls.mono h (fun e w'' he => by cases e <;> first | exact ⟨he, a.defers, _, rfl⟩ | exact he)
  case row row args => exact Rows.mono h (fun _ _ he => ⟨he, a.defers, _, rfl⟩)
 |halt x w' => cases x <;> simp only [Oper.upon] at h ⊢ <;> exact h
def lateOk (ops : Array Oper) (i t : Nat) (late : List Nat) : Bool :=
 (List.range ops.size).all fun k =>
  match ops[k]? with
  |none => true
  |some o => (!late.contains k || o.after.any fun e => Region.binds .any e && (e.on == i || late.contains e.on)) && (o.dst != some t || late.contains k)
def Ygp (l : List Oper) (i : Nat) (v : Value) : List Oper := l.modify i fun o => { o with op := .move (.const v) }
section
variable {P : Program} {Q : Exit → Act → World → Prop} {ops ops2 : Array Oper} {i t : Nat} {v : Value} {late : List Nat} {o : Oper}
theorem Yo6 (hsz : ops2.size = ops.size) (hne : ∀ k, k ≠ i → ops2[k]? = ops[k]?) (ho : ops[i]? = some o) (ho2 : ops2[i]? = some { o with op := .move (.const v) }) (hop : o.op = .move (.tmp t)) (hl : lateOk ops i t late = true) :
  ∀ (fuel : Nat) (listed : Array Bool) (a : Act) (w : World), (listed.getD i false = false → a.tmps.getD t undef = v) → (∀ k, k ∈ late → listed.getD k false = true → listed.getD i false = true) →
   wpAny P .any ops2 Q fuel listed a w → wpAny P .any ops Q fuel listed a w := by
 have hrd : ∀ listed, Region.ready .any ops2 listed = Region.ready .any ops listed := by
  intro listed
  unfold Region.ready
  rw [hsz]
  refine List.filter_congr fun k hk => ?_
  by_cases e : k = i
  ·subst e; rw [ho, ho2]; rfl
  ·rw [hne k e]
 have hy : ∀ tm, yielded ops2 tm = yielded ops tm := by
  intro tm
  funext g
  unfold yielded
  by_cases e : g = i
  ·subst e; rw [ho, ho2]; rfl
  ·rw [hne g e]
 intro fuel
 induction fuel with
 |zero => intro listed a w _ _ h; exact ⟨by rw [← hrd]; exact h.1, h.2⟩
 |succ fuel ih =>
  intro listed a w h1 h2 h
  obtain ⟨g1, g2⟩ := h
  rw [hrd] at g1 g2
  refine ⟨g1, fun k hk => ?_⟩
  have hw := g2 k hk
  obtain ⟨hun, ok, hok, hall⟩ := mem_ready.1 hk
  have hks : k < ops.size := (Array.getElem?_eq_some_iff.1 hok).1
  have hlk := List.all_eq_true.1 hl k (List.mem_range.2 hks)
  rw [hok] at hlk
  simp only [Bool.and_eq_true, Bool.or_eq_true, Bool.not_eq_true'] at hlk
  have hklt : k < listed.size := by
   rcases Nat.lt_or_ge k listed.size with h | h
   ·exact h
   ·rw [Array.getD_eq_getD_getElem?, Array.getElem?_eq_none h] at hun; cases hun
  -- what is late waits
  have hlate : k ∈ late → listed.getD i false = true := by
   intro hm
   rcases hlk.1 with hf | hf
   ·rw [List.contains_iff_mem.2 hm] at hf; cases hf
   ·simp only [Array.any_eq_true', Bool.and_eq_true, Bool.or_eq_true, beq_iff_eq, List.contains_iff_mem] at hf
    obtain ⟨e, he, hb, hon⟩ := hf
    have hle := hall e he hb
    rcases hon with hon | hon
    ·rw [hon] at hle; exact hle
    ·exact h2 _ hon hle
  have hset : ∀ j, (listed.setIfInBounds k true).getD j false = true ↔ (j = k ∨ listed.getD j false = true) := by
   intro j
   by_cases e : k = j
   ·subst e; simp [hklt]
   ·rw [getD_set_ne false e]
    exact ⟨.inr, fun h => h.resolve_left (fun h => e h.symm)⟩
  have hinv2 : ∀ j, j ∈ late → (listed.setIfInBounds k true).getD j false = true → (listed.setIfInBounds k true).getD i false = true := by
   intro j hj hlj
   rw [hset]
   rcases (hset j).1 hlj with rfl | hlj
   ·exact .inr (hlate hj)
   ·exact .inr (h2 j hj hlj)
  have hinv1 : ∀ d u, (listed.setIfInBounds k true).getD i false = false → (({ a with defers := d } : Act).put ok.dst u).tmps.getD t undef = v := by
   intro d u hi
   have hni : k ≠ i := fun e => by
    have := (hset i).2 (.inl e.symm)
    rw [hi] at this; cases this
   have hli : listed.getD i false = false := by
    cases hc : listed.getD i false with
    |false => rfl
    |true => rw [(hset i).2 (.inr hc)] at hi; cases hi
   have hdst : ok.dst ≠ some t := fun he => by
    rcases hlk.2 with hf | hf
    ·rw [he] at hf; simp at hf
    ·have := hlate (List.contains_iff_mem.1 hf); rw [hli] at this; cases this
   rw [Array.getD_eq_getD_getElem?, Ybo _ _ _ _ hdst, ← Array.getD_eq_getD_getElem?]
   exact h1 hli
  have hK : ∀ a' w', wpAny P .any ops2 Q fuel (listed.setIfInBounds k true) a' w' ∧ (∃ d u, a' = ({ a with defers := d } : Act).put ok.dst u) → wpAny P .any ops Q fuel (listed.setIfInBounds k true) a' w' := by
   rintro a' w' ⟨hx, d, u, rfl⟩
   exact ih _ _ _ (hinv1 d u) hinv2 hx
  unfold wpOp at hw ⊢
  rw [hok]
  by_cases e : k = i
  ·subst e
   obtain rfl : ok = o := Option.some.inj (hok.symm.trans ho)
   rw [ho2] at hw
   simp only [hy] at hw
   have hwt : Region.wanted ({ ok with op := .move (.const v) } : Oper) (yielded ops a.tmps) = Region.wanted ok (yielded ops a.tmps) := rfl
   have hli : listed.getD k false = false := by
    rw [Array.getD_eq_getD_getElem?] at hun ⊢
    rw [Array.getElem?_eq_getElem hklt] at hun ⊢
    exact hun
   have hx : execOp a.eval ({ ok with op := .move (.const v) } : Oper) = execOp a.eval ok := by
    unfold execOp
    simp only [hop]
    rw [show a.eval (.tmp t) = v from h1 hli]
    rfl
   rw [hwt] at hw
   simp only
   split
   ·rename_i hwn
    rw [if_pos hwn] at hw
    have hw' : ok.wp P a w (wpAny P .any ops2 Q fuel (listed.setIfInBounds k true)) Q ∨ (ok.asks P a w ∧ LetsOut Q) := by
     unfold Oper.wp Oper.asks at hw ⊢
     rw [hx] at hw
     exact hw
    exact hw'.imp (fun hh => Oper.wp_mono hK (Yoy hh)) id
   ·rename_i hwn
    rw [if_neg hwn] at hw
    exact hK _ _ ⟨hw, a.defers, undef, rfl⟩
  ·rw [hne k e, hok] at hw
   simp only [hy] at hw ⊢
   split
   ·rename_i hwn
    rw [if_pos hwn] at hw
    exact hw.imp (fun hh => Oper.wp_mono hK (Yoy hh)) id
   ·rename_i hwn
    rw [if_neg hwn] at hw
    exact hK _ _ ⟨hw, a.defers, undef, rfl⟩
end
theorem Yma {P : Program} {id : Nat} {Q : Exit → Act → World → Prop} {a : Act} {w : World} {l l2 : List Oper} (i t : Nat) (v : Value) (late : List Nat) (o : Oper) (n : Nat) (B : (Nat → Bool) → (Nat → Value) → World → Prop) (X : List PanicEntry → World → Prop)
  (ho : l[i]? = some o) (hop : o.op = .move (.tmp t)) (hl : lateOk l.toArray i t late = true) (h2 : Ygp l i v = l2) (hv : a.tmps.getD t undef = v) (hm : P.follows .mixedOrders = true) (hok : Yem l2.toArray n = true)
  (hB : ∀ r, B (fun _ => false) r w.drew)
  (hX : ∀ c a' w', X c w' → a'.defers = a.defers → a'.tmps.size = a.tmps.size → (∀ t, Yhz l2 n t = true → a'.tmps[t]? = a.tmps[t]?) → Q (.panic c) a' w')
  (h : Ycq P l2.toArray B X n (fun dead free F => dead = [] → ∀ r w1 d, (∀ j, j < n → d j = true) → B d r w1 → wpList P l2.toArray Q (l2.drop n) (Yn l2.toArray r free F) w1) [] [] 0 (l2.take n) a) : (Code.region id l.toArray true).wp P Q a w := by
 refine wp_region_any hm ?_
 have hlt : i < l.length := (List.getElem?_eq_some_iff.1 ho).1
 have hsz : l2.toArray.size = l.toArray.size := by rw [← h2]; simp [Ygp]
 have hz : ∀ (k m : Nat), (Array.replicate m false).getD k false = false := fun k m => getD_replicate_false m k
 have := Ymv n B X hok hB hX h
 rw [hsz] at this
 refine Yo6 (ops := l.toArray) (ops2 := l2.toArray) (i := i) (t := t) (v := v) (late := late) (o := o) hsz (fun k hk => ?_) (by simpa using ho) ?_ hop hl _ _ _ _ (fun _ => hv) (fun k _ hk => ?_) this
 ·rw [← h2]
  simp only [Ygp, List.getElem?_toArray, List.getElem?_modify]
  cases l[k]? <;> simp [show ¬ i = k from fun e => hk e.symm]
 ·rw [← h2]
  simp only [Ygp, List.getElem?_toArray, List.getElem?_modify, ho]
  simp
 ·rw [hz] at hk; cases hk
end
end Go.Proofs.YthakgjpejhjaoaaGreat
