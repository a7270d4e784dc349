/-
  Parts of the proof (their names shortened by a program). No condition.
-/
import Derived.Test.YthakgjpejhjaoaaGreatMg01
import Derived.Test.YthakgjpejhjaoaaGreatMg18
namespace Go.Proofs.YthakgjpejhjaoaaGreat
open Go Go.RowKit
set_option linter.unusedVariables false
set_option linter.unusedSimpArgs false
set_option maxRecDepth 100000
set_option maxHeartbeats 16000000
theorem Dq.copy {w w3 : World} {d a pb : Nat} {s : St} {i : Ins} {M : Mem} (h : Yu w d a pb s i M) (hw : (w.alloc (.cells Ins.zero.cells 41)).setCells w.heap.size 0 i.cells.toList = w3) : Dq w d a pb s i M [(w.heap.size, .cells i.cells 41 (0, 0))] w3 := by
 have h3 := Yeq h hw
 have hpb : pb < w.heap.size := by obtain ⟨C, _, hc⟩ := h.m.pg; exact Yi hc
 have hd := h.lt
 exact ⟨h3.1, fun p hp => by rw [List.mem_singleton.1 hp]; exact h3.2.1, h3.2.2, fun p hp => by rw [List.mem_singleton.1 hp]; dsimp only; omega⟩
theorem Dq.putFl {w w1 : World} {d a pb : Nat} {s : St} {i : Ins} {M : Mem} {L : List (Nat × Obj)} (h : Dq w d a pb s i M L w1) (F : Fl) : Dq w d a pb (s.setFl F) i M L (w1.setCells d 10 F.cells.toList) :=
 h.next (h.b.putFl F) ((Upd.refl [d, pb] w1).setCells (.inl (by simp)) _ _)
theorem Yhx (d a pb : Nat) (s : St) (i : Ins) (M : Mem) (w : World) (h : Yu w d a pb s i M) (hop : 16 ≤ i.op ∧ i.op ≤ 20) (s2 : St) (M2 : Mem) (hj : ∀ w1, Yu w1 d a pb s i M → Calls Tryz.prog 51 #[.pointer (some ⟨d, 0, none⟩)] w1 fun e w' => e = .returned (.tuple #[]) ∧ Yu w' d a pb (s2) i (M2) ∧ Upd [d, pb] w1 w') :
  Calls Tryz.prog 32 #[.pointer (some ⟨d, 0, none⟩)] w fun e w' => e = .returned (.tuple #[]) ∧ Yu w' d a pb (s2) i (M2) ∧ Upd [d, pb] w w' := by
 have HI := Yh_ h.io
 have HD := Yh_ h
 have tokL : True := trivial
 have tokS : True := trivial
 obtain ⟨op, ho⟩ : ∃ op, i.op = op := ⟨_, rfl⟩
 rw [ho] at hop
 have e1 : decide (3 ≤ op) = true := by simp; omega
 have e2 : decide (op ≤ 11) = false := by simp; omega
 have e3 : decide (12 ≤ op) = true := by simp; omega
 have e4 : decide (op ≤ 15) = false := by simp; omega
 have e5 : decide (21 ≤ op) = false := by simp; omega
 have e6 : decide (16 ≤ op) = true := by simp; omega
 have e7 : decide (op ≤ 20) = true := by simp; omega
 have HJ := Yh_ hj
 clear h hj hop
 go_enter Tryz.func32, Tryz.ntmps32
 go_wp2_with (first | (have _t := tokL; clear _t tokL; refine Yal 41 rfl ?_; refine wpList_load_mid rfl 41 _ rfl d 18 rfl i.cells.toList _ HD.out.ri Tryz.underlying41 rfl (by rw [Array.length_toList, Ins.size]; exact Yb1) ?_; rw [Array.toArray_toList]) | (have _t := tokS; clear _t tokS; refine Ye 41 rfl ?_; refine Yc i w.heap.size rfl _ _ rfl rfl rfl (heap_alloc_new w (.cells Ins.zero.cells 41)) rfl ?_; intro w3 hw; have h3 := Dq.copy HD.out hw; have ci := h3.ins; unfold Ins.cells at ci; have H3 := Yh_ h3; clear hw h3) | (have _t := H3; clear _t; go_at_call 51; refine (HJ.out _ H3.out.b).mono ?_; rintro e w5 ⟨rfl, hd, hu⟩; have H5 := Yh_ (And.intro hd (H3.out.u.also hu (fun x hx => .inl hx))); clear hd hu H3 ci))
 go_end0
 exact ⟨rfl, H5.out.1, H5.out.2⟩
theorem Yft (d a pb : Nat) (s : St) (i : Ins) (M : Mem) (w : World) (h : Yu w d a pb s i M) (hop : 16 ≤ i.op ∧ i.op ≤ 20) (M2 : Mem) (F : Flt) (hj : ∀ w1, Yu w1 d a pb s i M → Calls Tryz.prog 51 #[.pointer (some ⟨d, 0, none⟩)] w1 fun e w' => e = .panicked [{ v := .iface 35 (F).val, recovered := false }] ∧ Ym w' a pb (M2) ∧ Upd [d, pb] w1 w') :
  Calls Tryz.prog 32 #[.pointer (some ⟨d, 0, none⟩)] w fun e w' => e = .panicked [{ v := .iface 35 (F).val, recovered := false }] ∧ Ym w' a pb (M2) ∧ Upd [d, pb] w w' := by
 have HI := Yh_ h.io
 have HD := Yh_ h
 have tokL : True := trivial
 have tokS : True := trivial
 obtain ⟨op, ho⟩ : ∃ op, i.op = op := ⟨_, rfl⟩
 rw [ho] at hop
 have e1 : decide (3 ≤ op) = true := by simp; omega
 have e2 : decide (op ≤ 11) = false := by simp; omega
 have e3 : decide (12 ≤ op) = true := by simp; omega
 have e4 : decide (op ≤ 15) = false := by simp; omega
 have e5 : decide (21 ≤ op) = false := by simp; omega
 have e6 : decide (16 ≤ op) = true := by simp; omega
 have e7 : decide (op ≤ 20) = true := by simp; omega
 have HJ := Yh_ hj
 clear h hj hop
 go_enter Tryz.func32, Tryz.ntmps32
 go_wp2_with (first | (have _t := tokL; clear _t tokL; refine Yal 41 rfl ?_; refine wpList_load_mid rfl 41 _ rfl d 18 rfl i.cells.toList _ HD.out.ri Tryz.underlying41 rfl (by rw [Array.length_toList, Ins.size]; exact Yb1) ?_; rw [Array.toArray_toList]) | (have _t := tokS; clear _t tokS; refine Ye 41 rfl ?_; refine Yc i w.heap.size rfl _ _ rfl rfl rfl (heap_alloc_new w (.cells Ins.zero.cells 41)) rfl ?_; intro w3 hw; have h3 := Dq.copy HD.out hw; have ci := h3.ins; unfold Ins.cells at ci; have H3 := Yh_ h3; clear hw h3) | (have _t := H3; clear _t; go_at_call 51; refine (HJ.out _ H3.out.b).mono ?_; rintro e w5 ⟨rfl, hd, hu⟩; have H5 := Yh_ (And.intro hd (H3.out.u.also hu (fun x hx => .inl hx))); clear hd hu H3 ci))
 exact ⟨rfl, rfl, H5.out.1, H5.out.2⟩
theorem Ymy (d a pb : Nat) (s : St) (i : Ins) (M : Mem) (w : World) (h : Yu w d a pb s i M) (hop : 34 ≤ i.op ∧ i.op ≤ 44) (s2 : St) (M2 : Mem) (hj : ∀ w1, Yu w1 d a pb s i M → Calls Tryz.prog 54 #[.pointer (some ⟨d, 0, none⟩)] w1 fun e w' => e = .returned (.tuple #[]) ∧ Yu w' d a pb (s2) i (M2) ∧ Upd [d, pb] w1 w') :
  Calls Tryz.prog 32 #[.pointer (some ⟨d, 0, none⟩)] w fun e w' => e = .returned (.tuple #[]) ∧ Yu w' d a pb (s2) i (M2) ∧ Upd [d, pb] w w' := by
 have HI := Yh_ h.io
 have HD := Yh_ h
 have tokL : True := trivial
 have tokS : True := trivial
 obtain ⟨op, ho⟩ : ∃ op, i.op = op := ⟨_, rfl⟩
 rw [ho] at hop
 have e0 : decide (3 ≤ op) = true := by simp; omega
 have e1 : decide (op ≤ 11) = false := by simp; omega
 have e2 : decide (12 ≤ op) = true := by simp; omega
 have e3 : decide (op ≤ 15) = false := by simp; omega
 have e4 : decide (21 ≤ op) = true := by simp; omega
 have e5 : decide (op ≤ 25) = false := by simp; omega
 have e6 : decide (16 ≤ op) = true := by simp; omega
 have e7 : decide (op ≤ 20) = false := by simp; omega
 have e8 : decide (45 ≤ op) = false := by simp; omega
 have e9 : decide (28 ≤ op) = true := by simp; omega
 have e10 : decide (op ≤ 33) = false := by simp; omega
 have HJ := Yh_ hj
 clear h hj hop
 go_enter Tryz.func32, Tryz.ntmps32
 go_wp2_with (first | (have _t := tokL; clear _t tokL; refine Yal 41 rfl ?_; refine wpList_load_mid rfl 41 _ rfl d 18 rfl i.cells.toList _ HD.out.ri Tryz.underlying41 rfl (by rw [Array.length_toList, Ins.size]; exact Yb1) ?_; rw [Array.toArray_toList]) | (have _t := tokS; clear _t tokS; refine Ye 41 rfl ?_; refine Yc i w.heap.size rfl _ _ rfl rfl rfl (heap_alloc_new w (.cells Ins.zero.cells 41)) rfl ?_; intro w3 hw; have h3 := Dq.copy HD.out hw; have ci := h3.ins; unfold Ins.cells at ci; have H3 := Yh_ h3; clear hw h3) | (have _t := H3; clear _t; go_at_call 54; refine (HJ.out _ H3.out.b).mono ?_; rintro e w5 ⟨rfl, hd, hu⟩; have H5 := Yh_ (And.intro hd (H3.out.u.also hu (fun x hx => .inl hx))); clear hd hu H3 ci))
 go_end0
 exact ⟨rfl, H5.out.1, H5.out.2⟩
theorem mul_u (a b : Int) (ha : 0 ≤ a ∧ a < 4294967296) (hb : 0 ≤ b ∧ b < 4294967296) : 0 ≤ a * b ∧ a * b < 18446744073709551616 := by
 refine ⟨Int.mul_nonneg ha.1 hb.1, ?_⟩
 have h1 : a * b ≤ a * 4294967295 := Int.mul_le_mul_of_nonneg_left (by omega) ha.1
 omega
theorem mul_s (a b : Int) (ha : -2147483648 ≤ a ∧ a < 2147483648) (hb : -2147483648 ≤ b ∧ b < 2147483648) : -4611686018427387904 ≤ a * b ∧ a * b ≤ 4611686018427387904 := by
 have h1 : (a.natAbs : Int) ≤ 2147483648 := by omega
 have h2 : (b.natAbs : Int) ≤ 2147483648 := by omega
 have h3 : ((a * b).natAbs : Int) ≤ 4611686018427387904 := by
  rw [Int.natAbs_mul]
  have : a.natAbs * b.natAbs ≤ 2147483648 * 2147483648 := Nat.mul_le_mul (by omega) (by omega)
  omega
 omega
theorem Yg3 (x : Int) (h : 0 ≤ x ∧ x < 4294967296) : wrap64 (sI x) = sI x := by have := Yd1 x h; unfold wrap64; omega
def Yes (p : Int) : Int := p % 4294967296
def Yeh (p : Int) : Int := p / 4294967296 % 4294967296
theorem MulU_any (a b : Int) (w : World) (ha : 0 ≤ a ∧ a < 4294967296) (hb : 0 ≤ b ∧ b < 4294967296) :
  Calls Tryz.prog 106 #[.int .u32 a, .int .u32 b] w fun e w' => e = .returned (.tuple #[.int .u32 (Yes (a * b)), .int .u32 (Yeh (a * b))]) ∧ w = w' := by
 have h := mul_u a b ha hb
 have e1 : IntKind.u64.wrap (a * b) = a * b := by rw [Yb0]; omega
 have e2 : IntKind.u64.wrap a = a := by rw [Yb0]; omega
 have e3 : IntKind.u64.wrap b = b := by rw [Yb0]; omega
 clear h ha hb
 go_enter Tryz.func106, Tryz.ntmps106
 go_wp2_with fail
 exact bodyPost_ret (Yan rfl (Yq 4 rfl) (Yq 5 rfl)) rfl ⟨rfl, rfl⟩
theorem Ykl (a b : Int) (w : World) (ha : 0 ≤ a ∧ a < 4294967296) (hb : 0 ≤ b ∧ b < 4294967296) :
  Calls Tryz.prog 107 #[.int .u32 a, .int .u32 b] w fun e w' => e = .returned (.tuple #[.int .u32 (Yes (sI a * sI b)), .int .u32 (Yeh (sI a * sI b))]) ∧ w = w' := by
 have h := mul_s _ _ (Yd1 a ha) (Yd1 b hb)
 have e1 : wrap64 (sI a * sI b) = sI a * sI b := by unfold wrap64; omega
 have e2 := Yel a ha
 have e3 := Yel b hb
 have e4 := Yg3 a ha
 have e5 := Yg3 b hb
 clear h ha hb
 go_enter Tryz.func107, Tryz.ntmps107
 go_wp2_with fail
 exact bodyPost_ret (Yan rfl (Yq 4 rfl) (Yq 5 rfl)) rfl ⟨rfl, rfl⟩
def Ygn (n d : Int) : Bool := !((n == -9223372036854775808) && (d == -1)) && (wrap64 (n.tdiv d) == wrap32 (wrap64 (n.tdiv d)))
def Yhm (n d : Int) : Int := if Ygn n d then wrap64 (n.tdiv d) % 4294967296 else 0
def Yhk (n d : Int) : Int := if Ygn n d then n.tmod d % 4294967296 else 0
theorem divs_any (n d : Int) (w : World) (hd : d ≠ 0) :
  Calls Tryz.prog 108 #[.int .i64 n, .int .i64 d] w fun e w' => e = .returned (.tuple #[.int .u32 (Yhm n d), .int .u32 (Yhk n d), .bool (Ygn n d)]) ∧ Upd [] w w' := by
 have e0 : (d == 0) = false := by simpa using hd
 obtain ⟨q, hq⟩ : ∃ q, wrap64 (n.tdiv d) = q := ⟨_, rfl⟩
 have ew : wrap64 (wrap32 q) = wrap32 q := by unfold wrap64 wrap32; omega
 obtain ⟨b1, e1⟩ : ∃ b, (n == -9223372036854775808) = b := ⟨_, rfl⟩
 obtain ⟨b2, e2⟩ : ∃ b, (d == -1) = b := ⟨_, rfl⟩
 obtain ⟨b3, e3⟩ : ∃ b, (q == wrap32 q) = b := ⟨_, rfl⟩
 have e4 : (q != wrap32 q) = !b3 := by rw [← e3]; rfl
 have HE := Yh_ (show Ygn n d = (!(b1 && b2) && b3) by rw [Ygn, hq, e1, e2, e3])
 have HQ := Yh_ (show Yhm n d = if (!(b1 && b2) && b3) = true then q % 4294967296 else 0 by rw [Yhm, HE.out, hq])
 have HR := Yh_ (show Yhk n d = if (!(b1 && b2) && b3) = true then n.tmod d % 4294967296 else 0 by rw [Yhk, HE.out])
 rw [HE.out, HQ.out, HR.out]
 clear HE HQ HR
 have hne := hd
 cases b1 <;> cases b2 <;> cases b3
 all_goals
  go_enter Tryz.func108, Tryz.ntmps108
  go_wp2_with fail
 all_goals first
 |exact bodyPost_ret (Yy rfl (Yq 4 rfl) (Yq 5 rfl) (Yq 6 rfl)) rfl ⟨rfl, Upd.refl _ _⟩
 |skip
 all_goals
  refine Yap 9 (fun w1 => Upd [] w w1) (fun _ _ => False) (by kernel_rfl) (by decide +kernel) ((Upd.refl [] w).drew) (fun _ _ _ h => h.elim) ?_
  simp only [List.take_succ_cons, List.take_zero, List.drop_succ_cons, List.drop_zero]
  iterate 9
   apply Yv rfl rfl
   ·intro K hK w5 hB1
    skip
    have HB := Yh_ hB1
    clear hB1
    go_wp2_with fail
    first
    |exact hK _ HB.out
    |exact HB.out
   ·exact ⟨_, rfl⟩
  refine Yag (fun _ w6 hB1 => ?_)
  have HB := Yh_ hB1
  clear hB1
  go_wp2_with fail
  exact bodyPost_ret (Yy rfl (Yq 4 rfl) (Yq 5 rfl) (Yq 6 rfl)) rfl ⟨rfl, HB.out⟩
theorem Yik (x : Int) (h : 0 ≤ x ∧ x < 4294967296) : wrap32 x / 2147483648 % 4294967296 = Ye5 x := by unfold wrap32 Ye5; split <;> omega
theorem Yeu (p : Int) : 0 ≤ Yes p ∧ Yes p < 4294967296 := by unfold Yes; omega
theorem Yl3 (p : Int) : 0 ≤ Yeh p ∧ Yeh p < 4294967296 := by unfold Yeh; omega
def mulP (op a b : Int) : Int := if op = 16 then a * b else sI a * sI b
def mulC (op a b : Int) : Bool := if op = 16 then Yeh (a * b) != 0 else Yeh (sI a * sI b) != Ye5 (Yes (sI a * sI b))
def Yd3 (op a b : Int) : Int := Yes (mulP op a b)
def Ydx (op a b : Int) : Int := if op = 18 then 0 else Yeh (mulP op a b)
def Yb6 (op a b : Int) (f : Fl) : Fl := { f with cf := mulC op a b, of_ := mulC op a b }
theorem AlE.of2 (w : World) (F : Fl) : AlE w F ((w.alloc (.cells F.cells 25)).alloc (.cells Fl.zero.cells 25)) :=
 ⟨heap_alloc2_old _ _ _, heap_alloc2_new _ _ _, ((Upd.refl [] w).alloc _).alloc _⟩
theorem Yhh (a b : Int) (a0 : 0 ≤ a) (a1 : a < 4294967296) (b0 : 0 ≤ b) (b1 : b < 4294967296) : bits .or .u64 (b * 4294967296) a = b * 4294967296 + a := by
 obtain ⟨a, rfl⟩ := Int.eq_ofNat_of_zero_le a0
 obtain ⟨b, rfl⟩ := Int.eq_ofNat_of_zero_le b0
 have h := u64_or_nat (b * 4294967296) a (by omega) (by omega)
 rw [nat_join 32 _ _ (by omega) (by omega)] at h
 have e : (b : Int) * 4294967296 = ((b * 4294967296 : Nat) : Int) := by omega
 rw [e, h]
 omega
theorem Mul_16 (a b : Int) (f : Fl) (w : World) (ha : 0 ≤ a ∧ a < 4294967296) (hb : 0 ≤ b ∧ b < 4294967296) :
  Calls Tryz.prog 67 #[.int .i64 16, .int .u32 a, .int .u32 b, .agg f.cells] w fun e w' => e = .returned (.tuple #[.int .u32 (Yd3 16 a b), .int .u32 (Ydx 16 a b), .agg (Yb6 16 a b f).cells]) ∧ Upd [] w w' := by
 obtain ⟨c, d, e', z, n', o⟩ := f
 have HA := Yh_ (And.intro ha hb)
 obtain ⟨L, hL⟩ : ∃ L, Yes (a * b) = L := ⟨_, rfl⟩
 obtain ⟨H, hH⟩ : ∃ H, Yeh (a * b) = H := ⟨_, rfl⟩
 have HL := Yh_ (And.intro hL hH)
 have eC := Yik L (hL ▸ Yeu _)
 obtain ⟨C, hC⟩ : ∃ C, (H != 0) = C := ⟨_, rfl⟩
 have HM := Yh_ (show Yd3 16 a b = L from hL)
 have HN := Yh_ (show Ydx 16 a b = H from hH)
 have HF := Yh_ (show Yb6 16 a b ⟨c, d, e', z, n', o⟩ = ⟨C, d, e', z, n', C⟩ by
  have hc : mulC 16 a b = C := by rw [← hC, ← hH]; rfl
  rw [Yb6, hc])
 rw [HM.out, HN.out, HF.out]
 clear ha hb hL hH HM HN HF
 unfold Fl.cells
 go_enter Tryz.func67, Tryz.ntmps67
 go_wp2_with (go_at_call 106; refine (MulU_any a b _ HA.out.1 HA.out.2).mono ?_; rintro e w6 ⟨rfl, rfl⟩; rw [HL.out.1, HL.out.2])
 refine Yap 5 (AlE w ⟨C, d, e', z, n', C⟩) (fun _ _ => False) (by kernel_rfl) (by decide +kernel) (AlE.of2 w ⟨C, d, e', z, n', C⟩).drew (fun _ _ _ h => h.elim) ?_
 simp only [List.take_succ_cons, List.take_zero, List.drop_succ_cons, List.drop_zero]
 iterate 5
  apply Yv rfl rfl
  ·intro K hK w5 hB1
   have c7 := Ya hB1.r7; unfold Fl.cells at c7
   have HB := Yh_ hB1
   clear hB1
   go_wp2_with fail
   first
   |exact hK _ HB.out
   |exact HB.out
  ·exact ⟨_, rfl⟩
 refine Yag (fun _ w6 hB1 => ?_)
 have c9 := Ya hB1.r9
 have f9 := Yj hB1.r9
 unfold Fl.cells Fl.zero at c9
 have HZ := Yh_ hB1
 clear hB1
 go_wp2_with fail
 exact bodyPost_ret (Yy rfl (Yq 8 rfl) (Yq 9 rfl) (Ycd 10 (w.heap.size + 1) ⟨C, d, e', z, n', C⟩ rfl (Yb9 HZ.out.r9 _ _ _ _ _ _))) rfl ⟨rfl, Yax HZ.out.u (.inr (by omega)) _ _ _ _ _ _⟩
theorem Mul_17 (a b : Int) (f : Fl) (w : World) (ha : 0 ≤ a ∧ a < 4294967296) (hb : 0 ≤ b ∧ b < 4294967296) :
  Calls Tryz.prog 67 #[.int .i64 17, .int .u32 a, .int .u32 b, .agg f.cells] w fun e w' => e = .returned (.tuple #[.int .u32 (Yd3 17 a b), .int .u32 (Ydx 17 a b), .agg (Yb6 17 a b f).cells]) ∧ Upd [] w w' := by
 obtain ⟨c, d, e', z, n', o⟩ := f
 have HA := Yh_ (And.intro ha hb)
 obtain ⟨L, hL⟩ : ∃ L, Yes (sI a * sI b) = L := ⟨_, rfl⟩
 obtain ⟨H, hH⟩ : ∃ H, Yeh (sI a * sI b) = H := ⟨_, rfl⟩
 have HL := Yh_ (And.intro hL hH)
 have eC := Yik L (hL ▸ Yeu _)
 obtain ⟨C, hC⟩ : ∃ C, (H != Ye5 L) = C := ⟨_, rfl⟩
 have HM := Yh_ (show Yd3 17 a b = L from hL)
 have HN := Yh_ (show Ydx 17 a b = H from hH)
 have HF := Yh_ (show Yb6 17 a b ⟨c, d, e', z, n', o⟩ = ⟨C, d, e', z, n', C⟩ by
  have hc : mulC 17 a b = C := by rw [← hC, ← hH, ← hL]; rfl
  rw [Yb6, hc])
 rw [HM.out, HN.out, HF.out]
 clear ha hb hL hH HM HN HF
 unfold Fl.cells
 go_enter Tryz.func67, Tryz.ntmps67
 go_wp2_with (go_at_call 107; refine (Ykl a b _ HA.out.1 HA.out.2).mono ?_; rintro e w6 ⟨rfl, rfl⟩; rw [HL.out.1, HL.out.2])
 refine Yap 5 (AlE w ⟨C, d, e', z, n', C⟩) (fun _ _ => False) (by kernel_rfl) (by decide +kernel) (AlE.of2 w ⟨C, d, e', z, n', C⟩).drew (fun _ _ _ h => h.elim) ?_
 simp only [List.take_succ_cons, List.take_zero, List.drop_succ_cons, List.drop_zero]
 iterate 5
  apply Yv rfl rfl
  ·intro K hK w5 hB1
   have c7 := Ya hB1.r7; unfold Fl.cells at c7
   have HB := Yh_ hB1
   clear hB1
   go_wp2_with fail
   first
   |exact hK _ HB.out
   |exact HB.out
  ·exact ⟨_, rfl⟩
 refine Yag (fun _ w6 hB1 => ?_)
 have c9 := Ya hB1.r9
 have f9 := Yj hB1.r9
 unfold Fl.cells Fl.zero at c9
 have HZ := Yh_ hB1
 clear hB1
 go_wp2_with fail
 exact bodyPost_ret (Yy rfl (Yq 8 rfl) (Yq 9 rfl) (Ycd 10 (w.heap.size + 1) ⟨C, d, e', z, n', C⟩ rfl (Yb9 HZ.out.r9 _ _ _ _ _ _))) rfl ⟨rfl, Yax HZ.out.u (.inr (by omega)) _ _ _ _ _ _⟩
theorem Mul_18 (a b : Int) (f : Fl) (w : World) (ha : 0 ≤ a ∧ a < 4294967296) (hb : 0 ≤ b ∧ b < 4294967296) :
  Calls Tryz.prog 67 #[.int .i64 18, .int .u32 a, .int .u32 b, .agg f.cells] w fun e w' => e = .returned (.tuple #[.int .u32 (Yd3 18 a b), .int .u32 (Ydx 18 a b), .agg (Yb6 18 a b f).cells]) ∧ Upd [] w w' := by
 obtain ⟨c, d, e', z, n', o⟩ := f
 have HA := Yh_ (And.intro ha hb)
 obtain ⟨L, hL⟩ : ∃ L, Yes (sI a * sI b) = L := ⟨_, rfl⟩
 obtain ⟨H, hH⟩ : ∃ H, Yeh (sI a * sI b) = H := ⟨_, rfl⟩
 have HL := Yh_ (And.intro hL hH)
 have eC := Yik L (hL ▸ Yeu _)
 obtain ⟨C, hC⟩ : ∃ C, (H != Ye5 L) = C := ⟨_, rfl⟩
 have HM := Yh_ (show Yd3 18 a b = L from hL)
 have HN := Yh_ (show Ydx 18 a b = 0 from rfl)
 have HF := Yh_ (show Yb6 18 a b ⟨c, d, e', z, n', o⟩ = ⟨C, d, e', z, n', C⟩ by
  have hc : mulC 18 a b = C := by rw [← hC, ← hH, ← hL]; rfl
  rw [Yb6, hc])
 rw [HM.out, HN.out, HF.out]
 clear ha hb hL hH HM HN HF
 unfold Fl.cells
 go_enter Tryz.func67, Tryz.ntmps67
 go_wp2_with (go_at_call 107; refine (Ykl a b _ HA.out.1 HA.out.2).mono ?_; rintro e w6 ⟨rfl, rfl⟩; rw [HL.out.1, HL.out.2])
 refine Yap 5 (AlE w ⟨C, d, e', z, n', C⟩) (fun _ _ => False) (by kernel_rfl) (by decide +kernel) (AlE.of2 w ⟨C, d, e', z, n', C⟩).drew (fun _ _ _ h => h.elim) ?_
 simp only [List.take_succ_cons, List.take_zero, List.drop_succ_cons, List.drop_zero]
 iterate 5
  apply Yv rfl rfl
  ·intro K hK w5 hB1
   have c7 := Ya hB1.r7; unfold Fl.cells at c7
   have HB := Yh_ hB1
   clear hB1
   go_wp2_with fail
   first
   |exact hK _ HB.out
   |exact HB.out
  ·exact ⟨_, rfl⟩
 refine Yag (fun _ w6 hB1 => ?_)
 have c9 := Ya hB1.r9
 have f9 := Yj hB1.r9
 unfold Fl.cells Fl.zero at c9
 have HZ := Yh_ hB1
 clear hB1
 go_wp2_with fail
 exact bodyPost_ret (Yy rfl (Yq 8 rfl) (Yq 9 rfl) (Ycd 10 (w.heap.size + 1) ⟨C, d, e', z, n', C⟩ rfl (Yb9 HZ.out.r9 _ _ _ _ _ _))) rfl ⟨rfl, Yax HZ.out.u (.inr (by omega)) _ _ _ _ _ _⟩
def isMul (op : Int) : Bool := decide (16 ≤ op) && decide (op ≤ 18)
theorem Mul_any (op a b : Int) (f : Fl) (w : World) (hop : isMul op = true) (ha : 0 ≤ a ∧ a < 4294967296) (hb : 0 ≤ b ∧ b < 4294967296) :
  Calls Tryz.prog 67 #[.int .i64 op, .int .u32 a, .int .u32 b, .agg f.cells] w fun e w' => e = .returned (.tuple #[.int .u32 (Yd3 op a b), .int .u32 (Ydx op a b), .agg (Yb6 op a b f).cells]) ∧ Upd [] w w' := by
 have ho : op = 16 ∨ op = 17 ∨ op = 18 := by simp [isMul] at hop; omega
 rcases ho with rfl | rfl | rfl
 ·exact Mul_16 a b f w ha hb
 ·exact Mul_17 a b f w ha hb
 ·exact Mul_18 a b f w ha hb
theorem Ygf (op a b : Int) : 0 ≤ Yd3 op a b ∧ Yd3 op a b < 4294967296 := Yeu _
theorem Ygk (op a b : Int) : 0 ≤ Ydx op a b ∧ Ydx op a b < 4294967296 := by
 unfold Ydx; split
 ·omega
 ·exact Yl3 _
def Ydg (op lo hi d : Int) : Bool := if d = 0 then false else if op = 20 then Ygn (wrap64 (hi * 4294967296 + lo)) (sI d) else decide ((hi * 4294967296 + lo) / d ≤ 4294967295)
def Yc3 (op lo hi d : Int) : Int := if d = 0 then 0 else if op = 20 then Yhm (wrap64 (hi * 4294967296 + lo)) (sI d) else if (hi * 4294967296 + lo) / d ≤ 4294967295 then (hi * 4294967296 + lo) / d else 0
def Yc4 (op lo hi d : Int) : Int := if d = 0 then 0 else if op = 20 then Yhk (wrap64 (hi * 4294967296 + lo)) (sI d) else if (hi * 4294967296 + lo) / d ≤ 4294967295 then (hi * 4294967296 + lo) % d else 0
theorem Yoo (op lo hi d : Int) (w : World) (hlo : 0 ≤ lo ∧ lo < 4294967296) (hhi : 0 ≤ hi ∧ hi < 4294967296) (hd : d = 0) :
  Calls Tryz.prog 68 #[.int .i64 op, .int .u32 lo, .int .u32 hi, .int .u32 d] w fun e w' => e = .returned (.tuple #[.int .u32 (Yc3 op lo hi d), .int .u32 (Yc4 op lo hi d), .bool (Ydg op lo hi d)]) ∧ Upd [] w w' := by
 subst hd
 have HE := Yh_ (And.intro (show Yc3 op lo hi 0 = 0 from if_pos rfl) (And.intro (show Yc4 op lo hi 0 = 0 from if_pos rfl) (show Ydg op lo hi 0 = false from if_pos rfl)))
 rw [HE.out.1, HE.out.2.1, HE.out.2.2]
 go_enter Tryz.func68, Tryz.ntmps68
 go_wp2_with fail
 exact bodyPost_ret (Yy rfl (Yq 8 rfl) (Yq 9 rfl) (Yq 10 rfl)) rfl ⟨rfl, Upd.refl _ _⟩
theorem Div_19 (lo hi d : Int) (w : World) (hlo : 0 ≤ lo ∧ lo < 4294967296) (hhi : 0 ≤ hi ∧ hi < 4294967296) (hd : 0 < d ∧ d < 4294967296) :
  Calls Tryz.prog 68 #[.int .i64 19, .int .u32 lo, .int .u32 hi, .int .u32 d] w fun e w' => e = .returned (.tuple #[.int .u32 (Yc3 19 lo hi d), .int .u32 (Yc4 19 lo hi d), .bool (Ydg 19 lo hi d)]) ∧ Upd [] w w' := by
 have e0 : (d == 0) = false := by simp; omega
 have e1 : IntKind.u64.wrap hi = hi := by rw [Yb0]; omega
 have e1' : IntKind.u64.wrap lo = lo := by rw [Yb0]; omega
 have e2 : IntKind.u64.wrap (hi * 4294967296) = hi * 4294967296 := by rw [Yb0]; omega
 have e3 : IntKind.u64.wrap d = d := by rw [Yb0]; omega
 have e4 := Yhh lo hi hlo.1 hlo.2 hhi.1 hhi.2
 obtain ⟨N, hN⟩ : ∃ N, hi * 4294967296 + lo = N := ⟨_, rfl⟩
 rw [hN] at e4
 have hN0 : 0 ≤ N := by omega
 have e5 : N.tdiv d = N / d := Int.tdiv_eq_ediv_of_nonneg hN0
 have e6 : N.tmod d = N % d := Int.tmod_eq_emod_of_nonneg hN0
 obtain ⟨q, hq⟩ : ∃ q, N / d = q := ⟨_, rfl⟩
 obtain ⟨r, hr⟩ : ∃ r, N % d = r := ⟨_, rfl⟩
 have hq0 : 0 ≤ q := hq ▸ Int.ediv_nonneg hN0 (by omega)
 have hq1 : q ≤ N := hq ▸ Int.ediv_le_self _ hN0
 have hr0 : 0 ≤ r ∧ r < 4294967296 := hr ▸ ⟨Int.emod_nonneg _ (by omega), Int.lt_trans (Int.emod_lt_of_pos _ hd.1) hd.2⟩
 rw [hq] at e5
 rw [hr] at e6
 have e7 : IntKind.u64.wrap q = q := by rw [Yb0]; omega
 have e8 : r % 4294967296 = r := by omega
 have hne : d ≠ 0 := by omega
 by_cases hk : q ≤ 4294967295
 ·have HE := Yh_ (And.intro (show Yc3 19 lo hi d = q by rw [Yc3, if_neg hne, if_neg (by decide), hN, hq, if_pos hk]) (And.intro (show Yc4 19 lo hi d = r by rw [Yc4, if_neg hne, if_neg (by decide), hN, hq, if_pos hk, hr]) (show Ydg 19 lo hi d = true by rw [Ydg, if_neg hne, if_neg (by decide), hN, hq]; simpa using hk)))
  rw [HE.out.1, HE.out.2.1, HE.out.2.2]
  have ek : decide (4294967295 < q) = false := by simpa using hk
  have e9 : q % 4294967296 = q := by omega
  clear hk hq hr hq0 hq1 hr0 hd hN hN0 hlo hhi HE
  go_enter Tryz.func68, Tryz.ntmps68
  go_wp2_with fail
  refine Yap 10 (fun w1 => Upd [] w w1) (fun _ _ => False) (by kernel_rfl) (by decide +kernel) ((Upd.refl [] w).drew) (fun _ _ _ h => h.elim) ?_
  simp only [List.take_succ_cons, List.take_zero, List.drop_succ_cons, List.drop_zero]
  iterate 10
   apply Yv rfl rfl
   ·intro K hK w5 hB1
    skip
    have HB := Yh_ hB1
    clear hB1
    go_wp2_with fail
    first
    |exact hK _ HB.out
    |exact HB.out
   ·exact ⟨_, rfl⟩
  refine Yag (fun _ w6 hB1 => ?_)
  have HB := Yh_ hB1
  clear hB1
  go_wp2_with fail
  exact bodyPost_ret (Yy rfl (Yq 8 rfl) (Yq 9 rfl) (Yq 10 rfl)) rfl ⟨rfl, HB.out⟩
 ·have HE := Yh_ (And.intro (show Yc3 19 lo hi d = 0 by rw [Yc3, if_neg hne, if_neg (by decide), hN, hq, if_neg hk]) (And.intro (show Yc4 19 lo hi d = 0 by rw [Yc4, if_neg hne, if_neg (by decide), hN, hq, if_neg hk]) (show Ydg 19 lo hi d = false by rw [Ydg, if_neg hne, if_neg (by decide), hN, hq]; simpa using hk)))
  rw [HE.out.1, HE.out.2.1, HE.out.2.2]
  have ek : decide (4294967295 < q) = true := by simp; omega
  clear hk hq hr hq0 hq1 hr0 hd hN hN0 hlo hhi HE
  go_enter Tryz.func68, Tryz.ntmps68
  go_wp2_with fail
  exact bodyPost_ret (Yy rfl (Yq 8 rfl) (Yq 9 rfl) (Yq 10 rfl)) rfl ⟨rfl, Upd.refl _ _⟩
theorem Div_20 (lo hi d : Int) (w : World) (hlo : 0 ≤ lo ∧ lo < 4294967296) (hhi : 0 ≤ hi ∧ hi < 4294967296) (hd : 0 < d ∧ d < 4294967296) :
  Calls Tryz.prog 68 #[.int .i64 20, .int .u32 lo, .int .u32 hi, .int .u32 d] w fun e w' => e = .returned (.tuple #[.int .u32 (Yc3 20 lo hi d), .int .u32 (Yc4 20 lo hi d), .bool (Ydg 20 lo hi d)]) ∧ Upd [] w w' := by
 have e0 : (d == 0) = false := by simp; omega
 have e1 : IntKind.u64.wrap hi = hi := by rw [Yb0]; omega
 have e1' : IntKind.u64.wrap lo = lo := by rw [Yb0]; omega
 have e2 : IntKind.u64.wrap (hi * 4294967296) = hi * 4294967296 := by rw [Yb0]; omega
 have e4 := Yhh lo hi hlo.1 hlo.2 hhi.1 hhi.2
 obtain ⟨N, hN⟩ : ∃ N, hi * 4294967296 + lo = N := ⟨_, rfl⟩
 rw [hN] at e4
 have hne : d ≠ 0 := by omega
 have hd2 : 0 ≤ d ∧ d < 4294967296 := by omega
 have e5 := Yel d hd2
 have e6 := Yg3 d hd2
 have hs : sI d ≠ 0 := by unfold sI; split <;> omega
 have HE := Yh_ (And.intro (show Yc3 20 lo hi d = Yhm (wrap64 N) (sI d) by rw [Yc3, if_neg hne, if_pos rfl, hN]) (And.intro (show Yc4 20 lo hi d = Yhk (wrap64 N) (sI d) by rw [Yc4, if_neg hne, if_pos rfl, hN]) (show Ydg 20 lo hi d = Ygn (wrap64 N) (sI d) by rw [Ydg, if_neg hne, if_pos rfl, hN])))
 rw [HE.out.1, HE.out.2.1, HE.out.2.2]
 have HS := Yh_ hs
 clear hs hd2 hne hN hlo hhi hd HE
 go_enter Tryz.func68, Tryz.ntmps68
 go_wp2_with (go_at_call 108; refine (divs_any (wrap64 N) (sI d) _ HS.out).mono ?_; rintro e w6 ⟨rfl, hu⟩; have HU := Yh_ hu; clear hu)
 exact bodyPost_ret (Yy rfl (Yq 8 rfl) (Yq 9 rfl) (Yq 10 rfl)) rfl ⟨rfl, HU.out⟩
theorem Yif (op lo hi d : Int) (hlo : 0 ≤ lo ∧ lo < 4294967296) (hhi : 0 ≤ hi ∧ hi < 4294967296) (hd : 0 ≤ d ∧ d < 4294967296) : 0 ≤ Yc3 op lo hi d ∧ Yc3 op lo hi d < 4294967296 := by
 unfold Yc3 Yhm
 have hn : 0 ≤ (hi * 4294967296 + lo) / d := Int.ediv_nonneg (by omega) hd.1
 split
 ·omega
 ·split
  ·split <;> omega
  ·split <;> omega
theorem Yiz (op lo hi d : Int) (hlo : 0 ≤ lo ∧ lo < 4294967296) (hhi : 0 ≤ hi ∧ hi < 4294967296) (hd : 0 ≤ d ∧ d < 4294967296) : 0 ≤ Yc4 op lo hi d ∧ Yc4 op lo hi d < 4294967296 := by
 unfold Yc4 Yhk
 split
 ·omega
 ·have h1 := Int.emod_nonneg (hi * 4294967296 + lo) ‹¬ d = 0›
  have h2 := Int.emod_lt_of_pos (hi * 4294967296 + lo) (show 0 < d by omega)
  split
  ·split <;> omega
  ·split <;> omega
theorem Yn9 (op lo hi d : Int) (w : World) (hop : op = 19 ∨ op = 20) (hlo : 0 ≤ lo ∧ lo < 4294967296) (hhi : 0 ≤ hi ∧ hi < 4294967296) (hd : 0 ≤ d ∧ d < 4294967296) :
  Calls Tryz.prog 68 #[.int .i64 op, .int .u32 lo, .int .u32 hi, .int .u32 d] w fun e w' => e = .returned (.tuple #[.int .u32 (Yc3 op lo hi d), .int .u32 (Yc4 op lo hi d), .bool (Ydg op lo hi d)]) ∧ Upd [] w w' := by
 by_cases h0 : d = 0
 ·exact Yoo op lo hi d w hlo hhi h0
 ·rcases hop with rfl | rfl
  ·exact Div_19 lo hi d w hlo hhi (by omega)
  ·exact Div_20 lo hi d w hlo hhi (by omega)
end Go.Proofs.YthakgjpejhjaoaaGreat
