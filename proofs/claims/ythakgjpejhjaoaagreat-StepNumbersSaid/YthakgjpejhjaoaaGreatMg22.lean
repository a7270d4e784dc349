/-
  Parts of the proof (their names shortened by a program). No condition.
-/
import Derived.Test.YthakgjpejhjaoaaGreatMg01
import Derived.Test.YthakgjpejhjaoaaGreatMg05
import Derived.Test.YthakgjpejhjaoaaGreatMg21
import Derived.Test.YthakgjpejhjaoaaGreatMg18
import Derived.Test.YthakgjpejhjaoaaGreatMg20
namespace Go.Proofs.YthakgjpejhjaoaaGreat
open Go Go.RowKit
set_option linter.unusedVariables false
set_option linter.unusedSimpArgs false
set_option maxRecDepth 100000
set_option maxHeartbeats 16000000
theorem lack_R {M N : Mem} (h : N.R = M.R) (y r : Int) : N.lack y r = M.lack y r := by simp only [Mem.lack, Mem.rightAt, h]
theorem canBad_R {M N : Mem} (h : N.R = M.R) (x : Int) (n : Nat) (r : Int) : N.canBad x n r = M.canBad x n r := by
 simp only [Mem.canBad, lack_R h]
theorem canK_R {M N : Mem} (h : N.R = M.R) (x : Int) (n : Nat) (r : Int) : N.canK x n r = M.canK x n r := by rw [Mem.canK, Mem.canK, canBad_R h]
theorem wr8M_R (M : Mem) (x v : Int) : (M.wr8M x v).R = M.R := by
 rw [Mem.wr8M]; split
 ·rw [Mem.putN_R, Mem.putN_R]
 ·rfl
theorem Yom (M : Mem) (x r : Int) : M.canK x 8 r = (M.canK x 4 r && M.canK (Yn x 4) 4 r) := by
 rw [Bool.eq_iff_iff, Bool.and_eq_true, Yfo, Yfo, Yfo]
 constructor
 ·intro h
  exact ⟨fun t ht => h t (by omega), fun t ht => by rw [Yg0]; exact h (4 + t) (by omega)⟩
 ·intro ⟨h, k⟩ t ht
  by_cases h4 : t < 4
  ·exact h t h4
  ·have := k (t - 4) (by omega)
   rw [Yg0, show 4 + (t - 4) = t from by omega] at this
   exact this
theorem Yks {M : Mem} (hM : M.Ok) (x : Int) : M.rd8K x = M.canK x 8 1 := by
 have h := Yir hM x 4 1
 have k := Yir hM (Yn x 4) 4 1
 have e : Ya6 1 = 1 := rfl
 have e4 : (Yao 4).toNat = 4 := by decide
 rw [e, e4] at h k
 rw [Mem.rd8K, Yom, h, k]
theorem can8_lt {M : Mem} (hM : M.Ok) (x r : Int) (hr : r = 1 ∨ r = 2 ∨ r = 4) (h0 : 0 ≤ x) (h1 : x < 4294967296) (h : M.canK x 8 r = true) : x + 8 ≤ 16384 := by
 have hc : ∀ t, t < 8 → Yn x t < 16384 := fun t ht => Ygt (Yav _ _) ((Yhu hM _ (Yav _ _) r hr).1 ((Yfo M x 8 r).1 h t ht))
 have a := hc 0 (by decide)
 have b := hc 7 (by decide)
 unfold Yn at a b
 omega
theorem Yj1 (M : Mem) (x : Nat) (v : Int) (hx : x < 4294967000) (h0 : 0 ≤ v) (h1 : v < 4294967296) : (M.putN x v 4).get x 4 = v := by
 have h := put4_get M x v hx h0 h1
 have e4 : (Yao 4).toNat = 4 := by decide
 rwa [e4] at h
theorem put_far4 (M : Mem) (x y : Nat) (v : Int) (hx : x < 4294967000) (hy : y < 4294967000) (h : y + 4 ≤ x ∨ x + 4 ≤ y) : (M.putN x v 4).get y 4 = M.get y 4 := by
 have h := Ykx M x y v hx hy h
 have e4 : (Yao 4).toNat = 4 := by decide
 rwa [e4] at h
theorem rd8_wr8 {M : Mem} (hM : M.Ok) (x v : Int) (h0 : 0 ≤ x) (h1 : x < 4294967296) (hv0 : 0 ≤ v) (hv1 : v < 18446744073709551616) (hw : M.canK x 8 2 = true) (hr : M.canK x 8 1 = true) : (M.wr8M x v).rd8V x = v := by
 have hx := can8_lt hM x 2 (by simp) h0 h1 hw
 obtain ⟨y, rfl⟩ := Int.eq_ofNat_of_zero_le h0
 have ep : Yn (y : Int) 4 = ((y + 4 : Nat) : Int) := by unfold Yn; omega
 have e4 : (Yao 4).toNat = 4 := by decide
 obtain ⟨N, hN⟩ : ∃ N, M.wr8M y v = N := ⟨_, rfl⟩
 have hNe : N = (M.putN y (v % 4294967296) 4).putN ((y + 4 : Nat) : Int) (v / 4294967296) 4 := by rw [← hN, Mem.wr8M, if_pos hw, ep]
 have hNok : N.Ok := by rw [hNe]; exact Mem.putN_ok (Mem.putN_ok hM _ _ _) _ _ _
 have hNR : N.R = M.R := by rw [← hN]; exact wr8M_R _ _ _
 rw [hN]
 have hk : N.rd8K y = true := by rw [Yks hNok, canK_R hNR, hr]
 rw [Mem.rd8V, if_pos hk]
 simp only [Mem.rd8K, Bool.and_eq_true] at hk
 have g1 : N.readV y 4 1 = N.get y 4 := by
  have := hk.1
  rw [Mem.readK] at this
  rw [Mem.readV, Option.isNone_iff_eq_none.1 this, e4]
 have g2 : N.readV ((y + 4 : Nat) : Int) 4 1 = N.get ((y + 4 : Nat) : Int) 4 := by
  have := hk.2
  rw [ep, Mem.readK] at this
  rw [Mem.readV, Option.isNone_iff_eq_none.1 this, e4]
 rw [ep, g1, g2, hNe, Yj1 _ _ _ (by omega) (by omega) (by omega), put_far4 _ _ _ _ (by omega) (by omega) (by omega), Yj1 _ _ _ (by omega) (by omega) (by omega)]
 omega
section
def Ybo : Mem := Mem.zero.mapM 0 1 3
theorem nu_map : Mem.zero.mapB 0 1 3 = true := by decide +kernel
theorem nu_w : Ybo.canK 8 8 2 = true := by decide +kernel
theorem nu_r : Ybo.canK 8 8 1 = true := by decide +kernel
def nuO : Opd := ⟨3, 0, 8, -1, -1, 1⟩
theorem Yj2 : nuO.Ok := ⟨by decide, by decide⟩
theorem Yf3 : Opd.none.Ok := ⟨by decide, by decide⟩
def nuT (F : Fl) (v : Int) : St := ⟨fun _ => 0, 0, F.cf, F.pf, F.af, F.zf, F.sf, F.of_, false, v⟩
theorem Yim (F : Fl) (v : Int) (hv : 0 ≤ v ∧ v < 18446744073709551616) : (nuT F v).Ok := ⟨fun _ => by simp [nuT], by simp [nuT], hv⟩
theorem Yhx (s : St) : s.place nuO = 8 := by simp [St.place, nuO, St.reg]
def nuB (F : Fl) (v : Int) : St := { nuT F v with pc := 12 }
section
variable {w : World} {a pb : Nat} {F : Fl} {v f : Int}
theorem nu_fst (hM : Ym w a pb Ybo) (hv : 0 ≤ v ∧ v < 18446744073709551616) :
  Calls Tryz.prog 15 #[.pointer (some ⟨a, 0, none⟩), .agg (St.cells (nuT F v)), .agg (Ins.cells ⟨46, 0, nuO, Opd.none, false, 6⟩)] w fun e w' =>
   e = .returned (.tuple #[.agg (St.cells { nuT F v with pc := 6 }), Flt.zero.val, .bool true]) ∧ Ym w' a pb (Ybo.wr8M 8 v) ∧ Upd [pb] w w' := by
 refine Do_of a pb (nuT F v) _ _ _ _ _ w hM (Yim F v hv) ⟨Yj2, Yf3⟩ (fun d w1 h1 => fst_all d a pb _ _ _ w1 h1 rfl) ?_
 rw [fstO]
 dsimp only
 rw [Yhx, if_pos nu_w]
 rfl
theorem nu_M {M : Mem} (hM : M.Ok) (hR : M.R = Ybo.R) : M.rd8K 8 = true := by
 rw [Yks hM, canK_R hR]; exact nu_r
theorem nu_R (v : Int) : (Ybo.wr8M 8 v).R = Ybo.R := by
 rw [Mem.wr8M, if_pos nu_w, Mem.putN_R, Mem.putN_R]
theorem nu_V (hv : 0 ≤ v ∧ v < 18446744073709551616) (hM : Ybo.Ok) : (Ybo.wr8M 8 v).rd8V 8 = v := rd8_wr8 hM 8 v (by decide) (by decide) hv.1 hv.2 nu_w nu_r
theorem nu_fld (hM : Ym w a pb (Ybo.wr8M 8 v)) (hN : Ybo.Ok) (hv : 0 ≤ v ∧ v < 18446744073709551616) (hf : 0 ≤ f ∧ f < 18446744073709551616) :
  Calls Tryz.prog 15 #[.pointer (some ⟨a, 0, none⟩), .agg (St.cells { nuT F v with pc := 6, f := f }), .agg (Ins.cells ⟨45, 0, nuO, Opd.none, false, 6⟩)] w fun e w' =>
   e = .returned (.tuple #[.agg (St.cells (nuB F v)), Flt.zero.val, .bool true]) ∧ Ym w' a pb (Ybo.wr8M 8 v) ∧ Upd [pb] w w' := by
 refine Do_of a pb _ _ _ _ _ _ w hM ⟨(Yim F v hv).R, ⟨show (0 : Int) ≤ 6 by decide, show (6 : Int) < 4294967296 by decide⟩, hf⟩ ⟨Yj2, Yf3⟩ (fun d w1 h1 => fld_all d a pb _ _ _ w1 h1 rfl) ?_
 rw [fldO]
 dsimp only
 rw [Yhx, if_pos (nu_M hM.ok (nu_R v)), nu_V hv hN]
 rfl
theorem nu_chs (hM : Ym w a pb (Ybo.wr8M 8 v)) (hv : 0 ≤ v ∧ v < 18446744073709551616) :
  Calls Tryz.prog 15 #[.pointer (some ⟨a, 0, none⟩), .agg (St.cells (nuB F v)), .agg (Ins.cells ⟨51, 0, Opd.none, Opd.none, false, 2⟩)] w fun e w' =>
   e = .returned (.tuple #[.agg (St.cells { nuB F v with pc := 14, f := Yea v }), Flt.zero.val, .bool true]) ∧ Ym w' a pb (Ybo.wr8M 8 v) ∧ Upd [pb] w w' := by
 refine Do_of a pb _ _ _ _ _ _ w hM ⟨(Yim F v hv).R, ⟨show (0 : Int) ≤ 12 by decide, show (12 : Int) < 4294967296 by decide⟩, hv⟩ ⟨Yf3, Yf3⟩ (fun d w1 h1 => fchs_all d a pb _ _ _ w1 h1 rfl) ?_
 rw [fchsO]
 rfl
theorem nu_sub (hM : Ym w a pb (Ybo.wr8M 8 v)) (hN : Ybo.Ok) (hv : 0 ≤ v ∧ v < 18446744073709551616) (r : Int) (hr : Ydy .sub v.toNat v.toNat = r) :
  Calls Tryz.prog 15 #[.pointer (some ⟨a, 0, none⟩), .agg (St.cells (nuB F v)), .agg (Ins.cells ⟨49, 0, nuO, Opd.none, false, 6⟩)] w fun e w' =>
   e = .returned (.tuple #[.agg (St.cells { nuB F v with pc := 18, f := r }), Flt.zero.val, .bool true]) ∧ Ym w' a pb (Ybo.wr8M 8 v) ∧ Upd [pb] w w' := by
 refine Do_of a pb _ _ _ _ _ _ w hM ⟨(Yim F v hv).R, ⟨show (0 : Int) ≤ 12 by decide, show (12 : Int) < 4294967296 by decide⟩, hv⟩ ⟨Yj2, Yf3⟩ (fun d w1 h1 => fsub_all d a pb _ _ _ w1 h1 rfl) ?_
 rw [fsubO]
 dsimp only
 rw [Yhx, if_pos (nu_M hM.ok (nu_R v)), nu_V hv hN, ← hr]
 rfl
end
theorem Yib (F : Fl) (w : World) : (binOp .eql 25 (.agg F.cells) (.agg F.cells)).run Tryz.prog w = .ok (.bool true) w := by
 have h := Yhg (nuT F 0) (nuT F 0) w 9998
 rw [run_eql_struct]
 rw [show (10000 : Nat) = 9998 + 1 + 1 from rfl]
 have h2 : (Op.equalIn (9998 + 1 + 1) 25 (.agg F.cells) (.agg F.cells)).run Tryz.prog w = .ok true w := by
  refine Eq.trans h ?_
  simp
 rw [h2, Result.andThen_ok]
end
theorem Yg3 : (∀ (f v : Int) (x0 x1 x2 x3 x4 x5 : Bool) (w : World) (y : Int) (hf : 0 ≤ f ∧ f < 18446744073709551616) (hv : 0 ≤ v ∧ v < 18446744073709551616) (hy : IntKind.u64.wrap (v * 2) = y) (e1 : decide (18437736874454810624 < y) = true) (e2 : (y == 18437736874454810624) = false) (hr : Ydy .sub v.toNat v.toNat = 9221120237041090560), Calls Tryz.prog 5 #[.int .u64 f, .int .u64 v, .agg #[.bool x0, .bool x1, .bool x2, .bool x3, .bool x4, .bool x5]] w fun e w' => e = .returned (.bool true) ∧ Upd [] w w') ∧
 (∀ (f v : Int) (x0 x1 x2 x3 x4 x5 : Bool) (w : World) (y : Int) (hf : 0 ≤ f ∧ f < 18446744073709551616) (hv : 0 ≤ v ∧ v < 18446744073709551616) (hy : IntKind.u64.wrap (v * 2) = y) (e1 : decide (18437736874454810624 < y) = false) (e2 : (y == 18437736874454810624) = true) (hr : Ydy .sub v.toNat v.toNat = 9221120237041090560), Calls Tryz.prog 5 #[.int .u64 f, .int .u64 v, .agg #[.bool x0, .bool x1, .bool x2, .bool x3, .bool x4, .bool x5]] w fun e w' => e = .returned (.bool true) ∧ Upd [] w w') := by
 refine ⟨fun f v x0 x1 x2 x3 x4 x5 w y hf hv hy e1 e2 hr => ?_, fun f v x0 x1 x2 x3 x4 x5 w y hf hv hy e1 e2 hr => ?_⟩
 all_goals
  have HV := Yh_ (And.intro hv hf)
  have HR := Yh_ hr
  have hE := Yib ⟨x0, x1, x2, x3, x4, x5⟩
  unfold Fl.cells at hE
  clear hr hf hv
  have tok : True := trivial
  have tk1 : True := trivial
  have tk2 : True := trivial
  have tk3 : True := trivial
  have tk4 : True := trivial
  go_enter Tryz.func5, Tryz.ntmps5
  go_upto_region 7 with (first | (have _t := tok; clear _t; go_at_call 12; refine (Yhn _).mono ?_; rintro e w0 ⟨rfl, hu0⟩; clear tok) | (have _t := hu0; clear _t; go_at_call 13; refine (Yit _).mono ?_; rintro e w1 ⟨a, pb, rfl, ha, hp, hM1, hu1⟩; have K0 := Yh_ (show Kn w a pb Mem.zero [(w.heap.size, .cells #[.bool x0, .bool x1, .bool x2, .bool x3, .bool x4, .bool x5] 25 (0, 0))] w1 from Kn.start1 hu0 ha hp hM1 hu1); clear hu0 hu1 ha hp hM1) | (have _t := K0; clear _t; go_at_call 14; refine (Yix Mem.zero a pb 0 1 3 _ K0.out.m (by decide)).mono ?_; rintro e w11 ⟨rfl, hm, hu⟩; rw [show Mem.zero.mapB 0 1 3 = true from nu_map, Ygl]; have K1 := Yh_ (show Kn w a pb Ybo [(w.heap.size, .cells #[.bool x0, .bool x1, .bool x2, .bool x3, .bool x4, .bool x5] 25 (0, 0))] w11 from K0.out.step hm hu); clear hm hu K0 ; have c0_all_1 := Ya (K1.out.get 0 rfl); have HN := Yh_ K1.out.m.ok))
  have o0 := Ya (Yj (.cells #[.int .i64 3, .int .i64 0, .int .u32 8, .int .i64 (-1), .int .i64 (-1), .int .u32 1] 39) (K1.out.get 0 rfl))
  go_upto_region 8 with (first | (have _t := K1; clear _t; refine Yd 28 rfl ?_; have hK := K1.out.add ((Upd.refl [] w11).alloc (.cells #[.int .i64 3, .int .i64 0, .int .u32 8, .int .i64 (-1), .int .i64 (-1), .int .u32 1] 39)) (Nat.le_refl _) (heap_alloc_new w11 (.cells #[.int .i64 3, .int .i64 0, .int .u32 8, .int .i64 (-1), .int .i64 (-1), .int .u32 1] 39)); have hsz : (w11.alloc (.cells #[.int .i64 3, .int .i64 0, .int .u32 8, .int .i64 (-1), .int .i64 (-1), .int .u32 1] 39)).heap.size = w11.heap.size + 1 := (by simp); have hbz := heap_alloc_new (w11.alloc (.cells #[.int .i64 3, .int .i64 0, .int .u32 8, .int .i64 (-1), .int .i64 (-1), .int .u32 1] 39)) (.cells St.zero.cells 28); rw [hsz] at hbz; refine Yy (nuT ⟨x0, x1, x2, x3, x4, x5⟩ v) (w11.heap.size + 1) rfl _ _ rfl rfl rfl hbz rfl ?_; clear hbz; intro w12 hw; rw [← hsz] at hw; have h2 := one_st hw; rw [hsz] at h2; have h3 := hK.add h2.2 (Nat.le_of_eq hsz) h2.1; have K2 := Yh_ (show Kn w a pb Ybo [((w11.heap.size + 1), .cells (St.cells (nuT ⟨x0, x1, x2, x3, x4, x5⟩ v)) 28 (0, 0)), (w11.heap.size, .cells #[.int .i64 3, .int .i64 0, .int .u32 8, .int .i64 (-1), .int .i64 (-1), .int .u32 1] 39 (0, 0)), (w.heap.size, .cells #[.bool x0, .bool x1, .bool x2, .bool x3, .bool x4, .bool x5] 25 (0, 0))] w12 from h3); clear hw h2 h3 hsz hK K1 o0 c0_all_1))
  have o1 := Ya (K2.out.get 1 rfl)
  go_upto_region 10 with (first | (have _t := tk1; have _t2 := K2; clear _t _t2; refine Yaj 28 rfl ?_; clear tk1; refine Yq ((nuT ⟨x0, x1, x2, x3, x4, x5⟩ v)) ((w11.heap.size + 1)) rfl _ rfl rfl (K2.out.get 0 rfl) ?_) | (have _t := K2; clear _t; go_at_call 15; refine (nu_fst K2.out.m HV.out.1).mono ?_; rintro e w13 ⟨rfl, hm, hu⟩; unfold Flt.val Flt.zero; have K3 := Yh_ (show Kn w a pb (Ybo.wr8M 8 v) [((w11.heap.size + 1), .cells (St.cells (nuT ⟨x0, x1, x2, x3, x4, x5⟩ v)) 28 (0, 0)), (w11.heap.size, .cells #[.int .i64 3, .int .i64 0, .int .u32 8, .int .i64 (-1), .int .i64 (-1), .int .u32 1] 39 (0, 0)), (w.heap.size, .cells #[.bool x0, .bool x1, .bool x2, .bool x3, .bool x4, .bool x5] 25 (0, 0))] w13 from K2.out.step hm hu); clear hm hu K2 o1) | (have _t := K3; clear _t; refine Yd 28 rfl ?_; refine Yy (({ (nuT ⟨x0, x1, x2, x3, x4, x5⟩ v) with pc := 6 } : St)) w13.heap.size rfl _ _ rfl rfl rfl (heap_alloc2_old w13 (.cells St.zero.cells 28) (.cells #[.int .i64 0, .int .u32 0, .int .u32 0, .int .i64 0] 35)) rfl ?_; intro w14 hw; have h2 := Ydc hw; have h3 := K3.out.two (F := Flt.zero) h2; dsimp only [Flt.zero] at h3; have ct4 := Ya h2.2.1; have ft4 := Yg h2.2.1; have K4 := Yh_ h3; clear hw h2 h3 K3; have c2_f_4 : ((((w14.setCell ⟨w13.heap.size + 1, 0, none⟩ (.int .i64 0)).setCell ⟨w13.heap.size + 1, 1, none⟩ (.int .u32 0)).setCell ⟨w13.heap.size + 1, 2, none⟩ (.int .u32 0)).setCell ⟨w13.heap.size + 1, 3, none⟩ (.int .i64 0)).cell? ⟨w13.heap.size, 16, none⟩ = some (.int .u64 ((({ (nuT ⟨x0, x1, x2, x3, x4, x5⟩ v) with pc := 6 } : St) : St).f)) := Ya (K4.out.get 1 rfl) 16; have c3_free_4 := Yg (K4.out.get 1 rfl)))
  have hk := ((K4.out).putC 1 rfl (s' := ({ (nuT ⟨x0, x1, x2, x3, x4, x5⟩ v) with pc := 6, f := f } : St)) 16 (.int .u64 f) rfl)
  dsimp only [List.set] at hk
  have K5 := Yh_ (show Kn w a pb (Ybo.wr8M 8 v) [((w13.heap.size + 1), .cells (Yp Flt.zero) 35 (0, 0)), (w13.heap.size, .cells (St.cells ({ (nuT ⟨x0, x1, x2, x3, x4, x5⟩ v) with pc := 6, f := f } : St)) 28 (0, 0)), ((w11.heap.size + 1), .cells (St.cells (nuT ⟨x0, x1, x2, x3, x4, x5⟩ v)) 28 (0, 0)), (w11.heap.size, .cells #[.int .i64 3, .int .i64 0, .int .u32 8, .int .i64 (-1), .int .i64 (-1), .int .u32 1] 39 (0, 0)), (w.heap.size, .cells #[.bool x0, .bool x1, .bool x2, .bool x3, .bool x4, .bool x5] 25 (0, 0))] (((((w14.setCell ⟨w13.heap.size + 1, 0, none⟩ (.int .i64 0)).setCell ⟨w13.heap.size + 1, 1, none⟩ (.int .u32 0)).setCell ⟨w13.heap.size + 1, 2, none⟩ (.int .u32 0)).setCell ⟨w13.heap.size + 1, 3, none⟩ (.int .i64 0)).setCell ⟨w13.heap.size, 16, none⟩ (.int .u64 f)) from hk)
  clear hk K4 ct4 ft4 c2_f_4 c3_free_4
  have o2 := Ya (K5.out.get 3 rfl)
  go_upto_region 11 with (first | (have _t := tk2; have _t2 := K5; clear _t _t2; refine Yaj 28 rfl ?_; clear tk2; refine Yq (({ (nuT ⟨x0, x1, x2, x3, x4, x5⟩ v) with pc := 6, f := f } : St)) (w13.heap.size) rfl _ rfl rfl (K5.out.get 1 rfl) ?_) | (have _t := K5; clear _t; go_at_call 15; refine (nu_fld K5.out.m HN.out HV.out.1 HV.out.2).mono ?_; rintro e w15 ⟨rfl, hm, hu⟩; unfold Flt.val Flt.zero; have K6 := Yh_ (show Kn w a pb (Ybo.wr8M 8 v) [((w13.heap.size + 1), .cells (Yp Flt.zero) 35 (0, 0)), (w13.heap.size, .cells (St.cells ({ (nuT ⟨x0, x1, x2, x3, x4, x5⟩ v) with pc := 6, f := f } : St)) 28 (0, 0)), ((w11.heap.size + 1), .cells (St.cells (nuT ⟨x0, x1, x2, x3, x4, x5⟩ v)) 28 (0, 0)), (w11.heap.size, .cells #[.int .i64 3, .int .i64 0, .int .u32 8, .int .i64 (-1), .int .i64 (-1), .int .u32 1] 39 (0, 0)), (w.heap.size, .cells #[.bool x0, .bool x1, .bool x2, .bool x3, .bool x4, .bool x5] 25 (0, 0))] w15 from K5.out.step hm hu); clear hm hu K5 o2) | (have _t := K6; clear _t; refine Yd 28 rfl ?_; refine Yy ((nuB ⟨x0, x1, x2, x3, x4, x5⟩ v)) w15.heap.size rfl _ _ rfl rfl rfl (heap_alloc2_old w15 (.cells St.zero.cells 28) (.cells #[.int .i64 0, .int .u32 0, .int .u32 0, .int .i64 0] 35)) rfl ?_; intro w16 hw; have h2 := Ydc hw; have h3 := K6.out.two (F := Flt.zero) h2; dsimp only [Flt.zero] at h3; have ct7 := Ya h2.2.1; have ft7 := Yg h2.2.1; have K7 := Yh_ h3; clear hw h2 h3 K6))
  go_upto_region 12 with (first | (have _t := tk3; have _t2 := K7; clear _t _t2; refine Yaj 28 rfl ?_; clear tk3; refine Yq ((nuB ⟨x0, x1, x2, x3, x4, x5⟩ v)) (w15.heap.size) rfl _ rfl rfl (K7.out.get 1 rfl) ?_) | (have _t := K7; clear _t; go_at_call 15; refine (nu_chs K7.out.m HV.out.1).mono ?_; rintro e w17 ⟨rfl, hm, hu⟩; unfold Flt.val Flt.zero; have K8 := Yh_ (show Kn w a pb (Ybo.wr8M 8 v) [((w15.heap.size + 1), .cells (Yp Flt.zero) 35 (0, 0)), (w15.heap.size, .cells (St.cells (nuB ⟨x0, x1, x2, x3, x4, x5⟩ v)) 28 (0, 0)), ((w13.heap.size + 1), .cells (Yp Flt.zero) 35 (0, 0)), (w13.heap.size, .cells (St.cells ({ (nuT ⟨x0, x1, x2, x3, x4, x5⟩ v) with pc := 6, f := f } : St)) 28 (0, 0)), ((w11.heap.size + 1), .cells (St.cells (nuT ⟨x0, x1, x2, x3, x4, x5⟩ v)) 28 (0, 0)), (w11.heap.size, .cells #[.int .i64 3, .int .i64 0, .int .u32 8, .int .i64 (-1), .int .i64 (-1), .int .u32 1] 39 (0, 0)), (w.heap.size, .cells #[.bool x0, .bool x1, .bool x2, .bool x3, .bool x4, .bool x5] 25 (0, 0))] w17 from K7.out.step hm hu); clear hm hu K7 ct7 ft7) | (have _t := K8; clear _t; refine Yd 28 rfl ?_; refine Yy (({ nuB ⟨x0, x1, x2, x3, x4, x5⟩ v with pc := 14, f := Yea v } : St)) w17.heap.size rfl _ _ rfl rfl rfl (heap_alloc2_old w17 (.cells St.zero.cells 28) (.cells #[.int .i64 0, .int .u32 0, .int .u32 0, .int .i64 0] 35)) rfl ?_; intro w18 hw; have h2 := Ydc hw; have h3 := K8.out.two (F := Flt.zero) h2; dsimp only [Flt.zero] at h3; have ct9 := Ya h2.2.1; have ft9 := Yg h2.2.1; have K9 := Yh_ h3; clear hw h2 h3 K8))
  have o3 := Ya (K9.out.get 7 rfl)
  go_upto_region 15 with (first | (have _t := tk4; have _t2 := K9; clear _t _t2; refine Yaj 28 rfl ?_; clear tk4; refine Yq ((nuB ⟨x0, x1, x2, x3, x4, x5⟩ v)) (w15.heap.size) rfl _ rfl rfl (K9.out.get 3 rfl) ?_) | (have _t := K9; clear _t; go_at_call 15; refine (nu_sub K9.out.m HN.out HV.out.1 9221120237041090560 HR.out).mono ?_; rintro e w19 ⟨rfl, hm, hu⟩; unfold Flt.val Flt.zero; have K10 := Yh_ (show Kn w a pb (Ybo.wr8M 8 v) [((w17.heap.size + 1), .cells (Yp Flt.zero) 35 (0, 0)), (w17.heap.size, .cells (St.cells ({ nuB ⟨x0, x1, x2, x3, x4, x5⟩ v with pc := 14, f := Yea v } : St)) 28 (0, 0)), ((w15.heap.size + 1), .cells (Yp Flt.zero) 35 (0, 0)), (w15.heap.size, .cells (St.cells (nuB ⟨x0, x1, x2, x3, x4, x5⟩ v)) 28 (0, 0)), ((w13.heap.size + 1), .cells (Yp Flt.zero) 35 (0, 0)), (w13.heap.size, .cells (St.cells ({ (nuT ⟨x0, x1, x2, x3, x4, x5⟩ v) with pc := 6, f := f } : St)) 28 (0, 0)), ((w11.heap.size + 1), .cells (St.cells (nuT ⟨x0, x1, x2, x3, x4, x5⟩ v)) 28 (0, 0)), (w11.heap.size, .cells #[.int .i64 3, .int .i64 0, .int .u32 8, .int .i64 (-1), .int .i64 (-1), .int .u32 1] 39 (0, 0)), (w.heap.size, .cells #[.bool x0, .bool x1, .bool x2, .bool x3, .bool x4, .bool x5] 25 (0, 0))] w19 from K9.out.step hm hu); clear hm hu K9 ct9 ft9 o3) | (have _t := K10; clear _t; refine Yd 28 rfl ?_; refine Yy (({ nuB ⟨x0, x1, x2, x3, x4, x5⟩ v with pc := 18, f := 9221120237041090560 } : St)) w19.heap.size rfl _ _ rfl rfl rfl (heap_alloc2_old w19 (.cells St.zero.cells 28) (.cells #[.int .i64 0, .int .u32 0, .int .u32 0, .int .i64 0] 35)) rfl ?_; intro w20 hw; have h2 := Ydc hw; have h3 := K10.out.two (F := Flt.zero) h2; dsimp only [Flt.zero] at h3; have ct11 := Ya h2.2.1; have ft11 := Yg h2.2.1; have K11 := Yh_ h3; clear hw h2 h3 K10))
  have d1 : ((((w20.setCell ⟨w19.heap.size + 1, 0, none⟩ (.int .i64 0)).setCell ⟨w19.heap.size + 1, 1, none⟩ (.int .u32 0)).setCell ⟨w19.heap.size + 1, 2, none⟩ (.int .u32 0)).setCell ⟨w19.heap.size + 1, 3, none⟩ (.int .i64 0)).cell? ⟨w13.heap.size, 8, none⟩ = some (.int .u32 6) := Ya (K11.out.get 7 rfl) 8
  have d2 : ((((w20.setCell ⟨w19.heap.size + 1, 0, none⟩ (.int .i64 0)).setCell ⟨w19.heap.size + 1, 1, none⟩ (.int .u32 0)).setCell ⟨w19.heap.size + 1, 2, none⟩ (.int .u32 0)).setCell ⟨w19.heap.size + 1, 3, none⟩ (.int .i64 0)).cell? ⟨w15.heap.size, 16, none⟩ = some (.int .u64 v) := Ya (K11.out.get 5 rfl) 16
  have d3 : ((((w20.setCell ⟨w19.heap.size + 1, 0, none⟩ (.int .i64 0)).setCell ⟨w19.heap.size + 1, 1, none⟩ (.int .u32 0)).setCell ⟨w19.heap.size + 1, 2, none⟩ (.int .u32 0)).setCell ⟨w19.heap.size + 1, 3, none⟩ (.int .i64 0)).cell? ⟨w17.heap.size, 16, none⟩ = some (.int .u64 (bits .xor .u64 v 9223372036854775808)) := Ya (K11.out.get 3 rfl) 16
  have d4 : ((((w20.setCell ⟨w19.heap.size + 1, 0, none⟩ (.int .i64 0)).setCell ⟨w19.heap.size + 1, 1, none⟩ (.int .u32 0)).setCell ⟨w19.heap.size + 1, 2, none⟩ (.int .u32 0)).setCell ⟨w19.heap.size + 1, 3, none⟩ (.int .i64 0)).cell? ⟨w19.heap.size, 16, none⟩ = some (.int .u64 9221120237041090560) := Ya (K11.out.get 1 rfl) 16
  have d10 : ((((w20.setCell ⟨w19.heap.size + 1, 0, none⟩ (.int .i64 0)).setCell ⟨w19.heap.size + 1, 1, none⟩ (.int .u32 0)).setCell ⟨w19.heap.size + 1, 2, none⟩ (.int .u32 0)).setCell ⟨w19.heap.size + 1, 3, none⟩ (.int .i64 0)).cell? ⟨w19.heap.size, 9, none⟩ = some (.bool x0) := Ya (K11.out.get 1 rfl) 9
  have d11 : ((((w20.setCell ⟨w19.heap.size + 1, 0, none⟩ (.int .i64 0)).setCell ⟨w19.heap.size + 1, 1, none⟩ (.int .u32 0)).setCell ⟨w19.heap.size + 1, 2, none⟩ (.int .u32 0)).setCell ⟨w19.heap.size + 1, 3, none⟩ (.int .i64 0)).cell? ⟨w19.heap.size, 10, none⟩ = some (.bool x1) := Ya (K11.out.get 1 rfl) 10
  have d12 : ((((w20.setCell ⟨w19.heap.size + 1, 0, none⟩ (.int .i64 0)).setCell ⟨w19.heap.size + 1, 1, none⟩ (.int .u32 0)).setCell ⟨w19.heap.size + 1, 2, none⟩ (.int .u32 0)).setCell ⟨w19.heap.size + 1, 3, none⟩ (.int .i64 0)).cell? ⟨w19.heap.size, 11, none⟩ = some (.bool x2) := Ya (K11.out.get 1 rfl) 11
  have d13 : ((((w20.setCell ⟨w19.heap.size + 1, 0, none⟩ (.int .i64 0)).setCell ⟨w19.heap.size + 1, 1, none⟩ (.int .u32 0)).setCell ⟨w19.heap.size + 1, 2, none⟩ (.int .u32 0)).setCell ⟨w19.heap.size + 1, 3, none⟩ (.int .i64 0)).cell? ⟨w19.heap.size, 12, none⟩ = some (.bool x3) := Ya (K11.out.get 1 rfl) 12
  have d14 : ((((w20.setCell ⟨w19.heap.size + 1, 0, none⟩ (.int .i64 0)).setCell ⟨w19.heap.size + 1, 1, none⟩ (.int .u32 0)).setCell ⟨w19.heap.size + 1, 2, none⟩ (.int .u32 0)).setCell ⟨w19.heap.size + 1, 3, none⟩ (.int .i64 0)).cell? ⟨w19.heap.size, 13, none⟩ = some (.bool x4) := Ya (K11.out.get 1 rfl) 13
  have d15 : ((((w20.setCell ⟨w19.heap.size + 1, 0, none⟩ (.int .i64 0)).setCell ⟨w19.heap.size + 1, 1, none⟩ (.int .u32 0)).setCell ⟨w19.heap.size + 1, 2, none⟩ (.int .u32 0)).setCell ⟨w19.heap.size + 1, 3, none⟩ (.int .i64 0)).cell? ⟨w19.heap.size, 14, none⟩ = some (.bool x5) := Ya (K11.out.get 1 rfl) 14
  have d20 : ((((w20.setCell ⟨w19.heap.size + 1, 0, none⟩ (.int .i64 0)).setCell ⟨w19.heap.size + 1, 1, none⟩ (.int .u32 0)).setCell ⟨w19.heap.size + 1, 2, none⟩ (.int .u32 0)).setCell ⟨w19.heap.size + 1, 3, none⟩ (.int .i64 0)).cell? ⟨w.heap.size, 0, none⟩ = some (.bool x0) := Ya (K11.out.get 10 rfl) 0
  have d21 : ((((w20.setCell ⟨w19.heap.size + 1, 0, none⟩ (.int .i64 0)).setCell ⟨w19.heap.size + 1, 1, none⟩ (.int .u32 0)).setCell ⟨w19.heap.size + 1, 2, none⟩ (.int .u32 0)).setCell ⟨w19.heap.size + 1, 3, none⟩ (.int .i64 0)).cell? ⟨w.heap.size, 1, none⟩ = some (.bool x1) := Ya (K11.out.get 10 rfl) 1
  have d22 : ((((w20.setCell ⟨w19.heap.size + 1, 0, none⟩ (.int .i64 0)).setCell ⟨w19.heap.size + 1, 1, none⟩ (.int .u32 0)).setCell ⟨w19.heap.size + 1, 2, none⟩ (.int .u32 0)).setCell ⟨w19.heap.size + 1, 3, none⟩ (.int .i64 0)).cell? ⟨w.heap.size, 2, none⟩ = some (.bool x2) := Ya (K11.out.get 10 rfl) 2
  have d23 : ((((w20.setCell ⟨w19.heap.size + 1, 0, none⟩ (.int .i64 0)).setCell ⟨w19.heap.size + 1, 1, none⟩ (.int .u32 0)).setCell ⟨w19.heap.size + 1, 2, none⟩ (.int .u32 0)).setCell ⟨w19.heap.size + 1, 3, none⟩ (.int .i64 0)).cell? ⟨w.heap.size, 3, none⟩ = some (.bool x3) := Ya (K11.out.get 10 rfl) 3
  have d24 : ((((w20.setCell ⟨w19.heap.size + 1, 0, none⟩ (.int .i64 0)).setCell ⟨w19.heap.size + 1, 1, none⟩ (.int .u32 0)).setCell ⟨w19.heap.size + 1, 2, none⟩ (.int .u32 0)).setCell ⟨w19.heap.size + 1, 3, none⟩ (.int .i64 0)).cell? ⟨w.heap.size, 4, none⟩ = some (.bool x4) := Ya (K11.out.get 10 rfl) 4
  have d25 : ((((w20.setCell ⟨w19.heap.size + 1, 0, none⟩ (.int .i64 0)).setCell ⟨w19.heap.size + 1, 1, none⟩ (.int .u32 0)).setCell ⟨w19.heap.size + 1, 2, none⟩ (.int .u32 0)).setCell ⟨w19.heap.size + 1, 3, none⟩ (.int .i64 0)).cell? ⟨w.heap.size, 5, none⟩ = some (.bool x5) := Ya (K11.out.get 10 rfl) 5
  go_wp2_with fail
  go_ret
  exact ⟨rfl, K11.out.u⟩
theorem nu_under (f v : Int) (x0 x1 x2 x3 x4 x5 : Bool) (w : World) (y : Int) (hf : 0 ≤ f ∧ f < 18446744073709551616) (hv : 0 ≤ v ∧ v < 18446744073709551616) (hy : IntKind.u64.wrap (v * 2) = y) (e1 : decide (18437736874454810624 < y) = false) (e2 : (y == 18437736874454810624) = false) (hr : Ydy .sub v.toNat v.toNat = 0) :
  Calls Tryz.prog 5 #[.int .u64 f, .int .u64 v, .agg #[.bool x0, .bool x1, .bool x2, .bool x3, .bool x4, .bool x5]] w fun e w' => e = .returned (.bool true) ∧ Upd [] w w' := by
 have HV := Yh_ (And.intro hv hf)
 have HR := Yh_ hr
 have hE := Yib ⟨x0, x1, x2, x3, x4, x5⟩
 unfold Fl.cells at hE
 clear hr hf hv
 have tok : True := trivial
 have tk1 : True := trivial
 have tk2 : True := trivial
 have tk3 : True := trivial
 have tk4 : True := trivial
 go_enter Tryz.func5, Tryz.ntmps5
 go_upto_region 7 with (first | (have _t := tok; clear _t; go_at_call 12; refine (Yhn _).mono ?_; rintro e w0 ⟨rfl, hu0⟩; clear tok) | (have _t := hu0; clear _t; go_at_call 13; refine (Yit _).mono ?_; rintro e w1 ⟨a, pb, rfl, ha, hp, hM1, hu1⟩; have K0 := Yh_ (show Kn w a pb Mem.zero [(w.heap.size, .cells #[.bool x0, .bool x1, .bool x2, .bool x3, .bool x4, .bool x5] 25 (0, 0))] w1 from Kn.start1 hu0 ha hp hM1 hu1); clear hu0 hu1 ha hp hM1) | (have _t := K0; clear _t; go_at_call 14; refine (Yix Mem.zero a pb 0 1 3 _ K0.out.m (by decide)).mono ?_; rintro e w11 ⟨rfl, hm, hu⟩; rw [show Mem.zero.mapB 0 1 3 = true from nu_map, Ygl]; have K1 := Yh_ (show Kn w a pb Ybo [(w.heap.size, .cells #[.bool x0, .bool x1, .bool x2, .bool x3, .bool x4, .bool x5] 25 (0, 0))] w11 from K0.out.step hm hu); clear hm hu K0 ; have c0_all_1 := Ya (K1.out.get 0 rfl); have HN := Yh_ K1.out.m.ok))
 have o0 := Ya (Yj (.cells #[.int .i64 3, .int .i64 0, .int .u32 8, .int .i64 (-1), .int .i64 (-1), .int .u32 1] 39) (K1.out.get 0 rfl))
 go_upto_region 8 with (first | (have _t := K1; clear _t; refine Yd 28 rfl ?_; have hK := K1.out.add ((Upd.refl [] w11).alloc (.cells #[.int .i64 3, .int .i64 0, .int .u32 8, .int .i64 (-1), .int .i64 (-1), .int .u32 1] 39)) (Nat.le_refl _) (heap_alloc_new w11 (.cells #[.int .i64 3, .int .i64 0, .int .u32 8, .int .i64 (-1), .int .i64 (-1), .int .u32 1] 39)); have hsz : (w11.alloc (.cells #[.int .i64 3, .int .i64 0, .int .u32 8, .int .i64 (-1), .int .i64 (-1), .int .u32 1] 39)).heap.size = w11.heap.size + 1 := (by simp); have hbz := heap_alloc_new (w11.alloc (.cells #[.int .i64 3, .int .i64 0, .int .u32 8, .int .i64 (-1), .int .i64 (-1), .int .u32 1] 39)) (.cells St.zero.cells 28); rw [hsz] at hbz; refine Yy (nuT ⟨x0, x1, x2, x3, x4, x5⟩ v) (w11.heap.size + 1) rfl _ _ rfl rfl rfl hbz rfl ?_; clear hbz; intro w12 hw; rw [← hsz] at hw; have h2 := one_st hw; rw [hsz] at h2; have h3 := hK.add h2.2 (Nat.le_of_eq hsz) h2.1; have K2 := Yh_ (show Kn w a pb Ybo [((w11.heap.size + 1), .cells (St.cells (nuT ⟨x0, x1, x2, x3, x4, x5⟩ v)) 28 (0, 0)), (w11.heap.size, .cells #[.int .i64 3, .int .i64 0, .int .u32 8, .int .i64 (-1), .int .i64 (-1), .int .u32 1] 39 (0, 0)), (w.heap.size, .cells #[.bool x0, .bool x1, .bool x2, .bool x3, .bool x4, .bool x5] 25 (0, 0))] w12 from h3); clear hw h2 h3 hsz hK K1 o0 c0_all_1))
 have o1 := Ya (K2.out.get 1 rfl)
 go_upto_region 10 with (first | (have _t := tk1; have _t2 := K2; clear _t _t2; refine Yaj 28 rfl ?_; clear tk1; refine Yq ((nuT ⟨x0, x1, x2, x3, x4, x5⟩ v)) ((w11.heap.size + 1)) rfl _ rfl rfl (K2.out.get 0 rfl) ?_) | (have _t := K2; clear _t; go_at_call 15; refine (nu_fst K2.out.m HV.out.1).mono ?_; rintro e w13 ⟨rfl, hm, hu⟩; unfold Flt.val Flt.zero; have K3 := Yh_ (show Kn w a pb (Ybo.wr8M 8 v) [((w11.heap.size + 1), .cells (St.cells (nuT ⟨x0, x1, x2, x3, x4, x5⟩ v)) 28 (0, 0)), (w11.heap.size, .cells #[.int .i64 3, .int .i64 0, .int .u32 8, .int .i64 (-1), .int .i64 (-1), .int .u32 1] 39 (0, 0)), (w.heap.size, .cells #[.bool x0, .bool x1, .bool x2, .bool x3, .bool x4, .bool x5] 25 (0, 0))] w13 from K2.out.step hm hu); clear hm hu K2 o1) | (have _t := K3; clear _t; refine Yd 28 rfl ?_; refine Yy (({ (nuT ⟨x0, x1, x2, x3, x4, x5⟩ v) with pc := 6 } : St)) w13.heap.size rfl _ _ rfl rfl rfl (heap_alloc2_old w13 (.cells St.zero.cells 28) (.cells #[.int .i64 0, .int .u32 0, .int .u32 0, .int .i64 0] 35)) rfl ?_; intro w14 hw; have h2 := Ydc hw; have h3 := K3.out.two (F := Flt.zero) h2; dsimp only [Flt.zero] at h3; have ct4 := Ya h2.2.1; have ft4 := Yg h2.2.1; have K4 := Yh_ h3; clear hw h2 h3 K3; have c2_f_4 : ((((w14.setCell ⟨w13.heap.size + 1, 0, none⟩ (.int .i64 0)).setCell ⟨w13.heap.size + 1, 1, none⟩ (.int .u32 0)).setCell ⟨w13.heap.size + 1, 2, none⟩ (.int .u32 0)).setCell ⟨w13.heap.size + 1, 3, none⟩ (.int .i64 0)).cell? ⟨w13.heap.size, 16, none⟩ = some (.int .u64 ((({ (nuT ⟨x0, x1, x2, x3, x4, x5⟩ v) with pc := 6 } : St) : St).f)) := Ya (K4.out.get 1 rfl) 16; have c3_free_4 := Yg (K4.out.get 1 rfl)))
 have hk := ((K4.out).putC 1 rfl (s' := ({ (nuT ⟨x0, x1, x2, x3, x4, x5⟩ v) with pc := 6, f := f } : St)) 16 (.int .u64 f) rfl)
 dsimp only [List.set] at hk
 have K5 := Yh_ (show Kn w a pb (Ybo.wr8M 8 v) [((w13.heap.size + 1), .cells (Yp Flt.zero) 35 (0, 0)), (w13.heap.size, .cells (St.cells ({ (nuT ⟨x0, x1, x2, x3, x4, x5⟩ v) with pc := 6, f := f } : St)) 28 (0, 0)), ((w11.heap.size + 1), .cells (St.cells (nuT ⟨x0, x1, x2, x3, x4, x5⟩ v)) 28 (0, 0)), (w11.heap.size, .cells #[.int .i64 3, .int .i64 0, .int .u32 8, .int .i64 (-1), .int .i64 (-1), .int .u32 1] 39 (0, 0)), (w.heap.size, .cells #[.bool x0, .bool x1, .bool x2, .bool x3, .bool x4, .bool x5] 25 (0, 0))] (((((w14.setCell ⟨w13.heap.size + 1, 0, none⟩ (.int .i64 0)).setCell ⟨w13.heap.size + 1, 1, none⟩ (.int .u32 0)).setCell ⟨w13.heap.size + 1, 2, none⟩ (.int .u32 0)).setCell ⟨w13.heap.size + 1, 3, none⟩ (.int .i64 0)).setCell ⟨w13.heap.size, 16, none⟩ (.int .u64 f)) from hk)
 clear hk K4 ct4 ft4 c2_f_4 c3_free_4
 have o2 := Ya (K5.out.get 3 rfl)
 go_upto_region 11 with (first | (have _t := tk2; have _t2 := K5; clear _t _t2; refine Yaj 28 rfl ?_; clear tk2; refine Yq (({ (nuT ⟨x0, x1, x2, x3, x4, x5⟩ v) with pc := 6, f := f } : St)) (w13.heap.size) rfl _ rfl rfl (K5.out.get 1 rfl) ?_) | (have _t := K5; clear _t; go_at_call 15; refine (nu_fld K5.out.m HN.out HV.out.1 HV.out.2).mono ?_; rintro e w15 ⟨rfl, hm, hu⟩; unfold Flt.val Flt.zero; have K6 := Yh_ (show Kn w a pb (Ybo.wr8M 8 v) [((w13.heap.size + 1), .cells (Yp Flt.zero) 35 (0, 0)), (w13.heap.size, .cells (St.cells ({ (nuT ⟨x0, x1, x2, x3, x4, x5⟩ v) with pc := 6, f := f } : St)) 28 (0, 0)), ((w11.heap.size + 1), .cells (St.cells (nuT ⟨x0, x1, x2, x3, x4, x5⟩ v)) 28 (0, 0)), (w11.heap.size, .cells #[.int .i64 3, .int .i64 0, .int .u32 8, .int .i64 (-1), .int .i64 (-1), .int .u32 1] 39 (0, 0)), (w.heap.size, .cells #[.bool x0, .bool x1, .bool x2, .bool x3, .bool x4, .bool x5] 25 (0, 0))] w15 from K5.out.step hm hu); clear hm hu K5 o2) | (have _t := K6; clear _t; refine Yd 28 rfl ?_; refine Yy ((nuB ⟨x0, x1, x2, x3, x4, x5⟩ v)) w15.heap.size rfl _ _ rfl rfl rfl (heap_alloc2_old w15 (.cells St.zero.cells 28) (.cells #[.int .i64 0, .int .u32 0, .int .u32 0, .int .i64 0] 35)) rfl ?_; intro w16 hw; have h2 := Ydc hw; have h3 := K6.out.two (F := Flt.zero) h2; dsimp only [Flt.zero] at h3; have ct7 := Ya h2.2.1; have ft7 := Yg h2.2.1; have K7 := Yh_ h3; clear hw h2 h3 K6))
 go_upto_region 12 with (first | (have _t := tk3; have _t2 := K7; clear _t _t2; refine Yaj 28 rfl ?_; clear tk3; refine Yq ((nuB ⟨x0, x1, x2, x3, x4, x5⟩ v)) (w15.heap.size) rfl _ rfl rfl (K7.out.get 1 rfl) ?_) | (have _t := K7; clear _t; go_at_call 15; refine (nu_chs K7.out.m HV.out.1).mono ?_; rintro e w17 ⟨rfl, hm, hu⟩; unfold Flt.val Flt.zero; have K8 := Yh_ (show Kn w a pb (Ybo.wr8M 8 v) [((w15.heap.size + 1), .cells (Yp Flt.zero) 35 (0, 0)), (w15.heap.size, .cells (St.cells (nuB ⟨x0, x1, x2, x3, x4, x5⟩ v)) 28 (0, 0)), ((w13.heap.size + 1), .cells (Yp Flt.zero) 35 (0, 0)), (w13.heap.size, .cells (St.cells ({ (nuT ⟨x0, x1, x2, x3, x4, x5⟩ v) with pc := 6, f := f } : St)) 28 (0, 0)), ((w11.heap.size + 1), .cells (St.cells (nuT ⟨x0, x1, x2, x3, x4, x5⟩ v)) 28 (0, 0)), (w11.heap.size, .cells #[.int .i64 3, .int .i64 0, .int .u32 8, .int .i64 (-1), .int .i64 (-1), .int .u32 1] 39 (0, 0)), (w.heap.size, .cells #[.bool x0, .bool x1, .bool x2, .bool x3, .bool x4, .bool x5] 25 (0, 0))] w17 from K7.out.step hm hu); clear hm hu K7 ct7 ft7) | (have _t := K8; clear _t; refine Yd 28 rfl ?_; refine Yy (({ nuB ⟨x0, x1, x2, x3, x4, x5⟩ v with pc := 14, f := Yea v } : St)) w17.heap.size rfl _ _ rfl rfl rfl (heap_alloc2_old w17 (.cells St.zero.cells 28) (.cells #[.int .i64 0, .int .u32 0, .int .u32 0, .int .i64 0] 35)) rfl ?_; intro w18 hw; have h2 := Ydc hw; have h3 := K8.out.two (F := Flt.zero) h2; dsimp only [Flt.zero] at h3; have ct9 := Ya h2.2.1; have ft9 := Yg h2.2.1; have K9 := Yh_ h3; clear hw h2 h3 K8))
 have o3 := Ya (K9.out.get 7 rfl)
 go_upto_region 15 with (first | (have _t := tk4; have _t2 := K9; clear _t _t2; refine Yaj 28 rfl ?_; clear tk4; refine Yq ((nuB ⟨x0, x1, x2, x3, x4, x5⟩ v)) (w15.heap.size) rfl _ rfl rfl (K9.out.get 3 rfl) ?_) | (have _t := K9; clear _t; go_at_call 15; refine (nu_sub K9.out.m HN.out HV.out.1 0 HR.out).mono ?_; rintro e w19 ⟨rfl, hm, hu⟩; unfold Flt.val Flt.zero; have K10 := Yh_ (show Kn w a pb (Ybo.wr8M 8 v) [((w17.heap.size + 1), .cells (Yp Flt.zero) 35 (0, 0)), (w17.heap.size, .cells (St.cells ({ nuB ⟨x0, x1, x2, x3, x4, x5⟩ v with pc := 14, f := Yea v } : St)) 28 (0, 0)), ((w15.heap.size + 1), .cells (Yp Flt.zero) 35 (0, 0)), (w15.heap.size, .cells (St.cells (nuB ⟨x0, x1, x2, x3, x4, x5⟩ v)) 28 (0, 0)), ((w13.heap.size + 1), .cells (Yp Flt.zero) 35 (0, 0)), (w13.heap.size, .cells (St.cells ({ (nuT ⟨x0, x1, x2, x3, x4, x5⟩ v) with pc := 6, f := f } : St)) 28 (0, 0)), ((w11.heap.size + 1), .cells (St.cells (nuT ⟨x0, x1, x2, x3, x4, x5⟩ v)) 28 (0, 0)), (w11.heap.size, .cells #[.int .i64 3, .int .i64 0, .int .u32 8, .int .i64 (-1), .int .i64 (-1), .int .u32 1] 39 (0, 0)), (w.heap.size, .cells #[.bool x0, .bool x1, .bool x2, .bool x3, .bool x4, .bool x5] 25 (0, 0))] w19 from K9.out.step hm hu); clear hm hu K9 ct9 ft9 o3) | (have _t := K10; clear _t; refine Yd 28 rfl ?_; refine Yy (({ nuB ⟨x0, x1, x2, x3, x4, x5⟩ v with pc := 18, f := 0 } : St)) w19.heap.size rfl _ _ rfl rfl rfl (heap_alloc2_old w19 (.cells St.zero.cells 28) (.cells #[.int .i64 0, .int .u32 0, .int .u32 0, .int .i64 0] 35)) rfl ?_; intro w20 hw; have h2 := Ydc hw; have h3 := K10.out.two (F := Flt.zero) h2; dsimp only [Flt.zero] at h3; have ct11 := Ya h2.2.1; have ft11 := Yg h2.2.1; have K11 := Yh_ h3; clear hw h2 h3 K10))
 have d1 : ((((w20.setCell ⟨w19.heap.size + 1, 0, none⟩ (.int .i64 0)).setCell ⟨w19.heap.size + 1, 1, none⟩ (.int .u32 0)).setCell ⟨w19.heap.size + 1, 2, none⟩ (.int .u32 0)).setCell ⟨w19.heap.size + 1, 3, none⟩ (.int .i64 0)).cell? ⟨w13.heap.size, 8, none⟩ = some (.int .u32 6) := Ya (K11.out.get 7 rfl) 8
 have d2 : ((((w20.setCell ⟨w19.heap.size + 1, 0, none⟩ (.int .i64 0)).setCell ⟨w19.heap.size + 1, 1, none⟩ (.int .u32 0)).setCell ⟨w19.heap.size + 1, 2, none⟩ (.int .u32 0)).setCell ⟨w19.heap.size + 1, 3, none⟩ (.int .i64 0)).cell? ⟨w15.heap.size, 16, none⟩ = some (.int .u64 v) := Ya (K11.out.get 5 rfl) 16
 have d3 : ((((w20.setCell ⟨w19.heap.size + 1, 0, none⟩ (.int .i64 0)).setCell ⟨w19.heap.size + 1, 1, none⟩ (.int .u32 0)).setCell ⟨w19.heap.size + 1, 2, none⟩ (.int .u32 0)).setCell ⟨w19.heap.size + 1, 3, none⟩ (.int .i64 0)).cell? ⟨w17.heap.size, 16, none⟩ = some (.int .u64 (bits .xor .u64 v 9223372036854775808)) := Ya (K11.out.get 3 rfl) 16
 have d4 : ((((w20.setCell ⟨w19.heap.size + 1, 0, none⟩ (.int .i64 0)).setCell ⟨w19.heap.size + 1, 1, none⟩ (.int .u32 0)).setCell ⟨w19.heap.size + 1, 2, none⟩ (.int .u32 0)).setCell ⟨w19.heap.size + 1, 3, none⟩ (.int .i64 0)).cell? ⟨w19.heap.size, 16, none⟩ = some (.int .u64 0) := Ya (K11.out.get 1 rfl) 16
 have d10 : ((((w20.setCell ⟨w19.heap.size + 1, 0, none⟩ (.int .i64 0)).setCell ⟨w19.heap.size + 1, 1, none⟩ (.int .u32 0)).setCell ⟨w19.heap.size + 1, 2, none⟩ (.int .u32 0)).setCell ⟨w19.heap.size + 1, 3, none⟩ (.int .i64 0)).cell? ⟨w19.heap.size, 9, none⟩ = some (.bool x0) := Ya (K11.out.get 1 rfl) 9
 have d11 : ((((w20.setCell ⟨w19.heap.size + 1, 0, none⟩ (.int .i64 0)).setCell ⟨w19.heap.size + 1, 1, none⟩ (.int .u32 0)).setCell ⟨w19.heap.size + 1, 2, none⟩ (.int .u32 0)).setCell ⟨w19.heap.size + 1, 3, none⟩ (.int .i64 0)).cell? ⟨w19.heap.size, 10, none⟩ = some (.bool x1) := Ya (K11.out.get 1 rfl) 10
 have d12 : ((((w20.setCell ⟨w19.heap.size + 1, 0, none⟩ (.int .i64 0)).setCell ⟨w19.heap.size + 1, 1, none⟩ (.int .u32 0)).setCell ⟨w19.heap.size + 1, 2, none⟩ (.int .u32 0)).setCell ⟨w19.heap.size + 1, 3, none⟩ (.int .i64 0)).cell? ⟨w19.heap.size, 11, none⟩ = some (.bool x2) := Ya (K11.out.get 1 rfl) 11
 have d13 : ((((w20.setCell ⟨w19.heap.size + 1, 0, none⟩ (.int .i64 0)).setCell ⟨w19.heap.size + 1, 1, none⟩ (.int .u32 0)).setCell ⟨w19.heap.size + 1, 2, none⟩ (.int .u32 0)).setCell ⟨w19.heap.size + 1, 3, none⟩ (.int .i64 0)).cell? ⟨w19.heap.size, 12, none⟩ = some (.bool x3) := Ya (K11.out.get 1 rfl) 12
 have d14 : ((((w20.setCell ⟨w19.heap.size + 1, 0, none⟩ (.int .i64 0)).setCell ⟨w19.heap.size + 1, 1, none⟩ (.int .u32 0)).setCell ⟨w19.heap.size + 1, 2, none⟩ (.int .u32 0)).setCell ⟨w19.heap.size + 1, 3, none⟩ (.int .i64 0)).cell? ⟨w19.heap.size, 13, none⟩ = some (.bool x4) := Ya (K11.out.get 1 rfl) 13
 have d15 : ((((w20.setCell ⟨w19.heap.size + 1, 0, none⟩ (.int .i64 0)).setCell ⟨w19.heap.size + 1, 1, none⟩ (.int .u32 0)).setCell ⟨w19.heap.size + 1, 2, none⟩ (.int .u32 0)).setCell ⟨w19.heap.size + 1, 3, none⟩ (.int .i64 0)).cell? ⟨w19.heap.size, 14, none⟩ = some (.bool x5) := Ya (K11.out.get 1 rfl) 14
 have d20 : ((((w20.setCell ⟨w19.heap.size + 1, 0, none⟩ (.int .i64 0)).setCell ⟨w19.heap.size + 1, 1, none⟩ (.int .u32 0)).setCell ⟨w19.heap.size + 1, 2, none⟩ (.int .u32 0)).setCell ⟨w19.heap.size + 1, 3, none⟩ (.int .i64 0)).cell? ⟨w.heap.size, 0, none⟩ = some (.bool x0) := Ya (K11.out.get 10 rfl) 0
 have d21 : ((((w20.setCell ⟨w19.heap.size + 1, 0, none⟩ (.int .i64 0)).setCell ⟨w19.heap.size + 1, 1, none⟩ (.int .u32 0)).setCell ⟨w19.heap.size + 1, 2, none⟩ (.int .u32 0)).setCell ⟨w19.heap.size + 1, 3, none⟩ (.int .i64 0)).cell? ⟨w.heap.size, 1, none⟩ = some (.bool x1) := Ya (K11.out.get 10 rfl) 1
 have d22 : ((((w20.setCell ⟨w19.heap.size + 1, 0, none⟩ (.int .i64 0)).setCell ⟨w19.heap.size + 1, 1, none⟩ (.int .u32 0)).setCell ⟨w19.heap.size + 1, 2, none⟩ (.int .u32 0)).setCell ⟨w19.heap.size + 1, 3, none⟩ (.int .i64 0)).cell? ⟨w.heap.size, 2, none⟩ = some (.bool x2) := Ya (K11.out.get 10 rfl) 2
 have d23 : ((((w20.setCell ⟨w19.heap.size + 1, 0, none⟩ (.int .i64 0)).setCell ⟨w19.heap.size + 1, 1, none⟩ (.int .u32 0)).setCell ⟨w19.heap.size + 1, 2, none⟩ (.int .u32 0)).setCell ⟨w19.heap.size + 1, 3, none⟩ (.int .i64 0)).cell? ⟨w.heap.size, 3, none⟩ = some (.bool x3) := Ya (K11.out.get 10 rfl) 3
 have d24 : ((((w20.setCell ⟨w19.heap.size + 1, 0, none⟩ (.int .i64 0)).setCell ⟨w19.heap.size + 1, 1, none⟩ (.int .u32 0)).setCell ⟨w19.heap.size + 1, 2, none⟩ (.int .u32 0)).setCell ⟨w19.heap.size + 1, 3, none⟩ (.int .i64 0)).cell? ⟨w.heap.size, 4, none⟩ = some (.bool x4) := Ya (K11.out.get 10 rfl) 4
 have d25 : ((((w20.setCell ⟨w19.heap.size + 1, 0, none⟩ (.int .i64 0)).setCell ⟨w19.heap.size + 1, 1, none⟩ (.int .u32 0)).setCell ⟨w19.heap.size + 1, 2, none⟩ (.int .u32 0)).setCell ⟨w19.heap.size + 1, 3, none⟩ (.int .i64 0)).cell? ⟨w.heap.size, 5, none⟩ = some (.bool x5) := Ya (K11.out.get 10 rfl) 5
 go_wp2_with fail
 go_ret
 exact ⟨rfl, K11.out.u⟩
theorem Yhp (f v : Int) (F : Fl) (w : World) (hf : 0 ≤ f ∧ f < 18446744073709551616) (hv : 0 ≤ v ∧ v < 18446744073709551616) :
  Calls Tryz.prog 5 #[.int .u64 f, .int .u64 v, .agg F.cells] w fun e w' => e = .returned (.bool true) ∧ Upd [] w w' := by
 obtain ⟨x0, x1, x2, x3, x4, x5⟩ := F
 have hs := Ype v.toNat
 have hw := u64w (v * 2)
 by_cases h1 : 18437736874454810624 < IntKind.u64.wrap (v * 2)
 ·exact Yg3.1 f v x0 x1 x2 x3 x4 x5 w _ hf hv rfl (by simpa using h1) (by simp; omega) (by rw [hs, if_pos (by omega)])
 ·by_cases h2 : IntKind.u64.wrap (v * 2) = 18437736874454810624
  ·exact Yg3.2 f v x0 x1 x2 x3 x4 x5 w _ hf hv rfl (by simp; omega) (by simpa using h2) (by rw [hs, if_pos (by omega)])
  ·exact nu_under f v x0 x1 x2 x3 x4 x5 w _ hf hv rfl (by simp; omega) (by simpa using h2) (by rw [hs, if_neg (by omega)])
section
open Go.WideShapes Go.ChangeShapes
theorem Yoc {H : Type} {enc : TypeId × Value → H} {w : World} {base : Nat} {spare : Nat → Bool} {held : Bool} {r : Reach} {b0 : Nat} {v : Value} {d : DataW H} {p : List MemPlace}
  (hv : Value.okWide Tryz.prog w r b0 25 v) (h : DataW.Trod enc Tryz.prog w base spare held 25 v d p) : ∃ F : Fl, v = .agg F.cells := by
 obtain ⟨cs, rfl, hs, hc⟩ := Ylr (t := 25) (by kernel_rfl) hv h
 have hs : cs.size = 6 := hs.trans (by kernel_rfl)
 obtain ⟨_, e0, z0, rfl⟩ := hc 8 0 .bool (by kernel_rfl)
 obtain ⟨_, e1, z1, rfl⟩ := hc 8 1 .bool (by kernel_rfl)
 obtain ⟨_, e2, z2, rfl⟩ := hc 8 2 .bool (by kernel_rfl)
 obtain ⟨_, e3, z3, rfl⟩ := hc 8 3 .bool (by kernel_rfl)
 obtain ⟨_, e4, z4, rfl⟩ := hc 8 4 .bool (by kernel_rfl)
 obtain ⟨_, e5, z5, rfl⟩ := hc 8 5 .bool (by kernel_rfl)
 refine ⟨⟨z0, z1, z2, z3, z4, z5⟩, ?_⟩
 congr 1
 apply Array.ext_getElem?
 intro j
 by_cases hj : j < 6
 ·match j, hj with
  |0, _ => exact e0
  |1, _ => exact e1
  |2, _ => exact e2
  |3, _ => exact e3
  |4, _ => exact e4
  |5, _ => exact e5
 ·rw [Array.getElem?_eq_none (by omega), Array.getElem?_eq_none (by simp [Fl.cells]; omega)]
end
end Go.Proofs.YthakgjpejhjaoaaGreat
