/-
  Parts of the proof (their names shortened by a program). No condition.
-/
import Derived.Test.YthakgjpejhjaoaaGreatMg01
import Derived.Test.YthakgjpejhjaoaaGreatMg06
import Derived.Deep.Cut
namespace Go.Proofs.YthakgjpejhjaoaaGreat
open Go Go.RowKit
set_option linter.unusedVariables false
set_option linter.unusedSimpArgs false
set_option maxRecDepth 100000
set_option maxHeartbeats 16000000
section
theorem Yb0 (x a n : Int) (w : World) (h0 : 0 ≤ x) (h1 : x < 4294967296) (ha : 0 ≤ a ∧ a < 32) (hn : 0 ≤ n ∧ n ≤ 32) :
  Calls Tryz.prog 104 #[.int .u32 x, .int .i64 a, .int .i64 n] w fun e w' => e = .returned (.int .u32 (x / 2 ^ a.toNat % 2 ^ n.toNat)) ∧ w = w' := by
 obtain ⟨a, rfl⟩ := Int.eq_ofNat_of_zero_le ha.1
 obtain ⟨n, rfl⟩ := Int.eq_ofNat_of_zero_le hn.1
 exact Yef x a n w h0 h1 (by omega) (by omega)
structure Mrm.Ok (m : Mrm) : Prop where
 mod : 0 ≤ m.mod ∧ m.mod ≤ 3
 reg : 0 ≤ m.reg ∧ m.reg < 8
 rm : 0 ≤ m.rm ∧ m.rm < 8
theorem mrmOf_ok {c : Int} (h0 : 0 ≤ c) (h1 : c ≤ 255) : (Ye1 c).Ok := ⟨by simp only [Ye1]; omega, by simp only [Ye1]; omega, by simp only [Ye1]; omega⟩
theorem Yaj {L : List Int} {k k1 : Nat} {m : Mrm} (hL : BOk L) (h : Yab L k = .ok m k1) : m.Ok := by
 unfold Yab at h
 cases hb : Yw L k with
 |err c => rw [hb] at h; cases h
 |ok c k2 =>
  rw [hb, DR.bind_ok] at h
  injection h with h1 h2
  subst h1
  obtain ⟨c0, c1, _⟩ := Yz hL hb
  exact mrmOf_ok c0 c1
structure PlS (w : World) (d : Nat) (v : Value) (L : List Int) (g k : Nat) (m : Mrm) (o : Opd) (w2 : World) : Prop where
 dd : Yc w2 d v L g k
 uu : Upd [d] w w2
 mm : w2.heap[w.heap.size]? = some (.cells m.cells 171 (0, 0))
 rr : w2.heap[w.heap.size + 1]? = some (.cells Opd.none.cells 39 (0, 0))
 oo : w2.heap[w.heap.size + 1 + 1]? = some (.cells o.cells 39 (0, 0))
 nn : d < w.heap.size
theorem PlS.start {w : World} {d : Nat} {v : Value} {L : List Int} {g k : Nat} (h : Yc w d v L g k) (m : Mrm) (o : Opd) :
  PlS w d v L g k m o (((w.alloc (.cells m.cells 171)).alloc (.cells Opd.none.cells 39)).alloc (.cells o.cells 39)) := by
 have u : Upd [] w (((w.alloc (.cells m.cells 171)).alloc (.cells Opd.none.cells 39)).alloc (.cells o.cells 39)) := (((Upd.refl [] w).alloc _).alloc _).alloc _
 refine ⟨h.step u, u.mono (by simp), Ym _ (Ym _ (heap_alloc_new _ _)), Ym _ (heap_alloc2_new _ _ _), ?_, Yj h.h⟩
 have := heap_alloc2_new (w.alloc (.cells m.cells 171)) (.cells Opd.none.cells 39) (.cells o.cells 39)
 simpa using this
section
variable {w w2 w3 : World} {d : Nat} {v : Value} {L : List Int} {g k k' : Nat} {m : Mrm} {o o' : Opd}
theorem PlS.step (h : PlS w d v L g k m o w2) (hd : Yc w3 d v L g k') (u : Upd [d] w2 w3) : PlS w d v L g k' m o w3 := by
 have hn := h.nn
 exact ⟨hd, h.uu.also u (by simp), u.get h.mm (by simp; omega), u.get h.rr (by simp; omega), u.get h.oo (by simp; omega), hn⟩
theorem PlS.set (h : PlS w d v L g k m o w2) (hD0 : Yc w d v L g k') (j : Nat) (x : Value) (ho : o.cells.setIfInBounds j x = o'.cells) : PlS w d v L g k m o' (w2.setCell ⟨w.heap.size + 1 + 1, j, none⟩ x) := by
 have hn := h.nn
 have u : Upd [w.heap.size + 1 + 1] w2 (w2.setCell ⟨w.heap.size + 1 + 1, j, none⟩ x) := (Upd.refl _ w2).setCell (by simp) _
 obtain ⟨h1, h2⟩ := Yd0 hD0 h.dd h.uu u (by simp; omega)
 have ho' := Yh h.oo j x
 rw [ho] at ho'
 exact ⟨h1, h2, u.get h.mm (by simp; omega), u.get h.rr (by simp), ho', hn⟩
theorem PlS.fin (h : PlS w d v L g k m o w2) (hD0 : Yc w d v L g k') (u : Upd [w.heap.size + 1] w2 w3) : Yc w3 d v L g k ∧ Upd [d] w w3 :=
 Yd0 hD0 h.dd h.uu u (by simp)
end
theorem Yo1 (d g k : Nat) (v : Value) (L : List Int) (m : Mrm) (w : World) (hD : Yc w d v L g k) (hok : m.Ok) (h3 : m.mod = 3) :
  Calls Tryz.prog 134 #[.pointer (some ⟨d, 0, none⟩), .agg m.cells] w (Yl d v L g w (.ok (Yam m.rm) k) Opd.val) := by
 have e3 : (m.mod == 3) = true := by simpa using h3
 have HD := Yh_ hD
 have HLt := Yh_ (Yj hD.h)
 have HZ := Yh_ (show ((w.alloc (.cells m.cells 171)).alloc (.cells Opd.none.cells 39)).heap[w.heap.size + 1]? = some (.cells Opd.none.cells 39 (0, 0)) from heap_alloc2_new _ _ _)
 clear hD hok h3
 have cm := Ya (Ym (.cells Opd.none.cells 39) (heap_alloc_new w (.cells m.cells 171)))
 unfold Mrm.cells at cm
 unfold Mrm.cells
 go_enter Tryz.func134, Tryz.ntmps134
 go_wp2_with (first | (go_at_call 89; refine (Ybv m.rm _).mono ?_; rintro e w2 ⟨rfl, hu⟩; have H2 := Yh_ (And.intro hu (hu.get HZ.out (by simp))); clear hu) | (refine Ye 39 rfl ?_; refine Yy (Yam m.rm) (w.heap.size + 1) 0 rfl _ _ rfl rfl rfl H2.out.2 (by decide) ?_; intro w3 hw3; have H3 := Yh_ (And.intro H2.out.1 (Yca hw3 H2.out.2 rfl)); clear hw3 H2))
 have u : Upd [] w w2 := (((Upd.refl [] w).alloc _).alloc _).also H3.out.1 (by simp)
 obtain ⟨h1, h2⟩ := Yd0 HD.out (HD.out.step u) (u.mono (by simp)) H3.out.2.2 (by simp)
 exact bodyPost_ret (Yf rfl (Yb8 4 (w.heap.size + 1) _ rfl H3.out.2.1)) rfl ⟨rfl, h1, h2⟩
theorem place_rm (d g k : Nat) (v : Value) (L : List Int) (m : Mrm) (w : World) (hD : Yc w d v L g k) (hok : m.Ok) (h3 : m.mod ≠ 3) (h4 : m.rm ≠ 4) :
  Calls Tryz.prog 134 #[.pointer (some ⟨d, 0, none⟩), .agg m.cells] w (Yl d v L g w (Yaa L m.mod m.rm (-1) 1 k) Opd.val) := by
 have e3 : (m.mod == 3) = false := by simpa using h3
 have e4 : (m.rm == 4) = false := by simpa using h4
 have HD := Yh_ hD
 have S := Yh_ (PlS.start hD m ⟨3, 0, 0, m.rm, -1, 1⟩)
 clear hD hok h3 h4
 unfold Mrm.cells
 go_enter Tryz.func134, Tryz.ntmps134
 go_upto_region 12 with fail
 by_cases hm1 : m.mod = 1
 ·have e1 : (m.mod == 1) = true := by simpa using hm1
  have hb := Yx d g k v L _ S.out.dd
  cases h : Yw L k with
  |err c =>
   have HT := Yh_ (show Yaa L m.mod m.rm (-1) 1 k = .err c by rw [Yaa, if_pos hm1, h]; rfl)
   rw [h] at hb
   have HB := Yh_ hb
   clear hb h hm1
   have cm := Ya S.out.mm; unfold Mrm.cells at cm; have co := Ya S.out.oo; unfold Opd.cells at co; have fo := Yn S.out.oo
   go_wp2_with (go_at_call 86; refine HB.out.mono ?_; rintro e w8 ⟨rfl, hu⟩)
   refine ⟨rfl, ?_⟩
   show Yl d v L g w (Yaa L m.mod m.rm (-1) 1 k) Opd.val _ _; rw [HT.out]
   exact ⟨rfl, S.out.uu.also hu (by simp)⟩
  |ok c k1 =>
   obtain ⟨c0, c1, hk0⟩ := Yz S.out.dd.r h
   clear hk0
   have HT := Yh_ (show Yaa L m.mod m.rm (-1) 1 k = .ok ⟨3, 0, sx8 c, m.rm, (-1), 1⟩ k1 by rw [Yaa, if_pos hm1, h]; rfl)
   rw [h] at hb
   have HB := Yh_ hb
   have HR := Yh_ (And.intro c0 c1)
   have q1 : c % 4294967296 = c := by omega
   have q2 := Yix c0 c1
   clear hb h c0 c1 hm1
   have cm := Ya S.out.mm; unfold Mrm.cells at cm; have co := Ya S.out.oo; unfold Opd.cells at co; have fo := Yn S.out.oo
   go_upto_region 19 with (first | (go_at_call 86; refine HB.out.mono ?_; rintro e w8 ⟨rfl, hD8, hu⟩; have S8 := Yh_ (S.out.step hD8 hu); clear hD8 hu co fo; have co := Ya S8.out.oo; unfold Opd.cells at co; have fo := Yn S8.out.oo) | (go_at_call 117; refine (Ye7 c _ HR.out.1 (by have := HR.out; omega)).mono ?_; rintro e w9 ⟨rfl, rfl⟩; rw [q2]))
   have S9 := Yh_ (S8.out.set (o' := ⟨3, 0, sx8 c, m.rm, (-1), 1⟩) HD.out 2 (.int .u32 (sx8 c)) rfl)
   clear S8 co fo
   have co := Ya S9.out.oo
   unfold Opd.cells at co
   go_wp2_with (refine Ye 39 rfl ?_; refine Yy ⟨3, 0, sx8 c, m.rm, (-1), 1⟩ (w.heap.size + 1) 0 rfl _ _ rfl rfl rfl S9.out.rr (by decide) ?_; intro w9 hw9; have H9 := Yh_ (And.intro S9 (Yca hw9 S9.out.rr rfl)); clear hw9)
   obtain ⟨q1, q2⟩ := H9.out.1.out.fin HD.out H9.out.2.2
   exact bodyPost_ret (Yf rfl (Yb8 4 (w.heap.size + 1) _ rfl H9.out.2.1)) rfl (by show Yl d v L g w (Yaa L m.mod m.rm (-1) 1 k) Opd.val _ _; rw [HT.out]; exact ⟨rfl, q1, q2⟩)
 ·have e1 : (m.mod == 1) = false := by simpa using hm1
  by_cases hm2 : m.mod = 2
  ·have e2 : (m.mod == 2) = true := by simpa using hm2
   have cm := Ya S.out.mm; unfold Mrm.cells at cm; have co := Ya S.out.oo; unfold Opd.cells at co; have fo := Yn S.out.oo
   by_cases h : k + 4 ≤ L.length
   ·have HB := Yh_ (Ydt d g k v L _ S.out.dd h)
    have HT := Yh_ (show Yaa L m.mod m.rm (-1) 1 k = .ok ⟨3, 0, Ybr L k, m.rm, (-1), 1⟩ (k + 4) by rw [Yaa, if_neg hm1, if_pos hm2, Ycn, if_pos h]; rfl)
    clear h hm1 hm2
    go_upto_region 19 with (first | (go_at_call 119; refine HB.out.mono ?_; rintro e w7 ⟨o7, c7, rfl, hw⟩; have HW := Yh_ (hw _ rfl); clear hw) | (go_at_call 124; refine HW.out.mono ?_; rintro e w8 ⟨rfl, hD8, hu⟩; have S8 := Yh_ (S.out.step hD8 hu); clear hD8 hu co fo; have co := Ya S8.out.oo; unfold Opd.cells at co; have fo := Yn S8.out.oo))
    have S9 := Yh_ (S8.out.set (o' := ⟨3, 0, Ybr L k, m.rm, (-1), 1⟩) HD.out 2 (.int .u32 (Ybr L k)) rfl)
    clear S8 co fo
    have co := Ya S9.out.oo
    unfold Opd.cells at co
    go_wp2_with (refine Ye 39 rfl ?_; refine Yy ⟨3, 0, Ybr L k, m.rm, (-1), 1⟩ (w.heap.size + 1) 0 rfl _ _ rfl rfl rfl S9.out.rr (by decide) ?_; intro w9 hw9; have H9 := Yh_ (And.intro S9 (Yca hw9 S9.out.rr rfl)); clear hw9)
    obtain ⟨q1, q2⟩ := H9.out.1.out.fin HD.out H9.out.2.2
    exact bodyPost_ret (Yf rfl (Yb8 4 (w.heap.size + 1) _ rfl H9.out.2.1)) rfl (by show Yl d v L g w (Yaa L m.mod m.rm (-1) 1 k) Opd.val _ _; rw [HT.out]; exact ⟨rfl, q1, q2⟩)
   ·have HB := Yh_ (Yea d g k 4 v L _ S.out.dd (by decide) (by omega))
    have HT := Yh_ (show Yaa L m.mod m.rm (-1) 1 k = .err 10 by rw [Yaa, if_neg hm1, if_pos hm2, Ycn, if_neg h]; rfl)
    clear h hm1 hm2
    go_wp2_with (go_at_call 119; refine HB.out.mono ?_; rintro e w8 ⟨rfl, hu⟩)
    refine ⟨rfl, ?_⟩
    show Yl d v L g w (Yaa L m.mod m.rm (-1) 1 k) Opd.val _ _; rw [HT.out]
    exact ⟨rfl, S.out.uu.also hu (by simp)⟩
  ·have e2 : (m.mod == 2) = false := by simpa using hm2
   by_cases hm5 : m.rm = 5
   ·have e5 : (m.rm == 5) = true := by simpa using hm5
    have HM := Yh_ (And.intro hm1 (And.intro hm2 hm5))
    clear hm1 hm2 hm5
    have cm := Ya S.out.mm; unfold Mrm.cells at cm; have co := Ya S.out.oo; unfold Opd.cells at co; have fo := Yn S.out.oo
    go_upto_region 18 with fail
    have S6 := Yh_ (PlS.start HD.out m ⟨3, 0, 0, -1, (-1), 1⟩)
    clear co fo
    have co := Ya S6.out.oo
    unfold Opd.cells at co
    have fo := Yn S6.out.oo
    by_cases h : k + 4 ≤ L.length
    ·have HB := Yh_ (Ydt d g k v L _ S6.out.dd h)
     have HT := Yh_ (show Yaa L m.mod m.rm (-1) 1 k = .ok ⟨3, 0, Ybr L k, -1, (-1), 1⟩ (k + 4) by rw [Yaa, if_neg HM.out.1, if_neg HM.out.2.1, if_pos HM.out.2.2, Ycn, if_pos h]; rfl)
     clear h 
     go_upto_region 19 with (first | (go_at_call 119; refine HB.out.mono ?_; rintro e w7 ⟨o7, c7, rfl, hw⟩; have HW := Yh_ (hw _ rfl); clear hw) | (go_at_call 124; refine HW.out.mono ?_; rintro e w8 ⟨rfl, hD8, hu⟩; have S8 := Yh_ (S6.out.step hD8 hu); clear hD8 hu co fo; have co := Ya S8.out.oo; unfold Opd.cells at co; have fo := Yn S8.out.oo))
     have S9 := Yh_ (S8.out.set (o' := ⟨3, 0, Ybr L k, -1, (-1), 1⟩) HD.out 2 (.int .u32 (Ybr L k)) rfl)
     clear S8 co fo
     have co := Ya S9.out.oo
     unfold Opd.cells at co
     go_wp2_with (refine Ye 39 rfl ?_; refine Yy ⟨3, 0, Ybr L k, -1, (-1), 1⟩ (w.heap.size + 1) 0 rfl _ _ rfl rfl rfl S9.out.rr (by decide) ?_; intro w9 hw9; have H9 := Yh_ (And.intro S9 (Yca hw9 S9.out.rr rfl)); clear hw9)
     obtain ⟨q1, q2⟩ := H9.out.1.out.fin HD.out H9.out.2.2
     exact bodyPost_ret (Yf rfl (Yb8 4 (w.heap.size + 1) _ rfl H9.out.2.1)) rfl (by show Yl d v L g w (Yaa L m.mod m.rm (-1) 1 k) Opd.val _ _; rw [HT.out]; exact ⟨rfl, q1, q2⟩)
    ·have HB := Yh_ (Yea d g k 4 v L _ S6.out.dd (by decide) (by omega))
     have HT := Yh_ (show Yaa L m.mod m.rm (-1) 1 k = .err 10 by rw [Yaa, if_neg HM.out.1, if_neg HM.out.2.1, if_pos HM.out.2.2, Ycn, if_neg h]; rfl)
     clear h 
     go_wp2_with (go_at_call 119; refine HB.out.mono ?_; rintro e w8 ⟨rfl, hu⟩)
     refine ⟨rfl, ?_⟩
     show Yl d v L g w (Yaa L m.mod m.rm (-1) 1 k) Opd.val _ _; rw [HT.out]
     exact ⟨rfl, S6.out.uu.also hu (by simp)⟩
   ·have e5 : (m.rm == 5) = false := by simpa using hm5
    have HT := Yh_ (show Yaa L m.mod m.rm (-1) 1 k = .ok ⟨3, 0, 0, m.rm, (-1), 1⟩ k by rw [Yaa, if_neg hm1, if_neg hm2, if_neg hm5])
    clear hm1 hm2 hm5
    have cm := Ya S.out.mm; unfold Mrm.cells at cm; have co := Ya S.out.oo; unfold Opd.cells at co; have fo := Yn S.out.oo
    go_wp2_with (refine Ye 39 rfl ?_; refine Yy ⟨3, 0, 0, m.rm, (-1), 1⟩ (w.heap.size + 1) 0 rfl _ _ rfl rfl rfl S.out.rr (by decide) ?_; intro w9 hw9; have H9 := Yh_ (And.intro S (Yca hw9 S.out.rr rfl)); clear hw9)
    obtain ⟨q1, q2⟩ := H9.out.1.out.fin HD.out H9.out.2.2
    exact bodyPost_ret (Yf rfl (Yb8 4 (w.heap.size + 1) _ rfl H9.out.2.1)) rfl (by show Yl d v L g w (Yaa L m.mod m.rm (-1) 1 k) Opd.val _ _; rw [HT.out]; exact ⟨rfl, q1, q2⟩)
theorem Yo6 (d g k : Nat) (v : Value) (L : List Int) (m : Mrm) (w : World) (hD : Yc w d v L g k) (hok : m.Ok) (h3 : m.mod ≠ 3) (h4 : m.rm = 4) (c : Int) (k0 : Nat) (hb : Yw L k = .ok c k0) (hx : c / 8 % 8 ≠ 4) :
  Calls Tryz.prog 134 #[.pointer (some ⟨d, 0, none⟩), .agg m.cells] w (Yl d v L g w (Yaa L m.mod (c % 8) (c / 8 % 8) (2 ^ (c / 64).toNat) k0) Opd.val) := by
 have e3 : (m.mod == 3) = false := by simpa using h3
 have e4 : (m.rm == 4) = true := by simpa using h4
 have HD := Yh_ hD
 have S0 := Yh_ (PlS.start hD m ⟨3, 0, 0, m.rm, -1, 1⟩)
 obtain ⟨c0, c1, hk0⟩ := Yz hD.r hb
 clear hk0
 have h := Yx d g k v L _ S0.out.dd
 rw [hb] at h
 have HB := Yh_ h
 obtain ⟨z, hz, hz3⟩ : ∃ z : Nat, c / 64 = z ∧ z < 4 := ⟨(c / 64).toNat, by omega, by omega⟩
 have hsc : (2 : Int) ^ min z 32 % 4294967296 = 2 ^ (c / 64).toNat := by
  rw [hz, Int.toNat_natCast]
  rcases (show z = 0 ∨ z = 1 ∨ z = 2 ∨ z = 3 by omega) with rfl | rfl | rfl | rfl <;> rfl
 obtain ⟨sc, hsc0⟩ : ∃ sc : Int, (2 : Int) ^ (c / 64).toNat = sc := ⟨_, rfl⟩
 rw [hsc0] at hsc
 obtain ⟨bs, hbs⟩ : ∃ bs : Int, c % 8 = bs := ⟨_, rfl⟩
 obtain ⟨ix, hix⟩ : ∃ ix : Int, c / 8 % 8 = ix := ⟨_, rfl⟩
 have HF := Yh_ (show c / 2 ^ (0 : Int).toNat % 2 ^ (3 : Int).toNat = bs ∧ c / 2 ^ (3 : Int).toNat % 2 ^ (3 : Int).toNat = ix ∧ c / 2 ^ (6 : Int).toNat % 2 ^ (2 : Int).toNat = z by
  refine ⟨?_, ?_, ?_⟩
  ·show c / 1 % 8 = bs; omega
  ·show c / 8 % 8 = ix; omega
  ·show c / 64 % 4 = (z : Int); omega)
 have qb : wrap64 bs = bs := by unfold wrap64; omega
 have qi : wrap64 ix = ix := by unfold wrap64; omega
 have qc : c % 4294967296 = c := by omega
 have HC := Yh_ (And.intro c0 c1)
 have e6 : (ix == 4) = false := by rw [← hix]; simpa using hx
 rw [hbs, hix, hsc0]
 clear hD hok h3 h4 h hb c0 c1 hx hz hz3 hsc0 hbs hix
 have e6' : (ix != 4) = true := by rw [bne, e6]; rfl
 unfold Mrm.cells
 go_enter Tryz.func134, Tryz.ntmps134
 go_upto_region 12 with (first | (go_at_call 86; refine HB.out.mono ?_; rintro e w5 ⟨rfl, hD5, hu⟩; have S5 := Yh_ (S0.out.step hD5 hu); clear hD5 hu S0; have co := Ya S5.out.oo; unfold Opd.cells at co; have fo := Yn S5.out.oo) | (go_at_call 104; refine (Yb0 c _ _ _ HC.out.1 (by have := HC.out; omega) (by decide) (by decide)).mono ?_; rintro e w6 ⟨rfl, rfl⟩; first | rw [HF.out.1] | rw [HF.out.2.1] | rw [HF.out.2.2]))
 have S := Yh_ (((S5.out.set (o' := ⟨3, 0, 0, bs, -1, 1⟩) HD.out 3 (.int .i64 bs) rfl).set (o' := ⟨3, 0, 0, bs, ix, 1⟩) HD.out 4 (.int .i64 ix) rfl).set (o' := ⟨3, 0, 0, bs, ix, sc⟩) HD.out 5 (.int .u32 sc) rfl)
 clear S5 co fo
 by_cases hm1 : m.mod = 1
 ·have e1 : (m.mod == 1) = true := by simpa using hm1
  have hb := Yx d g k0 v L _ S.out.dd
  cases h : Yw L k0 with
  |err c =>
   have HT := Yh_ (show Yaa L m.mod bs ix sc k0 = .err c by rw [Yaa, if_pos hm1, h]; rfl)
   rw [h] at hb
   have HB := Yh_ hb
   clear hb h hm1
   have cm := Ya S.out.mm; unfold Mrm.cells at cm; have co := Ya S.out.oo; unfold Opd.cells at co; have fo := Yn S.out.oo
   go_wp2_with (go_at_call 86; refine HB.out.mono ?_; rintro e w8 ⟨rfl, hu⟩)
   refine ⟨rfl, ?_⟩
   show Yl d v L g w (Yaa L m.mod bs ix sc k0) Opd.val _ _; rw [HT.out]
   exact ⟨rfl, S.out.uu.also hu (by simp)⟩
  |ok c k1 =>
   obtain ⟨c0, c1, hk0⟩ := Yz S.out.dd.r h
   clear hk0
   have HT := Yh_ (show Yaa L m.mod bs ix sc k0 = .ok ⟨3, 0, sx8 c, bs, ix, sc⟩ k1 by rw [Yaa, if_pos hm1, h]; rfl)
   rw [h] at hb
   have HB := Yh_ hb
   have HR := Yh_ (And.intro c0 c1)
   have q1 : c % 4294967296 = c := by omega
   have q2 := Yix c0 c1
   clear hb h c0 c1 hm1
   have cm := Ya S.out.mm; unfold Mrm.cells at cm; have co := Ya S.out.oo; unfold Opd.cells at co; have fo := Yn S.out.oo
   go_upto_region 19 with (first | (go_at_call 86; refine HB.out.mono ?_; rintro e w8 ⟨rfl, hD8, hu⟩; have S8 := Yh_ (S.out.step hD8 hu); clear hD8 hu co fo; have co := Ya S8.out.oo; unfold Opd.cells at co; have fo := Yn S8.out.oo) | (go_at_call 117; refine (Ye7 c _ HR.out.1 (by have := HR.out; omega)).mono ?_; rintro e w9 ⟨rfl, rfl⟩; rw [q2]))
   have S9 := Yh_ (S8.out.set (o' := ⟨3, 0, sx8 c, bs, ix, sc⟩) HD.out 2 (.int .u32 (sx8 c)) rfl)
   clear S8 co fo
   have co := Ya S9.out.oo
   unfold Opd.cells at co
   go_wp2_with (refine Ye 39 rfl ?_; refine Yy ⟨3, 0, sx8 c, bs, ix, sc⟩ (w.heap.size + 1) 0 rfl _ _ rfl rfl rfl S9.out.rr (by decide) ?_; intro w9 hw9; have H9 := Yh_ (And.intro S9 (Yca hw9 S9.out.rr rfl)); clear hw9)
   obtain ⟨q1, q2⟩ := H9.out.1.out.fin HD.out H9.out.2.2
   exact bodyPost_ret (Yf rfl (Yb8 4 (w.heap.size + 1) _ rfl H9.out.2.1)) rfl (by show Yl d v L g w (Yaa L m.mod bs ix sc k0) Opd.val _ _; rw [HT.out]; exact ⟨rfl, q1, q2⟩)
 ·have e1 : (m.mod == 1) = false := by simpa using hm1
  by_cases hm2 : m.mod = 2
  ·have e2 : (m.mod == 2) = true := by simpa using hm2
   have cm := Ya S.out.mm; unfold Mrm.cells at cm; have co := Ya S.out.oo; unfold Opd.cells at co; have fo := Yn S.out.oo
   by_cases h : k0 + 4 ≤ L.length
   ·have HB := Yh_ (Ydt d g k0 v L _ S.out.dd h)
    have HT := Yh_ (show Yaa L m.mod bs ix sc k0 = .ok ⟨3, 0, Ybr L k0, bs, ix, sc⟩ (k0 + 4) by rw [Yaa, if_neg hm1, if_pos hm2, Ycn, if_pos h]; rfl)
    clear h hm1 hm2
    go_upto_region 19 with (first | (go_at_call 119; refine HB.out.mono ?_; rintro e w7 ⟨o7, c7, rfl, hw⟩; have HW := Yh_ (hw _ rfl); clear hw) | (go_at_call 124; refine HW.out.mono ?_; rintro e w8 ⟨rfl, hD8, hu⟩; have S8 := Yh_ (S.out.step hD8 hu); clear hD8 hu co fo; have co := Ya S8.out.oo; unfold Opd.cells at co; have fo := Yn S8.out.oo))
    have S9 := Yh_ (S8.out.set (o' := ⟨3, 0, Ybr L k0, bs, ix, sc⟩) HD.out 2 (.int .u32 (Ybr L k0)) rfl)
    clear S8 co fo
    have co := Ya S9.out.oo
    unfold Opd.cells at co
    go_wp2_with (refine Ye 39 rfl ?_; refine Yy ⟨3, 0, Ybr L k0, bs, ix, sc⟩ (w.heap.size + 1) 0 rfl _ _ rfl rfl rfl S9.out.rr (by decide) ?_; intro w9 hw9; have H9 := Yh_ (And.intro S9 (Yca hw9 S9.out.rr rfl)); clear hw9)
    obtain ⟨q1, q2⟩ := H9.out.1.out.fin HD.out H9.out.2.2
    exact bodyPost_ret (Yf rfl (Yb8 4 (w.heap.size + 1) _ rfl H9.out.2.1)) rfl (by show Yl d v L g w (Yaa L m.mod bs ix sc k0) Opd.val _ _; rw [HT.out]; exact ⟨rfl, q1, q2⟩)
   ·have HB := Yh_ (Yea d g k0 4 v L _ S.out.dd (by decide) (by omega))
    have HT := Yh_ (show Yaa L m.mod bs ix sc k0 = .err 10 by rw [Yaa, if_neg hm1, if_pos hm2, Ycn, if_neg h]; rfl)
    clear h hm1 hm2
    go_wp2_with (go_at_call 119; refine HB.out.mono ?_; rintro e w8 ⟨rfl, hu⟩)
    refine ⟨rfl, ?_⟩
    show Yl d v L g w (Yaa L m.mod bs ix sc k0) Opd.val _ _; rw [HT.out]
    exact ⟨rfl, S.out.uu.also hu (by simp)⟩
  ·have e2 : (m.mod == 2) = false := by simpa using hm2
   by_cases hm5 : bs = 5
   ·have e5 : (bs == 5) = true := by simpa using hm5
    have HM := Yh_ (And.intro hm1 (And.intro hm2 hm5))
    clear hm1 hm2 hm5
    have cm := Ya S.out.mm; unfold Mrm.cells at cm; have co := Ya S.out.oo; unfold Opd.cells at co; have fo := Yn S.out.oo
    go_upto_region 18 with fail
    have S6 := Yh_ (S.out.set (o' := ⟨3, 0, 0, -1, ix, sc⟩) HD.out 3 (.int .i64 (-1)) rfl)
    clear co fo
    have co := Ya S6.out.oo
    unfold Opd.cells at co
    have fo := Yn S6.out.oo
    by_cases h : k0 + 4 ≤ L.length
    ·have HB := Yh_ (Ydt d g k0 v L _ S6.out.dd h)
     have HT := Yh_ (show Yaa L m.mod bs ix sc k0 = .ok ⟨3, 0, Ybr L k0, -1, ix, sc⟩ (k0 + 4) by rw [Yaa, if_neg HM.out.1, if_neg HM.out.2.1, if_pos HM.out.2.2, Ycn, if_pos h]; rfl)
     clear h 
     go_upto_region 19 with (first | (go_at_call 119; refine HB.out.mono ?_; rintro e w7 ⟨o7, c7, rfl, hw⟩; have HW := Yh_ (hw _ rfl); clear hw) | (go_at_call 124; refine HW.out.mono ?_; rintro e w8 ⟨rfl, hD8, hu⟩; have S8 := Yh_ (S6.out.step hD8 hu); clear hD8 hu co fo; have co := Ya S8.out.oo; unfold Opd.cells at co; have fo := Yn S8.out.oo))
     have S9 := Yh_ (S8.out.set (o' := ⟨3, 0, Ybr L k0, -1, ix, sc⟩) HD.out 2 (.int .u32 (Ybr L k0)) rfl)
     clear S8 co fo
     have co := Ya S9.out.oo
     unfold Opd.cells at co
     go_wp2_with (refine Ye 39 rfl ?_; refine Yy ⟨3, 0, Ybr L k0, -1, ix, sc⟩ (w.heap.size + 1) 0 rfl _ _ rfl rfl rfl S9.out.rr (by decide) ?_; intro w9 hw9; have H9 := Yh_ (And.intro S9 (Yca hw9 S9.out.rr rfl)); clear hw9)
     obtain ⟨q1, q2⟩ := H9.out.1.out.fin HD.out H9.out.2.2
     exact bodyPost_ret (Yf rfl (Yb8 4 (w.heap.size + 1) _ rfl H9.out.2.1)) rfl (by show Yl d v L g w (Yaa L m.mod bs ix sc k0) Opd.val _ _; rw [HT.out]; exact ⟨rfl, q1, q2⟩)
    ·have HB := Yh_ (Yea d g k0 4 v L _ S6.out.dd (by decide) (by omega))
     have HT := Yh_ (show Yaa L m.mod bs ix sc k0 = .err 10 by rw [Yaa, if_neg HM.out.1, if_neg HM.out.2.1, if_pos HM.out.2.2, Ycn, if_neg h]; rfl)
     clear h 
     go_wp2_with (go_at_call 119; refine HB.out.mono ?_; rintro e w8 ⟨rfl, hu⟩)
     refine ⟨rfl, ?_⟩
     show Yl d v L g w (Yaa L m.mod bs ix sc k0) Opd.val _ _; rw [HT.out]
     exact ⟨rfl, S6.out.uu.also hu (by simp)⟩
   ·have e5 : (bs == 5) = false := by simpa using hm5
    have HT := Yh_ (show Yaa L m.mod bs ix sc k0 = .ok ⟨3, 0, 0, bs, ix, sc⟩ k0 by rw [Yaa, if_neg hm1, if_neg hm2, if_neg hm5])
    clear hm1 hm2 hm5
    have cm := Ya S.out.mm; unfold Mrm.cells at cm; have co := Ya S.out.oo; unfold Opd.cells at co; have fo := Yn S.out.oo
    go_wp2_with (refine Ye 39 rfl ?_; refine Yy ⟨3, 0, 0, bs, ix, sc⟩ (w.heap.size + 1) 0 rfl _ _ rfl rfl rfl S.out.rr (by decide) ?_; intro w9 hw9; have H9 := Yh_ (And.intro S (Yca hw9 S.out.rr rfl)); clear hw9)
    obtain ⟨q1, q2⟩ := H9.out.1.out.fin HD.out H9.out.2.2
    exact bodyPost_ret (Yf rfl (Yb8 4 (w.heap.size + 1) _ rfl H9.out.2.1)) rfl (by show Yl d v L g w (Yaa L m.mod bs ix sc k0) Opd.val _ _; rw [HT.out]; exact ⟨rfl, q1, q2⟩)
theorem Yow (d g k : Nat) (v : Value) (L : List Int) (m : Mrm) (w : World) (hD : Yc w d v L g k) (hok : m.Ok) (h3 : m.mod ≠ 3) (h4 : m.rm = 4) (c : Int) (k0 : Nat) (hb : Yw L k = .ok c k0) (hx : c / 8 % 8 = 4) :
  Calls Tryz.prog 134 #[.pointer (some ⟨d, 0, none⟩), .agg m.cells] w (Yl d v L g w (Yaa L m.mod (c % 8) (-1) 1 k0) Opd.val) := by
 have e3 : (m.mod == 3) = false := by simpa using h3
 have e4 : (m.rm == 4) = true := by simpa using h4
 have HD := Yh_ hD
 have S0 := Yh_ (PlS.start hD m ⟨3, 0, 0, m.rm, -1, 1⟩)
 obtain ⟨c0, c1, hk0⟩ := Yz hD.r hb
 clear hk0
 have h := Yx d g k v L _ S0.out.dd
 rw [hb] at h
 have HB := Yh_ h
 obtain ⟨z, hz, hz3⟩ : ∃ z : Nat, c / 64 = z ∧ z < 4 := ⟨(c / 64).toNat, by omega, by omega⟩
 have hsc : (2 : Int) ^ min z 32 % 4294967296 = 2 ^ (c / 64).toNat := by
  rw [hz, Int.toNat_natCast]
  rcases (show z = 0 ∨ z = 1 ∨ z = 2 ∨ z = 3 by omega) with rfl | rfl | rfl | rfl <;> rfl
 obtain ⟨sc, hsc0⟩ : ∃ sc : Int, (2 : Int) ^ (c / 64).toNat = sc := ⟨_, rfl⟩
 rw [hsc0] at hsc
 obtain ⟨bs, hbs⟩ : ∃ bs : Int, c % 8 = bs := ⟨_, rfl⟩
 obtain ⟨ix, hix⟩ : ∃ ix : Int, c / 8 % 8 = ix := ⟨_, rfl⟩
 have HF := Yh_ (show c / 2 ^ (0 : Int).toNat % 2 ^ (3 : Int).toNat = bs ∧ c / 2 ^ (3 : Int).toNat % 2 ^ (3 : Int).toNat = ix ∧ c / 2 ^ (6 : Int).toNat % 2 ^ (2 : Int).toNat = z by
  refine ⟨?_, ?_, ?_⟩
  ·show c / 1 % 8 = bs; omega
  ·show c / 8 % 8 = ix; omega
  ·show c / 64 % 4 = (z : Int); omega)
 have qb : wrap64 bs = bs := by unfold wrap64; omega
 have qi : wrap64 ix = ix := by unfold wrap64; omega
 have qc : c % 4294967296 = c := by omega
 have HC := Yh_ (And.intro c0 c1)
 have e6 : (ix == 4) = true := by rw [← hix]; simpa using hx
 rw [hbs]
 clear hD hok h3 h4 h hb c0 c1 hx hz hz3 hsc0 hbs hix
 have e6' : (ix != 4) = false := by rw [bne, e6]; rfl
 unfold Mrm.cells
 go_enter Tryz.func134, Tryz.ntmps134
 go_upto_region 12 with (first | (go_at_call 86; refine HB.out.mono ?_; rintro e w5 ⟨rfl, hD5, hu⟩; have S5 := Yh_ (S0.out.step hD5 hu); clear hD5 hu S0; have co := Ya S5.out.oo; unfold Opd.cells at co; have fo := Yn S5.out.oo) | (go_at_call 104; refine (Yb0 c _ _ _ HC.out.1 (by have := HC.out; omega) (by decide) (by decide)).mono ?_; rintro e w6 ⟨rfl, rfl⟩; first | rw [HF.out.1] | rw [HF.out.2.1] | rw [HF.out.2.2]))
 have S := Yh_ (S5.out.set (o' := ⟨3, 0, 0, bs, -1, 1⟩) HD.out 3 (.int .i64 bs) rfl)
 clear S5 co fo
 by_cases hm1 : m.mod = 1
 ·have e1 : (m.mod == 1) = true := by simpa using hm1
  have hb := Yx d g k0 v L _ S.out.dd
  cases h : Yw L k0 with
  |err c =>
   have HT := Yh_ (show Yaa L m.mod bs (-1) 1 k0 = .err c by rw [Yaa, if_pos hm1, h]; rfl)
   rw [h] at hb
   have HB := Yh_ hb
   clear hb h hm1
   have cm := Ya S.out.mm; unfold Mrm.cells at cm; have co := Ya S.out.oo; unfold Opd.cells at co; have fo := Yn S.out.oo
   go_wp2_with (go_at_call 86; refine HB.out.mono ?_; rintro e w8 ⟨rfl, hu⟩)
   refine ⟨rfl, ?_⟩
   show Yl d v L g w (Yaa L m.mod bs (-1) 1 k0) Opd.val _ _; rw [HT.out]
   exact ⟨rfl, S.out.uu.also hu (by simp)⟩
  |ok c k1 =>
   obtain ⟨c0, c1, hk0⟩ := Yz S.out.dd.r h
   clear hk0
   have HT := Yh_ (show Yaa L m.mod bs (-1) 1 k0 = .ok ⟨3, 0, sx8 c, bs, (-1), 1⟩ k1 by rw [Yaa, if_pos hm1, h]; rfl)
   rw [h] at hb
   have HB := Yh_ hb
   have HR := Yh_ (And.intro c0 c1)
   have q1 : c % 4294967296 = c := by omega
   have q2 := Yix c0 c1
   clear hb h c0 c1 hm1
   have cm := Ya S.out.mm; unfold Mrm.cells at cm; have co := Ya S.out.oo; unfold Opd.cells at co; have fo := Yn S.out.oo
   go_upto_region 19 with (first | (go_at_call 86; refine HB.out.mono ?_; rintro e w8 ⟨rfl, hD8, hu⟩; have S8 := Yh_ (S.out.step hD8 hu); clear hD8 hu co fo; have co := Ya S8.out.oo; unfold Opd.cells at co; have fo := Yn S8.out.oo) | (go_at_call 117; refine (Ye7 c _ HR.out.1 (by have := HR.out; omega)).mono ?_; rintro e w9 ⟨rfl, rfl⟩; rw [q2]))
   have S9 := Yh_ (S8.out.set (o' := ⟨3, 0, sx8 c, bs, (-1), 1⟩) HD.out 2 (.int .u32 (sx8 c)) rfl)
   clear S8 co fo
   have co := Ya S9.out.oo
   unfold Opd.cells at co
   go_wp2_with (refine Ye 39 rfl ?_; refine Yy ⟨3, 0, sx8 c, bs, (-1), 1⟩ (w.heap.size + 1) 0 rfl _ _ rfl rfl rfl S9.out.rr (by decide) ?_; intro w9 hw9; have H9 := Yh_ (And.intro S9 (Yca hw9 S9.out.rr rfl)); clear hw9)
   obtain ⟨q1, q2⟩ := H9.out.1.out.fin HD.out H9.out.2.2
   exact bodyPost_ret (Yf rfl (Yb8 4 (w.heap.size + 1) _ rfl H9.out.2.1)) rfl (by show Yl d v L g w (Yaa L m.mod bs (-1) 1 k0) Opd.val _ _; rw [HT.out]; exact ⟨rfl, q1, q2⟩)
 ·have e1 : (m.mod == 1) = false := by simpa using hm1
  by_cases hm2 : m.mod = 2
  ·have e2 : (m.mod == 2) = true := by simpa using hm2
   have cm := Ya S.out.mm; unfold Mrm.cells at cm; have co := Ya S.out.oo; unfold Opd.cells at co; have fo := Yn S.out.oo
   by_cases h : k0 + 4 ≤ L.length
   ·have HB := Yh_ (Ydt d g k0 v L _ S.out.dd h)
    have HT := Yh_ (show Yaa L m.mod bs (-1) 1 k0 = .ok ⟨3, 0, Ybr L k0, bs, (-1), 1⟩ (k0 + 4) by rw [Yaa, if_neg hm1, if_pos hm2, Ycn, if_pos h]; rfl)
    clear h hm1 hm2
    go_upto_region 19 with (first | (go_at_call 119; refine HB.out.mono ?_; rintro e w7 ⟨o7, c7, rfl, hw⟩; have HW := Yh_ (hw _ rfl); clear hw) | (go_at_call 124; refine HW.out.mono ?_; rintro e w8 ⟨rfl, hD8, hu⟩; have S8 := Yh_ (S.out.step hD8 hu); clear hD8 hu co fo; have co := Ya S8.out.oo; unfold Opd.cells at co; have fo := Yn S8.out.oo))
    have S9 := Yh_ (S8.out.set (o' := ⟨3, 0, Ybr L k0, bs, (-1), 1⟩) HD.out 2 (.int .u32 (Ybr L k0)) rfl)
    clear S8 co fo
    have co := Ya S9.out.oo
    unfold Opd.cells at co
    go_wp2_with (refine Ye 39 rfl ?_; refine Yy ⟨3, 0, Ybr L k0, bs, (-1), 1⟩ (w.heap.size + 1) 0 rfl _ _ rfl rfl rfl S9.out.rr (by decide) ?_; intro w9 hw9; have H9 := Yh_ (And.intro S9 (Yca hw9 S9.out.rr rfl)); clear hw9)
    obtain ⟨q1, q2⟩ := H9.out.1.out.fin HD.out H9.out.2.2
    exact bodyPost_ret (Yf rfl (Yb8 4 (w.heap.size + 1) _ rfl H9.out.2.1)) rfl (by show Yl d v L g w (Yaa L m.mod bs (-1) 1 k0) Opd.val _ _; rw [HT.out]; exact ⟨rfl, q1, q2⟩)
   ·have HB := Yh_ (Yea d g k0 4 v L _ S.out.dd (by decide) (by omega))
    have HT := Yh_ (show Yaa L m.mod bs (-1) 1 k0 = .err 10 by rw [Yaa, if_neg hm1, if_pos hm2, Ycn, if_neg h]; rfl)
    clear h hm1 hm2
    go_wp2_with (go_at_call 119; refine HB.out.mono ?_; rintro e w8 ⟨rfl, hu⟩)
    refine ⟨rfl, ?_⟩
    show Yl d v L g w (Yaa L m.mod bs (-1) 1 k0) Opd.val _ _; rw [HT.out]
    exact ⟨rfl, S.out.uu.also hu (by simp)⟩
  ·have e2 : (m.mod == 2) = false := by simpa using hm2
   by_cases hm5 : bs = 5
   ·have e5 : (bs == 5) = true := by simpa using hm5
    have HM := Yh_ (And.intro hm1 (And.intro hm2 hm5))
    clear hm1 hm2 hm5
    have cm := Ya S.out.mm; unfold Mrm.cells at cm; have co := Ya S.out.oo; unfold Opd.cells at co; have fo := Yn S.out.oo
    go_upto_region 18 with fail
    have S6 := Yh_ (S.out.set (o' := ⟨3, 0, 0, -1, (-1), 1⟩) HD.out 3 (.int .i64 (-1)) rfl)
    clear co fo
    have co := Ya S6.out.oo
    unfold Opd.cells at co
    have fo := Yn S6.out.oo
    by_cases h : k0 + 4 ≤ L.length
    ·have HB := Yh_ (Ydt d g k0 v L _ S6.out.dd h)
     have HT := Yh_ (show Yaa L m.mod bs (-1) 1 k0 = .ok ⟨3, 0, Ybr L k0, -1, (-1), 1⟩ (k0 + 4) by rw [Yaa, if_neg HM.out.1, if_neg HM.out.2.1, if_pos HM.out.2.2, Ycn, if_pos h]; rfl)
     clear h 
     go_upto_region 19 with (first | (go_at_call 119; refine HB.out.mono ?_; rintro e w7 ⟨o7, c7, rfl, hw⟩; have HW := Yh_ (hw _ rfl); clear hw) | (go_at_call 124; refine HW.out.mono ?_; rintro e w8 ⟨rfl, hD8, hu⟩; have S8 := Yh_ (S6.out.step hD8 hu); clear hD8 hu co fo; have co := Ya S8.out.oo; unfold Opd.cells at co; have fo := Yn S8.out.oo))
     have S9 := Yh_ (S8.out.set (o' := ⟨3, 0, Ybr L k0, -1, (-1), 1⟩) HD.out 2 (.int .u32 (Ybr L k0)) rfl)
     clear S8 co fo
     have co := Ya S9.out.oo
     unfold Opd.cells at co
     go_wp2_with (refine Ye 39 rfl ?_; refine Yy ⟨3, 0, Ybr L k0, -1, (-1), 1⟩ (w.heap.size + 1) 0 rfl _ _ rfl rfl rfl S9.out.rr (by decide) ?_; intro w9 hw9; have H9 := Yh_ (And.intro S9 (Yca hw9 S9.out.rr rfl)); clear hw9)
     obtain ⟨q1, q2⟩ := H9.out.1.out.fin HD.out H9.out.2.2
     exact bodyPost_ret (Yf rfl (Yb8 4 (w.heap.size + 1) _ rfl H9.out.2.1)) rfl (by show Yl d v L g w (Yaa L m.mod bs (-1) 1 k0) Opd.val _ _; rw [HT.out]; exact ⟨rfl, q1, q2⟩)
    ·have HB := Yh_ (Yea d g k0 4 v L _ S6.out.dd (by decide) (by omega))
     have HT := Yh_ (show Yaa L m.mod bs (-1) 1 k0 = .err 10 by rw [Yaa, if_neg HM.out.1, if_neg HM.out.2.1, if_pos HM.out.2.2, Ycn, if_neg h]; rfl)
     clear h 
     go_wp2_with (go_at_call 119; refine HB.out.mono ?_; rintro e w8 ⟨rfl, hu⟩)
     refine ⟨rfl, ?_⟩
     show Yl d v L g w (Yaa L m.mod bs (-1) 1 k0) Opd.val _ _; rw [HT.out]
     exact ⟨rfl, S6.out.uu.also hu (by simp)⟩
   ·have e5 : (bs == 5) = false := by simpa using hm5
    have HT := Yh_ (show Yaa L m.mod bs (-1) 1 k0 = .ok ⟨3, 0, 0, bs, (-1), 1⟩ k0 by rw [Yaa, if_neg hm1, if_neg hm2, if_neg hm5])
    clear hm1 hm2 hm5
    have cm := Ya S.out.mm; unfold Mrm.cells at cm; have co := Ya S.out.oo; unfold Opd.cells at co; have fo := Yn S.out.oo
    go_wp2_with (refine Ye 39 rfl ?_; refine Yy ⟨3, 0, 0, bs, (-1), 1⟩ (w.heap.size + 1) 0 rfl _ _ rfl rfl rfl S.out.rr (by decide) ?_; intro w9 hw9; have H9 := Yh_ (And.intro S (Yca hw9 S.out.rr rfl)); clear hw9)
    obtain ⟨q1, q2⟩ := H9.out.1.out.fin HD.out H9.out.2.2
    exact bodyPost_ret (Yf rfl (Yb8 4 (w.heap.size + 1) _ rfl H9.out.2.1)) rfl (by show Yl d v L g w (Yaa L m.mod bs (-1) 1 k0) Opd.val _ _; rw [HT.out]; exact ⟨rfl, q1, q2⟩)
theorem Yps (d g k : Nat) (v : Value) (L : List Int) (m : Mrm) (w : World) (hD : Yc w d v L g k) (hok : m.Ok) (h3 : m.mod ≠ 3) (h4 : m.rm = 4) (c : Int) (hb : Yw L k = .err c) :
  Calls Tryz.prog 134 #[.pointer (some ⟨d, 0, none⟩), .agg m.cells] w (Yl d v L g w (.err c) Opd.val) := by
 have e3 : (m.mod == 3) = false := by simpa using h3
 have e4 : (m.rm == 4) = true := by simpa using h4
 have S0 := Yh_ (PlS.start hD m ⟨3, 0, 0, m.rm, -1, 1⟩)
 have h := Yx d g k v L _ S0.out.dd
 rw [hb] at h
 have HB := Yh_ h
 clear hD hok h3 h4 h hb
 unfold Mrm.cells
 go_enter Tryz.func134, Tryz.ntmps134
 go_wp2_with (go_at_call 86; refine HB.out.mono ?_; rintro e w5 ⟨rfl, hu⟩)
 exact ⟨rfl, rfl, S0.out.uu.also hu (by simp)⟩
theorem Yed (d g k : Nat) (v : Value) (L : List Int) (m : Mrm) (w : World) (hD : Yc w d v L g k) (hok : m.Ok) :
  Calls Tryz.prog 134 #[.pointer (some ⟨d, 0, none⟩), .agg m.cells] w (Yl d v L g w (Ybb L m k) Opd.val) := by
 unfold Ybb
 by_cases h3 : m.mod = 3
 ·rw [if_pos h3]; exact Yo1 d g k v L m w hD hok h3
 ·rw [if_neg h3]
  by_cases h4 : m.rm = 4
  ·rw [if_pos h4]
   cases hb : Yw L k with
   |err c => exact Yps d g k v L m w hD hok h3 h4 c hb
   |ok c k0 =>
    rw [DR.bind_ok]
    by_cases hx : c / 8 % 8 = 4
    ·rw [if_pos hx, if_pos hx]; exact Yow d g k v L m w hD hok h3 h4 c k0 hb hx
    ·rw [if_neg hx, if_neg hx]; exact Yo6 d g k v L m w hD hok h3 h4 c k0 hb hx
  ·rw [if_neg h4]; exact place_rm d g k v L m w hD hok h3 h4
end
end Go.Proofs.YthakgjpejhjaoaaGreat
