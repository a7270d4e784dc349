/-
  Parts of the proof (their names shortened by a program). No condition.
-/
import Derived.Test.YthakgjpejhjaoaaGreatMg01
import Derived.Test.YthakgjpejhjaoaaGreatMg19
import Derived.Test.YthakgjpejhjaoaaGreatMg05
import Derived.Test.YthakgjpejhjaoaaGreatProg
import Derived.Laws.FloatArith
import Derived.Laws.Externs
import Derived.Test.YthakgjpejhjaoaaGreatMg04
import Derived.Test.YthakgjpejhjaoaaGreatMg06
import Derived.Test.YthakgjpejhjaoaaGreatMg18
import Derived.Test.YthakgjpejhjaoaaGreatMg17
namespace Go.Proofs.YthakgjpejhjaoaaGreat
open Go Go.RowKit
set_option linter.unusedVariables false
set_option linter.unusedSimpArgs false
set_option maxRecDepth 100000
set_option maxHeartbeats 16000000
section
def mS (s : St) (x y : Int) (b1 b2 : Bool) : St := let t := if b1 = true then s.setR 0 x else s; if b2 = true then t.setR 2 y else t
theorem mS_comm (s : St) (x y : Int) : (s.setR 2 y).setR 0 x = (s.setR 0 x).setR 2 y := by
 unfold St.setR
 dsimp only
 congr 1
 funext j
 by_cases h0 : j = 0
 ·simp [h0]
 ·simp [h0]
theorem Ykg (s : St) (x y : Int) (b : Bool) : (mS s x y false b).setR 0 x = mS s x y true b := by
 cases b
 ·rfl
 ·exact mS_comm s x y
theorem Ypb (s : St) (x y : Int) (b : Bool) : (mS s x y b false).setR 2 y = mS s x y b true := rfl
theorem Yf4 (a : Nat) (s : St) (i : Ins) (k : Fin 8) (v : Int) (o : Nat) (ho : 9 ≤ o) : (Ya7 a (s.setR k.val v) i)[o]? = (Ya7 a s i)[o]? := by
 rw [← dr_reg a s i k v, Array.getElem?_setIfInBounds_ne (by have := k.isLt; omega)]
theorem mS_cell (a : Nat) (s : St) (i : Ins) (x y : Int) (b1 b2 : Bool) (o : Nat) (ho : 9 ≤ o) : (Ya7 a (mS s x y b1 b2) i)[o]? = (Ya7 a s i)[o]? := by
 cases b1 <;> cases b2
 ·rfl
 ·exact Yf4 a s i 2 y o ho
 ·exact Yf4 a s i 0 x o ho
 ·exact (Yf4 a (s.setR 0 x) i 2 y o ho).trans (Yf4 a s i 0 x o ho)
theorem mS_R0 (s : St) (x y : Int) (b2 : Bool) : (mS s x y false b2).R 0 = s.R 0 := by cases b2 <;> rfl
structure D9 (w : World) (d a pb : Nat) (s : St) (i : Ins) (M : Mem) (x y : Int) (dn : Nat → Bool) (w1 : World) : Prop where
 i1 : dn 18 = true → dn 11 = true
 i2 : dn 19 = true → dn 18 = true
 i3 : dn 20 = true → dn 19 = true
 i4 : dn 25 = true → dn 11 = true
 q : Dq w d a pb (mS s x y (dn 25) (dn 28)) i M [] w1
theorem Ycc {dn : Nat → Bool} {p q : Nat} (h : dn p = true → dn q = true) (j : Nat) (hj : p ≠ j) : Yad dn j p = true → Yad dn j q = true := by
 rw [Yn hj]
 intro hp
 by_cases e : q = j
 ·rw [e]; exact Yck
 ·rw [Yn e]; exact h hp
theorem Yii {dn : Nat → Bool} {p q : Nat} (h : dn q = true) : Yad dn p p = true → Yad dn p q = true := by
 intro _
 by_cases e : q = p
 ·rw [e]; exact Yck
 ·rw [Yn e]; exact h
section
variable {w w1 w2 : World} {d a pb : Nat} {s : St} {i : Ins} {M : Mem} {x y : Int} {dn : Nat → Bool}
theorem D9.start (h : Dq w d a pb s i M [] w1) : D9 w d a pb s i M x y (fun _ => false) w1.drew :=
 ⟨fun h => (by cases h), fun h => (by cases h), fun h => (by cases h), fun h => (by cases h), h.drew⟩
theorem D9.same (h : D9 w d a pb s i M x y dn w1) (u : Upd [] w1 w2) (j : Nat) (h1 : 18 ≠ j) (h2 : 19 ≠ j) (h3 : 20 ≠ j) (h4 : 25 ≠ j) (h5 : 28 ≠ j) : D9 w d a pb s i M x y (Yad dn j) w2 :=
 ⟨Ycc h.i1 j h1, Ycc h.i2 j h2, Ycc h.i3 j h3, Ycc h.i4 j h4, by rw [Yn h4, Yn h5]; exact h.q.quiet u⟩
theorem D9.call (h : D9 w d a pb s i M x y dn w1) (u : Upd [] w1 w2) (hd : dn 11 = true) : D9 w d a pb s i M x y (Yad dn 18) w2 :=
 ⟨Yii hd, Ycc h.i2 18 (by decide), Ycc h.i3 18 (by decide), Ycc h.i4 18 (by decide), by rw [Yn (by decide), Yn (by decide)]; exact h.q.quiet u⟩
theorem D9.n19 (h : D9 w d a pb s i M x y dn w1) (hd : dn 18 = true) : D9 w d a pb s i M x y (Yad dn 19) w1 :=
 ⟨Ycc h.i1 19 (by decide), Yii hd, Ycc h.i3 19 (by decide), Ycc h.i4 19 (by decide), by rw [Yn (by decide), Yn (by decide)]; exact h.q⟩
theorem D9.n20 (h : D9 w d a pb s i M x y dn w1) (hd : dn 19 = true) : D9 w d a pb s i M x y (Yad dn 20) w1 :=
 ⟨Ycc h.i1 20 (by decide), Ycc h.i2 20 (by decide), Yii hd, Ycc h.i4 20 (by decide), by rw [Yn (by decide), Yn (by decide)]; exact h.q⟩
theorem D9.n25 (h : D9 w d a pb s i M x y dn w1) (h0 : dn 25 = false) (hd : dn 20 = true) (hx : 0 ≤ x ∧ x < 4294967296) : D9 w d a pb s i M x y (Yad dn 25) (w1.setCell ⟨d, 1, none⟩ (.int .u32 x)) := by
 refine ⟨Ycc h.i1 25 (by decide), Ycc h.i2 25 (by decide), Ycc h.i3 25 (by decide), Yii (h.i1 (h.i2 (h.i3 hd))), ?_⟩
 have hq := h.q
 rw [h0] at hq
 rw [Yck, Yn (by decide), ← Ykg]
 exact hq.next (hq.b.setR 0 (by decide) x hx) ((Upd.refl [d, pb] w1).setCell (p := ⟨d, 1, none⟩) (.inl (by simp)) _)
theorem D9.n28 (h : D9 w d a pb s i M x y dn w1) (h0 : dn 28 = false) (hy : 0 ≤ y ∧ y < 4294967296) : D9 w d a pb s i M x y (Yad dn 28) (w1.setCell ⟨d, 3, none⟩ (.int .u32 y)) := by
 refine ⟨Ycc h.i1 28 (by decide), Ycc h.i2 28 (by decide), Ycc h.i3 28 (by decide), Ycc h.i4 28 (by decide), ?_⟩
 have hq := h.q
 rw [h0] at hq
 rw [Yck, Yn (by decide), ← Ypb]
 exact hq.next (hq.b.setR 2 (by decide) y hy) ((Upd.refl [d, pb] w1).setCell (p := ⟨d, 3, none⟩) (.inl (by simp)) _)
theorem D9.cF (h : D9 w d a pb s i M x y dn w1) (o : Nat) (ho : 9 ≤ o) : w1.cell? ⟨d, o, none⟩ = (Ya7 a s i)[o]? := (h.q.b.cell o).trans (mS_cell a s i x y _ _ o ho)
theorem D9.c1 (h : D9 w d a pb s i M x y dn w1) (hd : dn 11 = false) : w1.cell? ⟨d, 1, none⟩ = some (.int .u32 (s.R 0)) := by
 have h0 : dn 25 = false := by
  cases e : dn 25 with
  |false => rfl
  |true => rw [h.i4 e] at hd; cases hd
 have := h.q.b.cR 0 (by decide)
 rw [h0, mS_R0] at this
 exact this
structure D6 (w : World) (d a pb : Nat) (s : St) (i : Ins) (M : Mem) (x : Int) (dn : Nat → Bool) (w1 : World) : Prop where
 q : Dq w d a pb (mS s x 0 (dn 6) false) i M [] w1
theorem D6.start (h : Dq w d a pb s i M [] w1) : D6 w d a pb s i M x (fun _ => false) w1.drew := ⟨h.drew⟩
theorem D6.same (h : D6 w d a pb s i M x dn w1) (j : Nat) (hj : 6 ≠ j) : D6 w d a pb s i M x (Yad dn j) w1 := ⟨by rw [Yn hj]; exact h.q⟩
theorem D6.put (h : D6 w d a pb s i M x dn w1) (h0 : dn 6 = false) (hx : 0 ≤ x ∧ x < 4294967296) : D6 w d a pb s i M x (Yad dn 6) (w1.setCell ⟨d, 1, none⟩ (.int .u32 x)) := by
 have hq := h.q
 rw [h0] at hq
 refine ⟨?_⟩
 rw [Yck, ← Ykg]
 exact hq.next (hq.b.setR 0 (by decide) x hx) ((Upd.refl [d, pb] w1).setCell (p := ⟨d, 1, none⟩) (.inl (by simp)) _)
end
theorem Ylu (d a pb : Nat) (s : St) (i : Ins) (M : Mem) (w : World) (h : Yu w d a pb s i M) (hop : i.op = 16) (hra : opK M s i.a 4 = false) :
  Calls Tryz.prog 51 #[.pointer (some ⟨d, 0, none⟩)] w fun e w' => e = .panicked [{ v := .iface 35 (opF M s i.a 4).val, recovered := false }] ∧ Ym w' a pb (M) ∧ Upd [d, pb] w w' := by
 have HD := Yh_ (Dq.of h)
 have HI := Yh_ h.io
 have HO := Yh_ hop
 have tok : True := trivial
 have c18 : w.cell? ⟨d, 18, none⟩ = some (.int .i64 16) := by rw [← hop]; exact h.cell 18
 have c20 : w.cell? ⟨d, 20, none⟩ = some (.int .i64 i.a.k) := h.cell 20; have c21 : w.cell? ⟨d, 21, none⟩ = some (.int .i64 i.a.r) := h.cell 21; have c22 : w.cell? ⟨d, 22, none⟩ = some (.int .u32 i.a.imm) := h.cell 22; have c23 : w.cell? ⟨d, 23, none⟩ = some (.int .i64 i.a.b) := h.cell 23; have c24 : w.cell? ⟨d, 24, none⟩ = some (.int .i64 i.a.x) := h.cell 24; have c25 : w.cell? ⟨d, 25, none⟩ = some (.int .u32 i.a.sc) := h.cell 25
 have HRA := Yh_ hra
 clear hra
 clear h hop
 go_enter Tryz.func51, Tryz.ntmps51
 go_wp2_with (have _t := tok; clear _t tok; go_at_call 48; refine (Yje d a pb s i M i.a 4 _ HD.out.b HI.out.a HRA.out).mono ?_; rintro e w5 ⟨rfl, hu⟩; have H5 := Yh_ (HD.out.quiet hu); clear c20 c21 c22 c23 c24 c25 c18; have c18 : w5.cell? ⟨d, 18, none⟩ = some (.int .i64 (16)) := (by rw [← HO.out]; exact H5.out.b.cell 18); clear hu)
 exact ⟨rfl, rfl, H5.out.b.m, H5.out.u⟩
theorem Ym8 (d a pb : Nat) (s : St) (i : Ins) (M : Mem) (w : World) (h : Yu w d a pb s i M) (hop : i.op = 19) (hra : opK M s i.a 4 = false) :
  Calls Tryz.prog 51 #[.pointer (some ⟨d, 0, none⟩)] w fun e w' => e = .panicked [{ v := .iface 35 (opF M s i.a 4).val, recovered := false }] ∧ Ym w' a pb (M) ∧ Upd [d, pb] w w' := by
 have HD := Yh_ (Dq.of h)
 have HI := Yh_ h.io
 have HO := Yh_ hop
 have tok : True := trivial
 have c18 : w.cell? ⟨d, 18, none⟩ = some (.int .i64 19) := by rw [← hop]; exact h.cell 18
 have c20 : w.cell? ⟨d, 20, none⟩ = some (.int .i64 i.a.k) := h.cell 20; have c21 : w.cell? ⟨d, 21, none⟩ = some (.int .i64 i.a.r) := h.cell 21; have c22 : w.cell? ⟨d, 22, none⟩ = some (.int .u32 i.a.imm) := h.cell 22; have c23 : w.cell? ⟨d, 23, none⟩ = some (.int .i64 i.a.b) := h.cell 23; have c24 : w.cell? ⟨d, 24, none⟩ = some (.int .i64 i.a.x) := h.cell 24; have c25 : w.cell? ⟨d, 25, none⟩ = some (.int .u32 i.a.sc) := h.cell 25
 have HRA := Yh_ hra
 clear hra
 clear h hop
 go_enter Tryz.func51, Tryz.ntmps51
 go_wp2_with (have _t := tok; clear _t tok; go_at_call 48; refine (Yje d a pb s i M i.a 4 _ HD.out.b HI.out.a HRA.out).mono ?_; rintro e w5 ⟨rfl, hu⟩; have H5 := Yh_ (HD.out.quiet hu); clear c20 c21 c22 c23 c24 c25 c18; have c18 : w5.cell? ⟨d, 18, none⟩ = some (.int .i64 (19)) := (by rw [← HO.out]; exact H5.out.b.cell 18); clear hu)
 exact ⟨rfl, rfl, H5.out.b.m, H5.out.u⟩
theorem Yo4 (d a pb : Nat) (s : St) (i : Ins) (M : Mem) (w : World) (h : Yu w d a pb s i M) (hop : i.op = 16) (hra : opK M s i.a 4 = true) :
  Calls Tryz.prog 51 #[.pointer (some ⟨d, 0, none⟩)] w fun e w' => e = .returned (.tuple #[]) ∧ Yu w' d a pb ((((s.setR 0 (Yd3 16 (s.R 0) (opV M s i.a 4))).setR 2 (Ydx 16 (s.R 0) (opV M s i.a 4))).setFl (Yb6 16 (s.R 0) (opV M s i.a 4) s.fl))) i (M) ∧ Upd [d, pb] w w' := by
 have HD := Yh_ (Dq.of h)
 have HI := Yh_ h.io
 have HO := Yh_ hop
 have tok : True := trivial
 have c18 : w.cell? ⟨d, 18, none⟩ = some (.int .i64 16) := by rw [← hop]; exact h.cell 18
 have c20 : w.cell? ⟨d, 20, none⟩ = some (.int .i64 i.a.k) := h.cell 20; have c21 : w.cell? ⟨d, 21, none⟩ = some (.int .i64 i.a.r) := h.cell 21; have c22 : w.cell? ⟨d, 22, none⟩ = some (.int .u32 i.a.imm) := h.cell 22; have c23 : w.cell? ⟨d, 23, none⟩ = some (.int .i64 i.a.b) := h.cell 23; have c24 : w.cell? ⟨d, 24, none⟩ = some (.int .i64 i.a.x) := h.cell 24; have c25 : w.cell? ⟨d, 25, none⟩ = some (.int .u32 i.a.sc) := h.cell 25
 have HVR := Yh_ (Ycm h i.a h.io.a 4)
 obtain ⟨v, hv⟩ : ∃ v, opV M s i.a 4 = v := ⟨_, rfl⟩
 rw [hv] at HVR
 have HV := Yh_ hv
 have HRA := Yh_ hra
 clear hra
 rw [hv]
 obtain ⟨x, hx⟩ : ∃ x, Yd3 16 (s.R 0) v = x := ⟨_, rfl⟩
 obtain ⟨y, hy⟩ : ∃ y, Ydx 16 (s.R 0) v = y := ⟨_, rfl⟩
 obtain ⟨⟨x0, x1, x2, x3, x4, x5⟩, hF⟩ : ∃ F, Yb6 16 (s.R 0) v s.fl = F := ⟨_, rfl⟩
 rw [hx, hy, hF]
 have HX := Yh_ (And.intro hx (And.intro hy hF))
 have HXR := Yh_ (show 0 ≤ x ∧ x < 4294967296 from hx ▸ Ygf 16 _ _)
 have HYR := Yh_ (show 0 ≤ y ∧ y < 4294967296 from hy ▸ Ygk 16 _ _)
 have H0R := Yh_ (h.ok.R 0)
 clear hv hx hy hF
 clear h hop
 go_enter Tryz.func51, Tryz.ntmps51
 go_wp2_with (first | (have _t := tok; clear _t tok; go_at_call 48; refine (Yeo d a pb s i M i.a 4 _ HD.out.b HI.out.a HRA.out).mono ?_; rintro e w5 ⟨rfl, hu⟩; rw [HV.out]; have H5 := Yh_ (HD.out.quiet hu); clear c20 c21 c22 c23 c24 c25 c18; have c18 : w5.cell? ⟨d, 18, none⟩ = some (.int .i64 (16)) := (by rw [← HO.out]; exact H5.out.b.cell 18); clear hu))
 refine Ya8 32 (fun dn _ w1 => D9 w d a pb s i M x y dn w1) (fun _ _ => False) (by kernel_rfl) (by decide +kernel) (fun _ => D9.start H5.out) (fun _ _ _ h => h.elim) ?_
 simp only [List.take_succ_cons, List.take_zero, List.drop_succ_cons, List.drop_zero]
 apply Yd rfl rfl
 ·intro dn r0 K hd hdep hK w5 hB1
  skip
  skip
  have HB := Yh_ hB1
  clear hB1 hdep
  go_wp2_with fail
  first
  |exact hK _ (HB.out.same (Upd.refl [] _) _ (by decide) (by decide) (by decide) (by decide) (by decide))
  |exact (HB.out.same (Upd.refl [] _) _ (by decide) (by decide) (by decide) (by decide) (by decide))
 ·exact ⟨_, rfl⟩
 apply Yd rfl rfl
 ·intro dn r0 K hd hdep hK w5 hB1
  skip
  skip
  have HB := Yh_ hB1
  clear hB1 hdep
  go_wp2_with fail
  first
  |exact hK _ (HB.out.same (Upd.refl [] _) _ (by decide) (by decide) (by decide) (by decide) (by decide))
  |exact (HB.out.same (Upd.refl [] _) _ (by decide) (by decide) (by decide) (by decide) (by decide))
 ·exact ⟨_, rfl⟩
 apply Yd rfl rfl
 ·intro dn r0 K hd hdep hK w5 hB1
  skip
  skip
  have HB := Yh_ hB1
  clear hB1 hdep
  go_wp2_with fail
  first
  |exact hK _ (HB.out.same (Upd.refl [] _) _ (by decide) (by decide) (by decide) (by decide) (by decide))
  |exact (HB.out.same (Upd.refl [] _) _ (by decide) (by decide) (by decide) (by decide) (by decide))
 ·exact ⟨_, rfl⟩
 apply Yd rfl rfl
 ·intro dn r0 K hd hdep hK w5 hB1
  skip
  skip
  have HB := Yh_ hB1
  clear hB1 hdep
  go_wp2_with fail
  first
  |exact hK _ (HB.out.same (Upd.refl [] _) _ (by decide) (by decide) (by decide) (by decide) (by decide))
  |exact (HB.out.same (Upd.refl [] _) _ (by decide) (by decide) (by decide) (by decide) (by decide))
 ·exact ⟨_, rfl⟩
 apply Yd rfl rfl
 ·intro dn r0 K hd hdep hK w5 hB1
  skip
  skip
  have HB := Yh_ hB1
  clear hB1 hdep
  go_wp2_with fail
  first
  |exact hK _ (HB.out.same (Upd.refl [] _) _ (by decide) (by decide) (by decide) (by decide) (by decide))
  |exact (HB.out.same (Upd.refl [] _) _ (by decide) (by decide) (by decide) (by decide) (by decide))
 ·exact ⟨_, rfl⟩
 apply Yd rfl rfl
 ·intro dn r0 K hd hdep hK w5 hB1
  skip
  skip
  have HB := Yh_ hB1
  clear hB1 hdep
  go_wp2_with fail
  first
  |exact hK _ (HB.out.same (Upd.refl [] _) _ (by decide) (by decide) (by decide) (by decide) (by decide))
  |exact (HB.out.same (Upd.refl [] _) _ (by decide) (by decide) (by decide) (by decide) (by decide))
 ·exact ⟨_, rfl⟩
 apply Yd rfl rfl
 ·intro dn r0 K hd hdep hK w5 hB1
  skip
  skip
  have HB := Yh_ hB1
  clear hB1 hdep
  go_wp2_with fail
  first
  |exact hK _ (HB.out.same (Upd.refl [] _) _ (by decide) (by decide) (by decide) (by decide) (by decide))
  |exact (HB.out.same (Upd.refl [] _) _ (by decide) (by decide) (by decide) (by decide) (by decide))
 ·exact ⟨_, rfl⟩
 apply Yd rfl rfl
 ·intro dn r0 K hd hdep hK w5 hB1
  skip
  have c18 : w5.cell? ⟨d, 18, none⟩ = some (.int .i64 16) := (by rw [← HO.out]; exact hB1.cF 18 (by decide))
  have HB := Yh_ hB1
  clear hB1 hdep
  go_wp2_with fail
  first
  |exact hK _ (HB.out.same (Upd.refl [] _) _ (by decide) (by decide) (by decide) (by decide) (by decide))
  |exact (HB.out.same (Upd.refl [] _) _ (by decide) (by decide) (by decide) (by decide) (by decide))
 ·exact ⟨_, rfl⟩
 apply Yd rfl rfl
 ·intro dn r0 K hd hdep hK w5 hB1
  skip
  skip
  have HB := Yh_ hB1
  clear hB1 hdep
  go_wp2_with fail
  first
  |exact hK _ (HB.out.same (Upd.refl [] _) _ (by decide) (by decide) (by decide) (by decide) (by decide))
  |exact (HB.out.same (Upd.refl [] _) _ (by decide) (by decide) (by decide) (by decide) (by decide))
 ·exact ⟨_, rfl⟩
 apply Yd rfl rfl
 ·intro dn r0 K hd hdep hK w5 hB1
  skip
  skip
  have HB := Yh_ hB1
  clear hB1 hdep
  go_wp2_with fail
  first
  |exact hK _ (HB.out.same (Upd.refl [] _) _ (by decide) (by decide) (by decide) (by decide) (by decide))
  |exact (HB.out.same (Upd.refl [] _) _ (by decide) (by decide) (by decide) (by decide) (by decide))
 ·exact ⟨_, rfl⟩
 apply Yd rfl rfl
 ·intro dn r0 K hd hdep hK w5 hB1
  skip
  skip
  have HB := Yh_ hB1
  clear hB1 hdep
  go_wp2_with fail
  first
  |exact hK _ (HB.out.same (Upd.refl [] _) _ (by decide) (by decide) (by decide) (by decide) (by decide))
  |exact (HB.out.same (Upd.refl [] _) _ (by decide) (by decide) (by decide) (by decide) (by decide))
 ·exact ⟨_, rfl⟩
 apply Yd rfl rfl
 ·intro dn r0 K hd hdep hK w5 hB1
  skip
  have c1 := hB1.c1 hd
  have HB := Yh_ hB1
  clear hB1 hdep
  go_wp2_with fail
  first
  |exact hK _ (HB.out.same (Upd.refl [] _) _ (by decide) (by decide) (by decide) (by decide) (by decide))
  |exact (HB.out.same (Upd.refl [] _) _ (by decide) (by decide) (by decide) (by decide) (by decide))
 ·exact ⟨_, rfl⟩
 apply Yd rfl rfl
 ·intro dn r0 K hd hdep hK w5 hB1
  skip
  skip
  have HB := Yh_ hB1
  clear hB1 hdep
  go_wp2_with fail
  first
  |exact hK _ (HB.out.same (Upd.refl [] _) _ (by decide) (by decide) (by decide) (by decide) (by decide))
  |exact (HB.out.same (Upd.refl [] _) _ (by decide) (by decide) (by decide) (by decide) (by decide))
 ·exact ⟨_, rfl⟩
 apply Yd rfl rfl
 ·intro dn r0 K hd hdep hK w5 hB1
  skip
  skip
  have HB := Yh_ hB1
  clear hB1 hdep
  go_wp2_with fail
  first
  |exact hK _ (HB.out.same (Upd.refl [] _) _ (by decide) (by decide) (by decide) (by decide) (by decide))
  |exact (HB.out.same (Upd.refl [] _) _ (by decide) (by decide) (by decide) (by decide) (by decide))
 ·exact ⟨_, rfl⟩
 apply Yd rfl rfl
 ·intro dn r0 K hd hdep hK w5 hB1
  skip
  skip
  have HB := Yh_ hB1
  clear hB1 hdep
  go_wp2_with fail
  first
  |exact hK _ (HB.out.same (Upd.refl [] _) _ (by decide) (by decide) (by decide) (by decide) (by decide))
  |exact (HB.out.same (Upd.refl [] _) _ (by decide) (by decide) (by decide) (by decide) (by decide))
 ·exact ⟨_, rfl⟩
 apply Yd rfl rfl
 ·intro dn r0 K hd hdep hK w5 hB1
  skip
  skip
  have HB := Yh_ hB1
  clear hB1 hdep
  go_wp2_with fail
  first
  |exact hK _ (HB.out.same (Upd.refl [] _) _ (by decide) (by decide) (by decide) (by decide) (by decide))
  |exact (HB.out.same (Upd.refl [] _) _ (by decide) (by decide) (by decide) (by decide) (by decide))
 ·exact ⟨_, rfl⟩
 apply Yd rfl rfl
 ·intro dn r0 K hd hdep hK w5 hB1
  skip
  skip
  have HB := Yh_ hB1
  clear hB1 hdep
  go_wp2_with fail
  first
  |exact hK _ (HB.out.same (Upd.refl [] _) _ (by decide) (by decide) (by decide) (by decide) (by decide))
  |exact (HB.out.same (Upd.refl [] _) _ (by decide) (by decide) (by decide) (by decide) (by decide))
 ·exact ⟨_, rfl⟩
 apply Yd rfl rfl
 ·intro dn r0 K hd hdep hK w5 hB1
  skip
  have c10 : w5.cell? ⟨d, 10, none⟩ = some (.bool s.cf) := hB1.cF 10 (by decide); have c11 : w5.cell? ⟨d, 11, none⟩ = some (.bool s.pf) := hB1.cF 11 (by decide); have c12 : w5.cell? ⟨d, 12, none⟩ = some (.bool s.af) := hB1.cF 12 (by decide); have c13 : w5.cell? ⟨d, 13, none⟩ = some (.bool s.zf) := hB1.cF 13 (by decide); have c14 : w5.cell? ⟨d, 14, none⟩ = some (.bool s.sf) := hB1.cF 14 (by decide); have c15 : w5.cell? ⟨d, 15, none⟩ = some (.bool s.of_) := hB1.cF 15 (by decide)
  have HB := Yh_ hB1
  clear hB1 hdep
  go_wp2_with fail
  first
  |exact hK _ (HB.out.same (Upd.refl [] _) _ (by decide) (by decide) (by decide) (by decide) (by decide))
  |exact (HB.out.same (Upd.refl [] _) _ (by decide) (by decide) (by decide) (by decide) (by decide))
 ·exact ⟨_, rfl⟩
 apply Yd rfl rfl
 ·intro dn r0 K hd hdep hK w5 hB1
  have h8 : dn 11 = true := hdep ⟨11, .data⟩ (by simp) rfl
  skip
  have HB := Yh_ hB1
  clear hB1 hdep
  go_wp2_with (go_at_call 67; refine (Mul_any 16 (s.R 0) v s.fl _ rfl H0R.out HVR.out).mono ?_; rintro e w6 ⟨rfl, hu⟩; rw [HX.out.1, HX.out.2.1, HX.out.2.2]; unfold Fl.cells)
  first
  |exact hK _ (HB.out.call hu h8)
  |exact (HB.out.call hu h8)
 ·exact ⟨_, rfl⟩
 apply Yd rfl rfl
 ·intro dn r0 K hd hdep hK w5 hB1
  have h8 : dn 18 = true := hdep ⟨18, .data⟩ (by simp) rfl
  skip
  have HB := Yh_ hB1
  clear hB1 hdep
  go_wp2_with fail
  first
  |exact hK _ (HB.out.n19 h8)
  |exact (HB.out.n19 h8)
 ·exact ⟨_, rfl⟩
 apply Yd rfl rfl
 ·intro dn r0 K hd hdep hK w5 hB1
  have h8 : dn 19 = true := hdep ⟨19, .data⟩ (by simp) rfl
  skip
  have HB := Yh_ hB1
  clear hB1 hdep
  go_wp2_with fail
  first
  |exact hK _ (HB.out.n20 h8)
  |exact (HB.out.n20 h8)
 ·exact ⟨_, rfl⟩
 apply Yd rfl rfl
 ·intro dn r0 K hd hdep hK w5 hB1
  skip
  skip
  have HB := Yh_ hB1
  clear hB1 hdep
  go_wp2_with fail
  first
  |exact hK _ (HB.out.same (Upd.refl [] _) _ (by decide) (by decide) (by decide) (by decide) (by decide))
  |exact (HB.out.same (Upd.refl [] _) _ (by decide) (by decide) (by decide) (by decide) (by decide))
 ·exact ⟨_, rfl⟩
 apply Yd rfl rfl
 ·intro dn r0 K hd hdep hK w5 hB1
  skip
  skip
  have HB := Yh_ hB1
  clear hB1 hdep
  go_wp2_with fail
  first
  |exact hK _ (HB.out.same (Upd.refl [] _) _ (by decide) (by decide) (by decide) (by decide) (by decide))
  |exact (HB.out.same (Upd.refl [] _) _ (by decide) (by decide) (by decide) (by decide) (by decide))
 ·exact ⟨_, rfl⟩
 apply Yd rfl rfl
 ·intro dn r0 K hd hdep hK w5 hB1
  skip
  skip
  have HB := Yh_ hB1
  clear hB1 hdep
  go_wp2_with fail
  first
  |exact hK _ (HB.out.same (Upd.refl [] _) _ (by decide) (by decide) (by decide) (by decide) (by decide))
  |exact (HB.out.same (Upd.refl [] _) _ (by decide) (by decide) (by decide) (by decide) (by decide))
 ·exact ⟨_, rfl⟩
 apply Yd rfl rfl
 ·intro dn r0 K hd hdep hK w5 hB1
  skip
  skip
  have HB := Yh_ hB1
  clear hB1 hdep
  go_wp2_with fail
  first
  |exact hK _ (HB.out.same (Upd.refl [] _) _ (by decide) (by decide) (by decide) (by decide) (by decide))
  |exact (HB.out.same (Upd.refl [] _) _ (by decide) (by decide) (by decide) (by decide) (by decide))
 ·exact ⟨_, rfl⟩
 apply Yd rfl rfl
 ·intro dn r0 K hd hdep hK w5 hB1
  have h8 : dn 20 = true := hdep ⟨20, .data⟩ (by simp) rfl
  have c1 : w5.cell? ⟨d, 1, none⟩ = some (.int .u32 ((mS s x y (dn 25) (dn 28)).R 0)) := hB1.q.b.cR 0 (by decide); have f1 := hB1.q.b.free
  have HB := Yh_ hB1
  clear hB1 hdep
  go_wp2_with fail
  first
  |exact hK _ (HB.out.n25 hd h8 HXR.out)
  |exact (HB.out.n25 hd h8 HXR.out)
 ·exact ⟨undef, rfl⟩
 apply Yd rfl rfl
 ·intro dn r0 K hd hdep hK w5 hB1
  skip
  skip
  have HB := Yh_ hB1
  clear hB1 hdep
  go_wp2_with fail
  first
  |exact hK _ (HB.out.same (Upd.refl [] _) _ (by decide) (by decide) (by decide) (by decide) (by decide))
  |exact (HB.out.same (Upd.refl [] _) _ (by decide) (by decide) (by decide) (by decide) (by decide))
 ·exact ⟨_, rfl⟩
 apply Yd rfl rfl
 ·intro dn r0 K hd hdep hK w5 hB1
  skip
  skip
  have HB := Yh_ hB1
  clear hB1 hdep
  go_wp2_with fail
  first
  |exact hK _ (HB.out.same (Upd.refl [] _) _ (by decide) (by decide) (by decide) (by decide) (by decide))
  |exact (HB.out.same (Upd.refl [] _) _ (by decide) (by decide) (by decide) (by decide) (by decide))
 ·exact ⟨_, rfl⟩
 apply Yd rfl rfl
 ·intro dn r0 K hd hdep hK w5 hB1
  skip
  have c3 : w5.cell? ⟨d, 3, none⟩ = some (.int .u32 ((mS s x y (dn 25) (dn 28)).R 2)) := hB1.q.b.cR 2 (by decide); have f1 := hB1.q.b.free
  have HB := Yh_ hB1
  clear hB1 hdep
  go_wp2_with fail
  first
  |exact hK _ (HB.out.n28 hd HYR.out)
  |exact (HB.out.n28 hd HYR.out)
 ·exact ⟨undef, rfl⟩
 apply Yd rfl rfl
 ·intro dn r0 K hd hdep hK w5 hB1
  skip
  skip
  have HB := Yh_ hB1
  clear hB1 hdep
  go_wp2_with fail
  first
  |exact hK _ (HB.out.same (Upd.refl [] _) _ (by decide) (by decide) (by decide) (by decide) (by decide))
  |exact (HB.out.same (Upd.refl [] _) _ (by decide) (by decide) (by decide) (by decide) (by decide))
 ·exact ⟨_, rfl⟩
 apply Yd rfl rfl
 ·intro dn r0 K hd hdep hK w5 hB1
  skip
  skip
  have HB := Yh_ hB1
  clear hB1 hdep
  go_wp2_with fail
  first
  |exact hK _ (HB.out.same (Upd.refl [] _) _ (by decide) (by decide) (by decide) (by decide) (by decide))
  |exact (HB.out.same (Upd.refl [] _) _ (by decide) (by decide) (by decide) (by decide) (by decide))
 ·exact ⟨_, rfl⟩
 apply Yd rfl rfl
 ·intro dn r0 K hd hdep hK w5 hB1
  skip
  skip
  have HB := Yh_ hB1
  clear hB1 hdep
  go_wp2_with fail
  first
  |exact hK _ (HB.out.same (Upd.refl [] _) _ (by decide) (by decide) (by decide) (by decide) (by decide))
  |exact (HB.out.same (Upd.refl [] _) _ (by decide) (by decide) (by decide) (by decide) (by decide))
 ·exact ⟨_, rfl⟩
 refine Yaz (fun _ r0 w6 dn hall hB2 => ?_)
 have hB1 := hB2.q
 rw [hall 25 (by decide), hall 28 (by decide)] at hB1
 have H6 := Yh_ (show Dq w d a pb ((s.setR 0 x).setR 2 y) i M [] w6 from hB1)
 clear hB1 hB2 hall H5
 simp only [Yo]
 go_wp2_with (have _t := H6; clear _t; refine Ye 25 rfl ?_; refine wpList_store_mid rfl 25 _ _ rfl d 10 (Fl.cells ⟨x0, x1, x2, x3, x4, x5⟩) rfl rfl (Ydq H6.out.b.h 10 6 (by rw [Yja]; decide)) Yhn (Yk8 _) ?_; have H7 := Yh_ (H6.out.putFl ⟨x0, x1, x2, x3, x4, x5⟩); clear H6)
 go_end0
 exact ⟨rfl, H7.out.b, H7.out.u⟩
theorem Ype (d a pb : Nat) (s : St) (i : Ins) (M : Mem) (w : World) (h : Yu w d a pb s i M) (hop : i.op = 19) (hra : opK M s i.a 4 = true) (hk : (Ydg 19 (s.R 0) (s.R 2) (opV M s i.a 4)) = true) :
  Calls Tryz.prog 51 #[.pointer (some ⟨d, 0, none⟩)] w fun e w' => e = .returned (.tuple #[]) ∧ Yu w' d a pb ((s.setR 0 (Yc3 19 (s.R 0) (s.R 2) (opV M s i.a 4))).setR 2 (Yc4 19 (s.R 0) (s.R 2) (opV M s i.a 4))) i (M) ∧ Upd [d, pb] w w' := by
 have HD := Yh_ (Dq.of h)
 have HI := Yh_ h.io
 have HO := Yh_ hop
 have tok : True := trivial
 have c18 : w.cell? ⟨d, 18, none⟩ = some (.int .i64 19) := by rw [← hop]; exact h.cell 18
 have c20 : w.cell? ⟨d, 20, none⟩ = some (.int .i64 i.a.k) := h.cell 20; have c21 : w.cell? ⟨d, 21, none⟩ = some (.int .i64 i.a.r) := h.cell 21; have c22 : w.cell? ⟨d, 22, none⟩ = some (.int .u32 i.a.imm) := h.cell 22; have c23 : w.cell? ⟨d, 23, none⟩ = some (.int .i64 i.a.b) := h.cell 23; have c24 : w.cell? ⟨d, 24, none⟩ = some (.int .i64 i.a.x) := h.cell 24; have c25 : w.cell? ⟨d, 25, none⟩ = some (.int .u32 i.a.sc) := h.cell 25
 have HVR := Yh_ (Ycm h i.a h.io.a 4)
 obtain ⟨v, hv⟩ : ∃ v, opV M s i.a 4 = v := ⟨_, rfl⟩
 rw [hv] at HVR
 have HV := Yh_ hv
 have HRA := Yh_ hra
 clear hra
 rw [hv] at hk ⊢
 obtain ⟨q, hq⟩ : ∃ q, Yc3 19 (s.R 0) (s.R 2) v = q := ⟨_, rfl⟩
 obtain ⟨r, hr⟩ : ∃ r, Yc4 19 (s.R 0) (s.R 2) v = r := ⟨_, rfl⟩
 rw [hq, hr]
 have HX := Yh_ (And.intro hq (And.intro hr hk))
 have HRR := Yh_ (And.intro (hq ▸ Yif 19 (s.R 0) (s.R 2) v (h.ok.R 0) (h.ok.R 2) (hv ▸ Ycm h i.a h.io.a 4)) (hr ▸ Yiz 19 (s.R 0) (s.R 2) v (h.ok.R 0) (h.ok.R 2) (hv ▸ Ycm h i.a h.io.a 4)))
 have H0R := Yh_ (And.intro (h.ok.R 0) (h.ok.R 2))
 clear hv hq hr hk
 clear h hop
 go_enter Tryz.func51, Tryz.ntmps51
 go_wp2_with (first | (have _t := tok; clear _t tok; go_at_call 48; refine (Yeo d a pb s i M i.a 4 _ HD.out.b HI.out.a HRA.out).mono ?_; rintro e w5 ⟨rfl, hu⟩; rw [HV.out]; have H5 := Yh_ (HD.out.quiet hu); clear c20 c21 c22 c23 c24 c25 c18; have c18 : w5.cell? ⟨d, 18, none⟩ = some (.int .i64 (19)) := (by rw [← HO.out]; exact H5.out.b.cell 18); clear hu))
 refine Yap 22 (Dq w d a pb s i M []) (fun _ _ => False) (by kernel_rfl) (by decide +kernel) H5.out.drew (fun _ _ _ h => h.elim) ?_
 simp only [List.take_succ_cons, List.take_zero, List.drop_succ_cons, List.drop_zero]
 iterate 14
  apply Yv rfl rfl
  ·intro K hK w5 hB1
   have c18 : w5.cell? ⟨d, 18, none⟩ = some (.int .i64 19) := (by rw [← HO.out]; exact hB1.b.cell 18); have c1 : w5.cell? ⟨d, 1, none⟩ = some (.int .u32 (s.R 0)) := hB1.b.cR 0 (by decide); have c3 : w5.cell? ⟨d, 3, none⟩ = some (.int .u32 (s.R 2)) := hB1.b.cR 2 (by decide)
   have HB := Yh_ hB1
   clear hB1
   go_wp2_with fail
   first
   |exact hK _ HB.out
   |exact HB.out
  ·exact ⟨_, rfl⟩
 apply Yv rfl rfl
 ·intro K hK w5 hB1
  have HB := Yh_ hB1
  clear hB1
  go_wp2_with (go_at_call 68; refine (Yn9 19 (s.R 0) (s.R 2) v _ (by decide) H0R.out.1 H0R.out.2 HVR.out).mono ?_; rintro e w6 ⟨rfl, hu⟩; rw [HX.out.1, HX.out.2.1, HX.out.2.2])
  first
  |exact hK _ (HB.out.quiet hu)
  |exact HB.out.quiet hu
 ·exact ⟨_, rfl⟩
 iterate 7
  apply Yv rfl rfl
  ·intro K hK w5 hB1
   have c18 : w5.cell? ⟨d, 18, none⟩ = some (.int .i64 19) := (by rw [← HO.out]; exact hB1.b.cell 18); have c1 : w5.cell? ⟨d, 1, none⟩ = some (.int .u32 (s.R 0)) := hB1.b.cR 0 (by decide); have c3 : w5.cell? ⟨d, 3, none⟩ = some (.int .u32 (s.R 2)) := hB1.b.cR 2 (by decide)
   have HB := Yh_ hB1
   clear hB1
   go_wp2_with fail
   first
   |exact hK _ HB.out
   |exact HB.out
  ·exact ⟨_, rfl⟩
 refine Yag (fun _ w6 hB1 => ?_)
 have H6 := Yh_ hB1
 clear hB1 H5
 go_wp2_with fail
 refine Ya8 9 (fun dn _ w1 => D6 w d a pb s i M q dn w1) (fun _ _ => False) (by kernel_rfl) (by decide +kernel) (fun _ => D6.start H6.out) (fun _ _ _ h => h.elim) ?_
 simp only [List.take_succ_cons, List.take_zero, List.drop_succ_cons, List.drop_zero]
 apply Yd rfl rfl
 ·intro dn r0 K hd hdep hK w5 hB1
  skip
  have HB := Yh_ hB1
  clear hB1 hdep
  go_wp2_with fail
  first
  |exact hK _ (HB.out.same _ (by decide))
  |exact (HB.out.same _ (by decide))
 ·exact ⟨_, rfl⟩
 apply Yd rfl rfl
 ·intro dn r0 K hd hdep hK w5 hB1
  skip
  have HB := Yh_ hB1
  clear hB1 hdep
  go_wp2_with fail
  first
  |exact hK _ (HB.out.same _ (by decide))
  |exact (HB.out.same _ (by decide))
 ·exact ⟨_, rfl⟩
 apply Yd rfl rfl
 ·intro dn r0 K hd hdep hK w5 hB1
  skip
  have HB := Yh_ hB1
  clear hB1 hdep
  go_wp2_with fail
  first
  |exact hK _ (HB.out.same _ (by decide))
  |exact (HB.out.same _ (by decide))
 ·exact ⟨_, rfl⟩
 apply Yd rfl rfl
 ·intro dn r0 K hd hdep hK w5 hB1
  skip
  have HB := Yh_ hB1
  clear hB1 hdep
  go_wp2_with fail
  first
  |exact hK _ (HB.out.same _ (by decide))
  |exact (HB.out.same _ (by decide))
 ·exact ⟨_, rfl⟩
 apply Yd rfl rfl
 ·intro dn r0 K hd hdep hK w5 hB1
  skip
  have HB := Yh_ hB1
  clear hB1 hdep
  go_wp2_with fail
  first
  |exact hK _ (HB.out.same _ (by decide))
  |exact (HB.out.same _ (by decide))
 ·exact ⟨_, rfl⟩
 apply Yd rfl rfl
 ·intro dn r0 K hd hdep hK w5 hB1
  skip
  have HB := Yh_ hB1
  clear hB1 hdep
  go_wp2_with fail
  first
  |exact hK _ (HB.out.same _ (by decide))
  |exact (HB.out.same _ (by decide))
 ·exact ⟨_, rfl⟩
 apply Yd rfl rfl
 ·intro dn r0 K hd hdep hK w5 hB1
  have c1 : w5.cell? ⟨d, 1, none⟩ = some (.int .u32 ((mS s q 0 (dn 6) false).R 0)) := hB1.q.b.cR 0 (by decide); have f1 := hB1.q.b.free
  have HB := Yh_ hB1
  clear hB1 hdep
  go_wp2_with fail
  first
  |exact hK _ (HB.out.put hd HRR.out.1)
  |exact (HB.out.put hd HRR.out.1)
 ·exact ⟨undef, rfl⟩
 apply Yd rfl rfl
 ·intro dn r0 K hd hdep hK w5 hB1
  skip
  have HB := Yh_ hB1
  clear hB1 hdep
  go_wp2_with fail
  first
  |exact hK _ (HB.out.same _ (by decide))
  |exact (HB.out.same _ (by decide))
 ·exact ⟨_, rfl⟩
 apply Yd rfl rfl
 ·intro dn r0 K hd hdep hK w5 hB1
  skip
  have HB := Yh_ hB1
  clear hB1 hdep
  go_wp2_with fail
  first
  |exact hK _ (HB.out.same _ (by decide))
  |exact (HB.out.same _ (by decide))
 ·exact ⟨_, rfl⟩
 refine Yaz (fun _ r0 w8 dn hall hB2 => ?_)
 have hB3 := hB2.q
 rw [hall 6 (by decide)] at hB3
 have hB1 : Dq w d a pb (s.setR 0 q) i M [] w8 := hB3
 clear hB2 hB3
 have c3 : w8.cell? ⟨d, 3, none⟩ = some (.int .u32 (s.R 2)) := hB1.b.cR 2 (by decide)
 have f3 := hB1.b.free
 have H8 := Yh_ hB1
 clear hB1 hall H6
 simp only [Yo]
 go_wp2_with fail
 go_end0
 exact ⟨rfl, H8.out.b.setR 2 (by decide) r HRR.out.2, H8.out.u.setCell (p := ⟨d, 3, none⟩) (.inl (by simp)) _⟩
theorem Yod (d a pb : Nat) (s : St) (i : Ins) (M : Mem) (w : World) (h : Yu w d a pb s i M) (hop : i.op = 19) (hra : opK M s i.a 4 = true) (hk : (Ydg 19 (s.R 0) (s.R 2) (opV M s i.a 4)) = false) :
  Calls Tryz.prog 51 #[.pointer (some ⟨d, 0, none⟩)] w fun e w' => e = .panicked [{ v := .iface 35 ((⟨2, 0, 0, 0⟩ : Flt)).val, recovered := false }] ∧ Ym w' a pb (M) ∧ Upd [d, pb] w w' := by
 have HD := Yh_ (Dq.of h)
 have HI := Yh_ h.io
 have HO := Yh_ hop
 have tok : True := trivial
 have c18 : w.cell? ⟨d, 18, none⟩ = some (.int .i64 19) := by rw [← hop]; exact h.cell 18
 have c20 : w.cell? ⟨d, 20, none⟩ = some (.int .i64 i.a.k) := h.cell 20; have c21 : w.cell? ⟨d, 21, none⟩ = some (.int .i64 i.a.r) := h.cell 21; have c22 : w.cell? ⟨d, 22, none⟩ = some (.int .u32 i.a.imm) := h.cell 22; have c23 : w.cell? ⟨d, 23, none⟩ = some (.int .i64 i.a.b) := h.cell 23; have c24 : w.cell? ⟨d, 24, none⟩ = some (.int .i64 i.a.x) := h.cell 24; have c25 : w.cell? ⟨d, 25, none⟩ = some (.int .u32 i.a.sc) := h.cell 25
 have HVR := Yh_ (Ycm h i.a h.io.a 4)
 obtain ⟨v, hv⟩ : ∃ v, opV M s i.a 4 = v := ⟨_, rfl⟩
 rw [hv] at HVR
 have HV := Yh_ hv
 have HRA := Yh_ hra
 clear hra
 rw [hv] at hk 
 obtain ⟨q, hq⟩ : ∃ q, Yc3 19 (s.R 0) (s.R 2) v = q := ⟨_, rfl⟩
 obtain ⟨r, hr⟩ : ∃ r, Yc4 19 (s.R 0) (s.R 2) v = r := ⟨_, rfl⟩
 skip
 have HX := Yh_ (And.intro hq (And.intro hr hk))
 have HRR := Yh_ (And.intro (hq ▸ Yif 19 (s.R 0) (s.R 2) v (h.ok.R 0) (h.ok.R 2) (hv ▸ Ycm h i.a h.io.a 4)) (hr ▸ Yiz 19 (s.R 0) (s.R 2) v (h.ok.R 0) (h.ok.R 2) (hv ▸ Ycm h i.a h.io.a 4)))
 have H0R := Yh_ (And.intro (h.ok.R 0) (h.ok.R 2))
 clear hv hq hr hk
 clear h hop
 go_enter Tryz.func51, Tryz.ntmps51
 go_wp2_with (first | (have _t := tok; clear _t tok; go_at_call 48; refine (Yeo d a pb s i M i.a 4 _ HD.out.b HI.out.a HRA.out).mono ?_; rintro e w5 ⟨rfl, hu⟩; rw [HV.out]; have H5 := Yh_ (HD.out.quiet hu); clear c20 c21 c22 c23 c24 c25 c18; have c18 : w5.cell? ⟨d, 18, none⟩ = some (.int .i64 (19)) := (by rw [← HO.out]; exact H5.out.b.cell 18); clear hu))
 refine Yap 22 (Dq w d a pb s i M []) (fun _ _ => False) (by kernel_rfl) (by decide +kernel) H5.out.drew (fun _ _ _ h => h.elim) ?_
 simp only [List.take_succ_cons, List.take_zero, List.drop_succ_cons, List.drop_zero]
 iterate 14
  apply Yv rfl rfl
  ·intro K hK w5 hB1
   have c18 : w5.cell? ⟨d, 18, none⟩ = some (.int .i64 19) := (by rw [← HO.out]; exact hB1.b.cell 18); have c1 : w5.cell? ⟨d, 1, none⟩ = some (.int .u32 (s.R 0)) := hB1.b.cR 0 (by decide); have c3 : w5.cell? ⟨d, 3, none⟩ = some (.int .u32 (s.R 2)) := hB1.b.cR 2 (by decide)
   have HB := Yh_ hB1
   clear hB1
   go_wp2_with fail
   first
   |exact hK _ HB.out
   |exact HB.out
  ·exact ⟨_, rfl⟩
 apply Yv rfl rfl
 ·intro K hK w5 hB1
  have HB := Yh_ hB1
  clear hB1
  go_wp2_with (go_at_call 68; refine (Yn9 19 (s.R 0) (s.R 2) v _ (by decide) H0R.out.1 H0R.out.2 HVR.out).mono ?_; rintro e w6 ⟨rfl, hu⟩; rw [HX.out.1, HX.out.2.1, HX.out.2.2])
  first
  |exact hK _ (HB.out.quiet hu)
  |exact HB.out.quiet hu
 ·exact ⟨_, rfl⟩
 iterate 7
  apply Yv rfl rfl
  ·intro K hK w5 hB1
   have c18 : w5.cell? ⟨d, 18, none⟩ = some (.int .i64 19) := (by rw [← HO.out]; exact hB1.b.cell 18); have c1 : w5.cell? ⟨d, 1, none⟩ = some (.int .u32 (s.R 0)) := hB1.b.cR 0 (by decide); have c3 : w5.cell? ⟨d, 3, none⟩ = some (.int .u32 (s.R 2)) := hB1.b.cR 2 (by decide)
   have HB := Yh_ hB1
   clear hB1
   go_wp2_with fail
   first
   |exact hK _ HB.out
   |exact HB.out
  ·exact ⟨_, rfl⟩
 refine Yag (fun _ w6 hB1 => ?_)
 have H6 := Yh_ hB1
 clear hB1 H5
 go_wp2_with fail
 exact ⟨rfl, rfl, H6.out.b.m, H6.out.u⟩
end
structure Hs where
 x : Nat → Int
 mem : Value
 pc : Int
 why : Int
def Hs.at_ (H : Hs) (k : Nat) : Value := if k < 32 then .int .u32 (H.x k) else if k = 32 then H.mem else if k = 33 then .int .u32 H.pc else .int .u32 H.why
def Hs.cells (H : Hs) : Array Value := (Array.range 35).map H.at_
def Hs.set (H : Hs) (i : Nat) (v : Int) : Hs := { H with x := fun j => if j = i then v else H.x j }
def Hs.get (H : Hs) (i : Int) : Int := if i < 1 ∨ 32 ≤ i then 0 else H.x i.toNat
def Hs.put (H : Hs) (i v : Int) : Hs := if i < 1 ∨ 32 ≤ i then H else H.set i.toNat v
theorem Hs.cell (H : Hs) (k : Nat) (h : k < 35) : H.cells[k]? = some (H.at_ k) := by simp [Hs.cells, h]
theorem Hs.size (H : Hs) : H.cells.size = 35 := by simp [Hs.cells]
def Hs.zero (m : Nat) : Hs := ⟨fun _ => 0, .slice (some ⟨m, 0, none⟩) 32768 32768, 1024, 0⟩
def Hs.two (H : Hs) (i : Int) : Int := H.get (10 + i) + H.get (11 + i) * 4294967296
section
def cS (s : St) (z p : Bool) (b1 b2 : Bool) : St := { s with zf := cond b1 z s.zf, pf := cond b2 p s.pf }
structure D21 (w : World) (d a pb : Nat) (s : St) (i : Ins) (M : Mem) (z p : Bool) (dn : Nat → Bool) (w1 : World) : Prop where
 q : Dq w d a pb (cS s z p (dn 17) (dn 21)) i M [] w1
def mM (M M2 : Mem) (b : Bool) : Mem := cond b M2 M
structure D5 (w : World) (d a pb : Nat) (s : St) (i : Ins) (M M2 : Mem) (n0 : Nat) (V : Array Value) (dn : Nat → Bool) (r : Nat → Value) (w1 : World) : Prop where
 q : Dq w d a pb s i (mM M M2 (dn 17)) [] w1
 b : n0 ≤ w1.heap.size
 lt : (d < n0 ∧ a < n0 ∧ pb < n0) ∧ w.heap.size ≤ n0
 x : dn 21 = true → ∃ g, r 21 = .pointer (some ⟨g, 0, none⟩) ∧ n0 ≤ g ∧ w1.heap[g]? = some (.cells (if dn 22 = true then V else Yac Flt.zero) 35 (0, 0))
 xo : dn 22 = true → dn 21 = true
section
variable {w w1 w2 : World} {d a pb n0 : Nat} {s : St} {i : Ins} {M M2 : Mem} {z p : Bool} {V : Array Value} {dn : Nat → Bool} {r : Nat → Value}
theorem D21.start (h : Dq w d a pb s i M [] w1) : D21 w d a pb s i M z p (fun _ => false) w1.drew := ⟨h.drew⟩
theorem D21.quiet (h : D21 w d a pb s i M z p dn w1) (u : Upd [] w1 w2) (j : Nat) (h1 : 17 ≠ j) (h2 : 21 ≠ j) : D21 w d a pb s i M z p (Yad dn j) w2 := ⟨by rw [Yn h1, Yn h2]; exact h.q.quiet u⟩
theorem D21.next (h : D21 w d a pb s i M z p dn w1) (hd : Yu w2 d a pb (cS s z p (dn 17) (dn 21)) i M) (u : Upd [d, pb] w1 w2) (j : Nat) (h1 : 17 ≠ j) (h2 : 21 ≠ j) : D21 w d a pb s i M z p (Yad dn j) w2 := ⟨by rw [Yn h1, Yn h2]; exact h.q.next hd u⟩
theorem D5.start (h : Dq w d a pb s i M [] w1) (M2 : Mem) (V : Array Value) (r : Nat → Value) : D5 w d a pb s i M M2 w1.heap.size V (fun _ => false) r w1.drew :=
 ⟨h.drew, ((Upd.refl [] w1).drew).size, ⟨⟨h.lts.1, h.lts.2.1, h.lts.2.2.1⟩, h.u.size⟩, fun h => (by cases h), fun h => (by cases h)⟩
theorem D5.quiet (h : D5 w d a pb s i M M2 n0 V dn r w1) (u : Upd [] w1 w2) (j : Nat) (h0 : 17 ≠ j) (h1 : 21 ≠ j) (h2 : 22 ≠ j) : D5 w d a pb s i M M2 n0 V (Yad dn j) r w2 := by
 refine ⟨by rw [Yn h0]; exact h.q.quiet u, Nat.le_trans h.b u.size, h.lt, fun hx => ?_, fun hx => ?_⟩
 ·rw [Yn h1] at hx
  obtain ⟨g, e1, e2, e3⟩ := h.x hx
  exact ⟨g, e1, e2, by rw [Yn h2]; exact u.get e3 (by simp)⟩
 ·rw [Yn h2] at hx; rw [Yn h1]; exact h.xo hx
theorem D5.same (h : D5 w d a pb s i M M2 n0 V dn r w1) (j : Nat) (h0 : 17 ≠ j) (h1 : 21 ≠ j) (h2 : 22 ≠ j) : D5 w d a pb s i M M2 n0 V (Yad dn j) r w1 := h.quiet (Upd.refl [] w1) j h0 h1 h2
theorem D5.call (h : D5 w d a pb s i M M2 n0 V dn r w1) (hm : Ym w2 a pb M2) (u : Upd [pb] w1 w2) : D5 w d a pb s i M M2 n0 V (Yad dn 17) r w2 := by
 have hl := h.lt
 refine ⟨by rw [Yck]; exact h.q.next (h.q.b.mem u hm) (u.mono (by simp)), Nat.le_trans h.b u.size, h.lt, fun hx => ?_, fun hx => ?_⟩
 ·rw [Yn (by decide)] at hx
  obtain ⟨g, e1, e2, e3⟩ := h.x hx
  exact ⟨g, e1, e2, by rw [Yn (by decide)]; exact u.get e3 (by simp; omega)⟩
 ·rw [Yn (by decide)] at hx; rw [Yn (by decide)]; exact h.xo hx
theorem D5.lay (h : D5 w d a pb s i M M2 n0 V dn r w1) (hd : dn 21 = false) : D5 w d a pb s i M M2 n0 V (Yad dn 21) (Yco r 21 (.pointer (some ⟨w1.heap.size, 0, none⟩))) (w1.alloc (.cells (Yac Flt.zero) 35)) := by
 have hdm : dn 22 = false := by
  cases e : dn 22 with
  |false => rfl
  |true => rw [h.xo e] at hd; cases hd
 have u := (Upd.refl [] w1).alloc (.cells (Yac Flt.zero) 35)
 refine ⟨by rw [Yn (by decide)]; exact h.q.quiet u, Nat.le_trans h.b u.size, h.lt, fun _ => ⟨_, Yf2, h.b, ?_⟩, fun _ => Yck⟩
 rw [Yn (by decide), hdm]
 exact heap_alloc_new _ _
theorem D5.put (h : D5 w d a pb s i M M2 n0 V dn r w1) (hd : dn 21 = true) {g : Nat} (e1 : r 21 = .pointer (some ⟨g, 0, none⟩)) (hv : ∀ c, (c = V ∨ c = Yac Flt.zero) → wr c 0 V.toList = V) : D5 w d a pb s i M M2 n0 V (Yad dn 22) r (w1.setCells g 0 V.toList) := by
 obtain ⟨g', e1', e2, e3⟩ := h.x hd
 obtain rfl : g' = g := by rw [e1] at e1'; injection e1' with e; injection e with e; injection e with e; exact e.symm
 have u := (Upd.refl [g'] w1).setCells (q := g') (.inl (by simp)) V.toList 0
 have hl := h.lt.1
 refine ⟨by rw [Yn (by decide)]; exact ⟨h.q.b.keep u (by simp; omega) (by simp; omega) (by simp; omega), by simp, h.q.u.also u (fun x hx => .inr (by rw [List.mem_singleton.1 hx]; exact Nat.le_trans h.lt.2 e2)), by simp⟩, Nat.le_trans h.b u.size, h.lt, fun _ => ⟨g', e1, e2, ?_⟩, fun _ => by rw [Yn (by decide)]; exact hd⟩
 rw [Yck, if_pos rfl, Yaf _ _ _ _ e3, hv _ (by split <;> simp)]
end
end
theorem outs_yes (kb sb ub : Nat) (w : World) (hk : w.heap[kb]? = some (.cells #[.bool true] 4 (0, 0))) :
  CallsD Tryz.prog 30 #[.pointer (some ⟨kb, 0, none⟩), .pointer (some ⟨sb, 0, none⟩), .pointer (some ⟨ub, 0, none⟩)] .returning w fun e u' w' => e = .returned (.tuple #[]) ∧ u' = .returning ∧ w = w' := by
 refine callsD_of_wpS Tryz.func30 rfl fun c₀ cs hu => ?_
 simp only [Tryz.ntmps30, List.size_toArray, List.length_cons, List.length_nil, Nat.reduceAdd, Nat.reduceSub, Array.replicate_succ, Array.replicate_zero, List.push_toArray, List.append_toArray, List.nil_append, List.cons_append]
 refine wpS_of_wp ?_
 have ck := Ya hk
 have HU := Yh_ hu
 clear hu hk
 go_wp2_with fail
 refine ⟨rfl, .returning, ?_, _, results_none rfl _ _ _, rfl, rfl, rfl⟩
 rw [← HU.out]
theorem outs_no (kb sb ub : Nat) (s : St) (c : Array Value) (w : World) (hk : w.heap[kb]? = some (.cells #[.bool false] 4 (0, 0))) (hs : w.heap[sb]? = some (.cells s.cells 28 (0, 0))) (hb : w.heap[ub]? = some (.cells c 28 (0, 0))) (hc : c.size = 17) :
  CallsD Tryz.prog 30 #[.pointer (some ⟨kb, 0, none⟩), .pointer (some ⟨sb, 0, none⟩), .pointer (some ⟨ub, 0, none⟩)] .returning w fun e u' w' => e = .returned (.tuple #[]) ∧ u' = .returning ∧ w' = w.setCells ub 0 s.cells.toList := by
 refine callsD_of_wpS Tryz.func30 rfl fun c₀ cs hu => ?_
 simp only [Tryz.ntmps30, List.size_toArray, List.length_cons, List.length_nil, Nat.reduceAdd, Nat.reduceSub, Array.replicate_succ, Array.replicate_zero, List.push_toArray, List.append_toArray, List.nil_append, List.cons_append]
 refine wpS_of_wp ?_
 have ck := Ya hk
 have HU := Yh_ (And.intro hu (And.intro hs hb))
 clear hu hk hs hb
 have tokL : True := trivial
 have tokS : True := trivial
 go_wp2_with (first | (have _t := tokL; clear _t tokL; refine Yal 28 rfl ?_; refine Yab s sb rfl _ rfl rfl HU.out.2.1 ?_) | (have _t := tokS; clear _t tokS; refine Ye 28 rfl ?_; refine Ycy s ub rfl _ _ rfl rfl rfl HU.out.2.2 hc ?_))
 refine ⟨rfl, .returning, ?_, _, results_none rfl _ _ _, rfl, rfl, rfl⟩
 rw [← HU.out.1]
theorem Yky (a : Nat) (s : St) (i : Ins) (w : World) : (Instr.build 86 #[(0, .pointer (some ⟨a, 0, none⟩)), (1, .agg s.cells), (2, .agg i.cells)]).run Tryz.prog w = .ok (.agg (Ya7 a s i)) w := by
 unfold St.cells Ins.cells Ya7
 kernel_rfl
theorem Yfw {ops : Array Oper} {rest : List Oper} {o : Oper} {a : Act} {w : World} {Q : Exit → Act → World → Prop} (hgd : o.guard = none) (p : Nat) (s : St) (i : Ins) (x y z : Operand) (ho : o.op = .build 86 #[(0, x), (1, y), (2, z)]) (hx : a.eval x = .pointer (some ⟨p, 0, none⟩)) (hy : a.eval y = .agg s.cells) (hz : a.eval z = .agg i.cells)
  (h : wpList Tryz.prog ops Q rest (a.put o.dst (.agg (Ya7 p s i))) w) : wpList Tryz.prog ops Q (o :: rest) a w := by
 refine wpList_plain hgd fun _ hK => ?_
 unfold Oper.wp execOp
 simp only [ho, List.map_toArray, List.map_cons, List.map_nil, hx, hy, hz, Sem.run_bind, Yky, Result.andThen_ok, Sem.run_pure]
 exact hK _ _ h
def St.goOn (s : St) (n : Int) : St := { s with pc := (s.pc + n) % 4294967296 }
theorem St.goOn_ok {s : St} (h : s.Ok) (n : Int) : (s.goOn n).Ok := ⟨h.R, by simp only [St.goOn]; omega, h.f⟩
def Ylb (pc : Int) (fb kb sb ub : Nat) : List Deferred :=
 [{ target := .fn (.func 31) #[], args := #[.int .u32 pc, .pointer (some ⟨fb, 0, none⟩), .pointer (some ⟨kb, 0, none⟩)] },
  { target := .fn (.func 30) #[.pointer (some ⟨kb, 0, none⟩), .pointer (some ⟨sb, 0, none⟩), .pointer (some ⟨ub, 0, none⟩)], args := #[] }]
theorem Yom {fn : Func} {tmps : Array Value} {R : Ending → World → Prop} {w1 : World} {pc : Int} {fb kb sb ub : Nat} (V : Value) (hk : w1.heap[kb]? = some (.cells #[.bool true] 4 (0, 0))) (hres : (results fn tmps).run Tryz.prog w1 = .ok V w1) (hR : R (.returned V) w1) :
  Leaves Tryz.prog fn tmps R (Ylb pc fb kb sb ub) .returning w1 := by
 refine leaves_cons (f := 31) (args := #[.int .u32 pc, .pointer (some ⟨fb, 0, none⟩), .pointer (some ⟨kb, 0, none⟩)]) (by simp) (by simp [go_sem]) ?_
 refine (Yg8 _ _ _ w1).mono ?_
 rintro e u' w2 ⟨rfl, rfl, rfl⟩
 simp only [settle]
 refine leaves_cons (f := 30) (args := #[.pointer (some ⟨kb, 0, none⟩), .pointer (some ⟨sb, 0, none⟩), .pointer (some ⟨ub, 0, none⟩)]) (by simp) (by simp [go_sem]) ?_
 refine (outs_yes kb sb ub _ hk).mono ?_
 rintro e u' w2 ⟨rfl, rfl, rfl⟩
 simp only [settle]
 exact ⟨_, hres, hR⟩
theorem Yj9 {fn : Func} {tmps : Array Value} {R : Ending → World → Prop} {w1 : World} {pc : Int} {fb kb sb ub : Nat} {y0 y1 y2 y3 k0 : Value} {s : St} {c : Array Value} (F : Flt) (V : Value)
  (hf : w1.heap[fb]? = some (.cells #[y0, y1, y2, y3] 35 (0, 0))) (hk : w1.heap[kb]? = some (.cells #[k0] 4 (0, 0))) (hs : w1.heap[sb]? = some (.cells s.cells 28 (0, 0))) (hu : w1.heap[ub]? = some (.cells c 28 (0, 0))) (hc : c.size = 17)
  (hne : fb ≠ kb ∧ fb ≠ sb ∧ fb ≠ ub ∧ kb ≠ sb ∧ kb ≠ ub ∧ sb ≠ ub)
  (hres : ∀ w2, w2.heap[fb]? = some (.cells #[.int .i64 F.k, .int .u32 pc, .int .u32 F.a, .int .i64 F.wt] 35 (0, 0)) → w2.heap[kb]? = some (.cells #[.bool false] 4 (0, 0)) → w2.heap[ub]? = some (.cells s.cells 28 (0, 0)) → (results fn tmps).run Tryz.prog w2 = .ok V w2)
  (hR : ∀ w2, Upd [fb, kb, ub] w1 w2 → R (.returned V) w2) :
  Leaves Tryz.prog fn tmps R (Ylb pc fb kb sb ub) (.panicking [{ v := .iface 35 F.val, recovered := false }]) w1 := by
 refine leaves_cons (f := 31) (args := #[.int .u32 pc, .pointer (some ⟨fb, 0, none⟩), .pointer (some ⟨kb, 0, none⟩)]) (by simp) (by simp [go_sem]) ?_
 refine (Ye8 pc fb kb _ _ _ _ _ _ _ _ _ [] w1 hf hk hne.1).mono ?_
 rintro e u' w2 ⟨rfl, rfl, hf2, hk2, hU⟩
 simp only [settle, List.dropWhile_nil]
 have hs2 := hU.get hs (by simp; omega)
 have hu2 := hU.get hu (by simp; omega)
 refine leaves_cons (f := 30) (args := #[.pointer (some ⟨kb, 0, none⟩), .pointer (some ⟨sb, 0, none⟩), .pointer (some ⟨ub, 0, none⟩)]) (by simp) (by simp [go_sem]) ?_
 refine (outs_no kb sb ub s c _ hk2 hs2 hu2 hc).mono ?_
 rintro e u' w3 ⟨rfl, rfl, rfl⟩
 simp only [settle]
 have u3 : Upd [ub] w2 (w2.setCells ub 0 s.cells.toList) := (Upd.refl [ub] w2).setCells (.inl (by simp)) _ _
 exact ⟨_, hres _ (u3.get hf2 (by simp; omega)) (u3.get hk2 (by simp; omega)) (Ybb s hu2 hc), hR _ ((hU.mono (by simp)).trans u3 (fun _ h => h) (fun x hx => .inl (by simp at hx; simp [hx])))⟩
structure DoS (w : World) (s : St) (i : Ins) (w1 : World) : Prop where
 zs : w1.heap[w.heap.size]? = some (.cells s.cells 28 (0, 0))
 zi : w1.heap[w.heap.size + 1]? = some (.cells i.cells 41 (0, 0))
 zo : w1.heap[w.heap.size + 1 + 1]? = some (.cells St.zero.cells 28 (0, 0))
 zf : w1.heap[w.heap.size + 1 + 1 + 1]? = some (.cells #[.int .i64 0, .int .u32 0, .int .u32 0, .int .i64 0] 35 (0, 0))
 zk : w1.heap[w.heap.size + 1 + 1 + 1 + 1]? = some (.cells #[.bool false] 4 (0, 0))
theorem DoS.keep {w w1 w2 : World} {s : St} {i : Ins} {S : List Nat} (h : DoS w s i w1) (u : Upd S w1 w2) (hS : ∀ x, x ∈ S → x < w.heap.size ∨ w.heap.size + 4 < x) : DoS w s i w2 := by
 have n : ∀ k, k ≤ 4 → w.heap.size + k ∉ S := fun k hk hh => by have := hS _ hh; omega
 exact ⟨u.get h.zs (n 0 (by decide)), u.get h.zi (n 1 (by decide)), u.get h.zo (n 2 (by decide)), u.get h.zf (n 3 (by decide)), u.get h.zk (n 4 (by decide))⟩
def doW (w : World) (s : St) (i : Ins) : World := ((((w.alloc (.cells s.cells 28)).alloc (.cells i.cells 41)).alloc (.cells St.zero.cells 28)).alloc (.cells #[.int .i64 0, .int .u32 0, .int .u32 0, .int .i64 0] 35)).alloc (.cells #[.bool false] 4)
theorem doW_up (w : World) (s : St) (i : Ins) : Upd [] w (doW w s i) := (((((Upd.refl [] w).alloc _).alloc _).alloc _).alloc _).alloc _
theorem DoS.start (w : World) (s : St) (i : Ins) : DoS w s i (doW w s i) := by
 have h2 := heap_alloc_new ((w.alloc (.cells s.cells 28)).alloc (.cells i.cells 41)) (.cells St.zero.cells 28)
 have h3 := heap_alloc_new (((w.alloc (.cells s.cells 28)).alloc (.cells i.cells 41)).alloc (.cells St.zero.cells 28)) (.cells #[.int .i64 0, .int .u32 0, .int .u32 0, .int .i64 0] 35)
 have h4 := heap_alloc_new ((((w.alloc (.cells s.cells 28)).alloc (.cells i.cells 41)).alloc (.cells St.zero.cells 28)).alloc (.cells #[.int .i64 0, .int .u32 0, .int .u32 0, .int .i64 0] 35)) (.cells #[.bool false] 4)
 rw [show ((w.alloc (.cells s.cells 28)).alloc (.cells i.cells 41)).heap.size = w.heap.size + 1 + 1 from by simp] at h2
 rw [show (((w.alloc (.cells s.cells 28)).alloc (.cells i.cells 41)).alloc (.cells St.zero.cells 28)).heap.size = w.heap.size + 1 + 1 + 1 from by simp] at h3
 rw [show ((((w.alloc (.cells s.cells 28)).alloc (.cells i.cells 41)).alloc (.cells St.zero.cells 28)).alloc (.cells #[.int .i64 0, .int .u32 0, .int .u32 0, .int .i64 0] 35)).heap.size = w.heap.size + 1 + 1 + 1 + 1 from by simp] at h4
 exact ⟨Yl _ (Yl _ (Yl _ (heap_alloc2_old _ _ _))), Yl _ (Yl _ (Yl _ (heap_alloc2_new _ _ _))), Yl _ (Yl _ h2), Yl _ h3, h4⟩
theorem Yf0 {tmps : Array Value} {w : World} (a : Tmp) (b : Nat) (s : St) (ha : tmps.getD a undef = .pointer (some ⟨b, 0, none⟩)) (hb : w.heap[b]? = some (.cells s.cells 28 (0, 0))) :
  (Ybm tmps (.cell a 28)).run Tryz.prog w = .ok (.agg s.cells) w :=
 Ybd a 28 b _ _ ha hb Tryz.underlying28 rfl Ybh
theorem Ykm {w : World} {a pb : Nat} {s : St} {i : Ins} {M : Mem} (hM : Ym w a pb M) (hs : s.Ok) (hi : i.Ok) : Yu ((doW w s i).alloc (.cells (Ya7 a s i) 86)).drew (w.heap.size + 1 + 1 + 1 + 1 + 1) a pb s i M ∧ DoS w s i ((doW w s i).alloc (.cells (Ya7 a s i) 86)).drew ∧ Upd [pb] w ((doW w s i).alloc (.cells (Ya7 a s i) 86)).drew := by
 have u1 := ((Upd.refl [] (doW w s i)).alloc (.cells (Ya7 a s i) 86)).drew
 have u := (doW_up w s i).also u1 (by simp)
 have ha : a < w.heap.size := by obtain ⟨C, _, hc⟩ := hM.hd; exact Yi hc
 have hp : pb < w.heap.size := by obtain ⟨C, _, hc⟩ := hM.pg; exact Yi hc
 have hn := heap_alloc_new (doW w s i) (.cells (Ya7 a s i) 86)
 rw [show (doW w s i).heap.size = (w.heap.size + 1 + 1 + 1 + 1 + 1) from by simp [doW]] at hn
 exact ⟨⟨((Upd.refl [] _).drew).get hn (by simp), hM.keep u (by simp) (by simp), hs, hi, by omega, by omega⟩, (DoS.start w s i).keep u1 (by simp), u.mono (by simp)⟩
theorem Do_ok (a pb : Nat) (s s2 : St) (i : Ins) (M M2 : Mem) (w : World) (hM : Ym w a pb M) (hs : s.Ok) (hi : i.Ok)
  (hd : ∀ d w1, w.heap.size ≤ d → Yu w1 d a pb (s.goOn i.len) i M → Calls Tryz.prog 32 #[.pointer (some ⟨d, 0, none⟩)] w1 fun e w' => e = .returned (.tuple #[]) ∧ Yu w' d a pb s2 i M2 ∧ Upd [d, pb] w1 w') :
  Calls Tryz.prog 15 #[.pointer (some ⟨a, 0, none⟩), .agg s.cells, .agg i.cells] w fun e w' => e = .returned (.tuple #[.agg s2.cells, Flt.zero.val, .bool true]) ∧ Ym w' a pb M2 ∧ Upd [pb] w w' := by
 have HM := Yh_ (And.intro hM (And.intro hs hi))
 have HD := Yh_ hd
 have hpc : s.cells[8]? = some (.int .u32 s.pc) := rfl
 have HS := Yh_ (DoS.start w s i)
 have HB0 := Yh_ (Ykm hM hs hi)
 have HP := Yh_ (show pb < w.heap.size by obtain ⟨C, _, hc⟩ := hM.pg; exact Yi hc)
 clear hM hs hi hd
 have tokL : True := trivial
 have tokI : True := trivial
 go_enter_defers Tryz.func15, Tryz.ntmps15
 go_wp2_with (first | (have _t := tokL; clear _t tokL; refine Yal 28 rfl ?_; refine Yab s w.heap.size rfl _ rfl rfl HS.out.zs ?_) | (have _t := tokI; clear _t tokI; refine Yal 41 rfl ?_; refine Yaq i (w.heap.size + 1) rfl _ rfl rfl HS.out.zi ?_) | (refine Yfw rfl a s i _ _ _ rfl rfl rfl rfl ?_))
 refine Yap 12 (fun w1 => Yu w1 (w.heap.size + 1 + 1 + 1 + 1 + 1) a pb s i M ∧ DoS w s i w1 ∧ Upd [pb] w w1) (fun _ _ => False) (by kernel_rfl) (by decide +kernel) HB0.out (fun _ _ _ h => h.elim) ?_
 simp only [List.take_succ_cons, List.take_zero, List.drop_succ_cons, List.drop_zero]
 iterate 12
  apply Yv rfl rfl
  ·intro K hK w5 hB1
   have c9 : w5.cell? ⟨(w.heap.size + 1 + 1 + 1 + 1 + 1), 9, none⟩ = some (.int .u32 s.pc) := hB1.1.cell 9
   have c15 : w5.cell? ⟨w.heap.size + 1, 15, none⟩ = some (.int .i64 i.len) := Ya hB1.2.1.zi 15
   have HB := Yh_ hB1
   clear hB1
   go_wp2_with fail
   first
   |exact hK _ HB.out
   |exact HB.out
  ·exact ⟨_, rfl⟩
 refine Yag (fun _ w5 hB1 => ?_)
 have c5 : w5.cell? ⟨(w.heap.size + 1 + 1 + 1 + 1 + 1), 9, none⟩ = some (.int .u32 s.pc) := hB1.1.cell 9
 have f5 := hB1.1.free
 have H5 := Yh_ (And.intro hB1.1 (And.intro hB1.2.1 (And.intro HP.out hB1.2.2)))
 clear hB1
 have tok6 : True := trivial
 have tok7 : True := trivial
 go_wp2_with (first | (have _t := H5; clear _t; go_at_call 32; refine (HD.out (w.heap.size + 1 + 1 + 1 + 1 + 1) _ (by simp [Nat.add_assoc]) (H5.out.1.set (s' := s.goOn i.len) (o := 9) rfl (St.goOn_ok HM.out.2.1 i.len))).mono ?_; rintro e w6 ⟨rfl, hd6, hu6⟩; have hpb := H5.out.2.2.1; have u6 := ((Upd.refl [(w.heap.size + 1 + 1 + 1 + 1 + 1), pb] w5).setCell (p := ⟨(w.heap.size + 1 + 1 + 1 + 1 + 1), 9, none⟩) (.inl (by simp)) (.int .u32 ((s.pc + i.len) % 4294967296))).also hu6 (fun x hx => .inl hx); have H6 := Yh_ (And.intro hd6 (And.intro (H5.out.2.1.keep u6 (by simp only [List.mem_cons, List.not_mem_nil, or_false]; intro x hx; omega)) (H5.out.2.2.2.also (S' := [(w.heap.size + 1 + 1 + 1 + 1 + 1), pb]) u6 (by simp only [List.mem_cons, List.not_mem_nil, or_false]; intro x hx; omega)))); clear hd6 hu6 u6 hpb H5 c5 f5) | (have _t := H6; have _t2 := tok6; clear _t _t2 tok6; refine Yal 28 rfl ?_; refine wpList_load_mid rfl 28 _ rfl (w.heap.size + 1 + 1 + 1 + 1 + 1) 1 rfl s2.cells.toList _ H6.out.1.rs Tryz.underlying28 rfl (by rw [Array.length_toList, St.size]; exact Ybh) ?_; rw [Array.toArray_toList]) | (have _t := H6; clear _t; refine Ye 28 rfl ?_; refine Yau s2 (w.heap.size + 1 + 1) rfl _ _ rfl rfl rfl H6.out.2.1.zo rfl ?_; intro w7 hw; have u7 : Upd [w.heap.size + 1 + 1] w6 w7 := hw ▸ (Upd.refl [w.heap.size + 1 + 1] w6).setCells (.inl (by simp)) _ _; have ho : w7.heap[w.heap.size + 1 + 1]? = some (.cells s2.cells 28 (0, 0)) := hw ▸ Ybb s2 H6.out.2.1.zo rfl; have hf7 := u7.get H6.out.2.1.zf (by simp); have hk7 := u7.get H6.out.2.1.zk (by simp <;> omega); have cf := Ya hf7; have ff := Yj hf7; have ck := Ya hk7; have fk := Yj hk7; have H7 := Yh_ (And.intro ho (And.intro hf7 (And.intro hk7 (And.intro (H6.out.1.m.keep u7 (by have := H6.out.1.na; obtain ⟨C, _, hc⟩ := HM.out.1.hd; have := Yi hc; simp; omega) (by have := HP.out; simp; omega)) (H6.out.2.2.also u7 (by simp <;> omega)))))); clear hw u7 ho hf7 hk7 H6))
 have u4 := Yas (S := [w.heap.size + 1 + 1 + 1]) (b := w.heap.size + 1 + 1 + 1) (Upd.refl _ w7) (.inl (by simp)) (.int .i64 0) (.int .u32 0) (.int .u32 0) (.int .i64 0)
 have hF := Yh (a := ⟨w.heap.size + 1 + 1 + 1 + 1, 0, none⟩) (.bool true) (by simp) (Ycr H7.out.2.1 (.int .i64 0) (.int .u32 0) (.int .u32 0) (.int .i64 0))
 have hK := Yg (u4.get H7.out.2.2.1 (by simp)) 0 (.bool true)
 have u5 := (Yas (S := [w.heap.size + 1 + 1 + 1, w.heap.size + 1 + 1 + 1 + 1]) (b := w.heap.size + 1 + 1 + 1) (Upd.refl _ w7) (.inl (by simp)) (.int .i64 0) (.int .u32 0) (.int .u32 0) (.int .i64 0)).setCell (p := ⟨w.heap.size + 1 + 1 + 1 + 1, 0, none⟩) (.inl (by simp)) (.bool true)
 have ha : a < w.heap.size := by obtain ⟨C, _, hc⟩ := HM.out.1.hd; exact Yi hc
 have hp := HP.out
 refine Yom (.tuple #[.agg s2.cells, Flt.zero.val, .bool true]) hK ?_ ⟨rfl, H7.out.2.2.2.1.keep u5 (by simp <;> omega) (by simp <;> omega), H7.out.2.2.2.2.also u5 (by simp <;> omega)⟩
 exact Yy rfl (Yf0 6 (w.heap.size + 1 + 1) s2 rfl (u5.get H7.out.1 (by simp <;> omega))) (Yc7 7 (w.heap.size + 1 + 1 + 1) Flt.zero rfl hF) (Yek 8 (w.heap.size + 1 + 1 + 1 + 1) true rfl hK)
theorem Do_bad (a pb : Nat) (s : St) (i : Ins) (M M2 : Mem) (F : Flt) (w : World) (hM : Ym w a pb M) (hs : s.Ok) (hi : i.Ok)
  (hd : ∀ d w1, w.heap.size ≤ d → Yu w1 d a pb (s.goOn i.len) i M → Calls Tryz.prog 32 #[.pointer (some ⟨d, 0, none⟩)] w1 fun e w' => e = .panicked [{ v := .iface 35 F.val, recovered := false }] ∧ Ym w' a pb M2 ∧ Upd [d, pb] w1 w') :
  Calls Tryz.prog 15 #[.pointer (some ⟨a, 0, none⟩), .agg s.cells, .agg i.cells] w fun e w' => e = .returned (.tuple #[.agg s.cells, ({ F with pc := s.pc } : Flt).val, .bool false]) ∧ Ym w' a pb M2 ∧ Upd [pb] w w' := by
 have HM := Yh_ (And.intro hM (And.intro hs hi))
 have HD := Yh_ hd
 have hpc : s.cells[8]? = some (.int .u32 s.pc) := rfl
 have HS := Yh_ (DoS.start w s i)
 have HB0 := Yh_ (Ykm hM hs hi)
 have HP := Yh_ (show pb < w.heap.size by obtain ⟨C, _, hc⟩ := hM.pg; exact Yi hc)
 clear hM hs hi hd
 have tokL : True := trivial
 have tokI : True := trivial
 go_enter_defers Tryz.func15, Tryz.ntmps15
 go_wp2_with (first | (have _t := tokL; clear _t tokL; refine Yal 28 rfl ?_; refine Yab s w.heap.size rfl _ rfl rfl HS.out.zs ?_) | (have _t := tokI; clear _t tokI; refine Yal 41 rfl ?_; refine Yaq i (w.heap.size + 1) rfl _ rfl rfl HS.out.zi ?_) | (refine Yfw rfl a s i _ _ _ rfl rfl rfl rfl ?_))
 refine Yap 12 (fun w1 => Yu w1 (w.heap.size + 1 + 1 + 1 + 1 + 1) a pb s i M ∧ DoS w s i w1 ∧ Upd [pb] w w1) (fun _ _ => False) (by kernel_rfl) (by decide +kernel) HB0.out (fun _ _ _ h => h.elim) ?_
 simp only [List.take_succ_cons, List.take_zero, List.drop_succ_cons, List.drop_zero]
 iterate 12
  apply Yv rfl rfl
  ·intro K hK w5 hB1
   have c9 : w5.cell? ⟨(w.heap.size + 1 + 1 + 1 + 1 + 1), 9, none⟩ = some (.int .u32 s.pc) := hB1.1.cell 9
   have c15 : w5.cell? ⟨w.heap.size + 1, 15, none⟩ = some (.int .i64 i.len) := Ya hB1.2.1.zi 15
   have HB := Yh_ hB1
   clear hB1
   go_wp2_with fail
   first
   |exact hK _ HB.out
   |exact HB.out
  ·exact ⟨_, rfl⟩
 refine Yag (fun _ w5 hB1 => ?_)
 have c5 : w5.cell? ⟨(w.heap.size + 1 + 1 + 1 + 1 + 1), 9, none⟩ = some (.int .u32 s.pc) := hB1.1.cell 9
 have f5 := hB1.1.free
 have H5 := Yh_ (And.intro hB1.1 (And.intro hB1.2.1 (And.intro HP.out hB1.2.2)))
 clear hB1
 have tok6 : True := trivial
 have tok7 : True := trivial
 go_wp2_with (first | (have _t := H5; clear _t; go_at_call 32; refine (HD.out (w.heap.size + 1 + 1 + 1 + 1 + 1) _ (by simp [Nat.add_assoc]) (H5.out.1.set (s' := s.goOn i.len) (o := 9) rfl (St.goOn_ok HM.out.2.1 i.len))).mono ?_; rintro e w6 ⟨rfl, hd6, hu6⟩; have hpb := H5.out.2.2.1; have u6 := ((Upd.refl [(w.heap.size + 1 + 1 + 1 + 1 + 1), pb] w5).setCell (p := ⟨(w.heap.size + 1 + 1 + 1 + 1 + 1), 9, none⟩) (.inl (by simp)) (.int .u32 ((s.pc + i.len) % 4294967296))).also hu6 (fun x hx => .inl hx); have H6 := Yh_ (And.intro hd6 (And.intro (H5.out.2.1.keep u6 (by simp only [List.mem_cons, List.not_mem_nil, or_false]; intro x hx; omega)) (H5.out.2.2.2.also (S' := [(w.heap.size + 1 + 1 + 1 + 1 + 1), pb]) u6 (by simp only [List.mem_cons, List.not_mem_nil, or_false]; intro x hx; omega)))); clear hd6 hu6 u6 hpb H5 c5 f5))
 have hp := HP.out
 have ha : a < w.heap.size := by obtain ⟨C, _, hc⟩ := HM.out.1.hd; exact Yi hc
 refine Yj9 F (.tuple #[.agg s.cells, ({ F with pc := s.pc } : Flt).val, .bool false]) H6.out.2.1.zf H6.out.2.1.zk H6.out.2.1.zs H6.out.2.1.zo rfl (by omega) (fun w2 hf hk hu => ?_) (fun w2 hU => ⟨rfl, H6.out.1.keep hU (by simp <;> omega) (by simp <;> omega), H6.out.2.2.also hU (by simp <;> omega)⟩)
 exact Yy rfl (Yf0 6 (w.heap.size + 1 + 1) s rfl hu) (Yc7 7 (w.heap.size + 1 + 1 + 1) { F with pc := s.pc } rfl hf) (Yek 8 (w.heap.size + 1 + 1 + 1 + 1) false rfl hk)
end Go.Proofs.YthakgjpejhjaoaaGreat
