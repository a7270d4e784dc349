/-
  Parts of the proof (their names shortened by a program). No condition.
-/
import Derived.Test.YthakgjpejhjaoaaGreatMg01
import Derived.Test.YthakgjpejhjaoaaGreatMg18
import Derived.Test.YthakgjpejhjaoaaGreatMg17
namespace Go.Proofs.YthakgjpejhjaoaaGreat
open Go Go.RowKit
set_option linter.unusedVariables false
set_option linter.unusedSimpArgs false
set_option maxRecDepth 100000
set_option maxHeartbeats 16000000
section
def mS (s : St) (x y : Int) (b1 b2 : Bool) : St := let t := if b1 = true then s.setR 0 x else s; if b2 = true then t.setR 2 y else t
theorem mS_comm (s : St) (x y : Int) : (s.setR 2 y).setR 0 x = (s.setR 0 x).setR 2 y := by
 unfold St.setR
 dsimp only
 congr 1
 funext j
 by_cases h0 : j = 0
 ·simp [h0]
 ·simp [h0]
theorem mS_first (s : St) (x y : Int) (b : Bool) : (mS s x y false b).setR 0 x = mS s x y true b := by
 cases b
 ·rfl
 ·exact mS_comm s x y
theorem mS_R0 (s : St) (x y : Int) (b2 : Bool) : (mS s x y false b2).R 0 = s.R 0 := by cases b2 <;> rfl
structure D9 (w : World) (d a pb : Nat) (s : St) (i : Ins) (M : Mem) (x y : Int) (dn : Nat → Bool) (w1 : World) : Prop where
 i1 : dn 18 = true → dn 11 = true
 i2 : dn 19 = true → dn 18 = true
 i3 : dn 20 = true → dn 19 = true
 i4 : dn 25 = true → dn 11 = true
 q : Dq w d a pb (mS s x y (dn 25) (dn 28)) i M [] w1
theorem Yfd {dn : Nat → Bool} {p q : Nat} (h : dn p = true → dn q = true) (j : Nat) (hj : p ≠ j) : Yah dn j p = true → Yah dn j q = true := by
 rw [Yac hj]
 intro hp
 by_cases e : q = j
 ·rw [e]; exact Ydx
 ·rw [Yac e]; exact h hp
theorem imp_at {dn : Nat → Bool} {p q : Nat} (h : dn q = true) : Yah dn p p = true → Yah dn p q = true := by
 intro _
 by_cases e : q = p
 ·rw [e]; exact Ydx
 ·rw [Yac e]; exact h
section
variable {w w1 w2 : World} {d a pb : Nat} {s : St} {i : Ins} {M : Mem} {x y : Int} {dn : Nat → Bool}
theorem D9.start (h : Dq w d a pb s i M [] w1) : D9 w d a pb s i M x y (fun _ => false) w1.drew :=
 ⟨fun h => (by cases h), fun h => (by cases h), fun h => (by cases h), fun h => (by cases h), h.drew⟩
theorem D9.same (h : D9 w d a pb s i M x y dn w1) (u : Upd [] w1 w2) (j : Nat) (h1 : 18 ≠ j) (h2 : 19 ≠ j) (h3 : 20 ≠ j) (h4 : 25 ≠ j) (h5 : 28 ≠ j) : D9 w d a pb s i M x y (Yah dn j) w2 :=
 ⟨Yfd h.i1 j h1, Yfd h.i2 j h2, Yfd h.i3 j h3, Yfd h.i4 j h4, by rw [Yac h4, Yac h5]; exact h.q.quiet u⟩
theorem D9.call (h : D9 w d a pb s i M x y dn w1) (u : Upd [] w1 w2) (hd : dn 11 = true) : D9 w d a pb s i M x y (Yah dn 18) w2 :=
 ⟨imp_at hd, Yfd h.i2 18 (by decide), Yfd h.i3 18 (by decide), Yfd h.i4 18 (by decide), by rw [Yac (by decide), Yac (by decide)]; exact h.q.quiet u⟩
theorem D9.c1 (h : D9 w d a pb s i M x y dn w1) (hd : dn 11 = false) : w1.cell? ⟨d, 1, none⟩ = some (.int .u32 (s.R 0)) := by
 have h0 : dn 25 = false := by
  cases e : dn 25 with
  |false => rfl
  |true => rw [h.i4 e] at hd; cases hd
 have := h.q.b.cR 0 (by decide)
 rw [h0, mS_R0] at this
 exact this
structure D6 (w : World) (d a pb : Nat) (s : St) (i : Ins) (M : Mem) (x : Int) (dn : Nat → Bool) (w1 : World) : Prop where
 q : Dq w d a pb (mS s x 0 (dn 6) false) i M [] w1
theorem D6.start (h : Dq w d a pb s i M [] w1) : D6 w d a pb s i M x (fun _ => false) w1.drew := ⟨h.drew⟩
theorem D6.same (h : D6 w d a pb s i M x dn w1) (j : Nat) (hj : 6 ≠ j) : D6 w d a pb s i M x (Yah dn j) w1 := ⟨by rw [Yac hj]; exact h.q⟩
theorem D6.put (h : D6 w d a pb s i M x dn w1) (h0 : dn 6 = false) (hx : 0 ≤ x ∧ x < 4294967296) : D6 w d a pb s i M x (Yah dn 6) (w1.setCell ⟨d, 1, none⟩ (.int .u32 x)) := by
 have hq := h.q
 rw [h0] at hq
 refine ⟨?_⟩
 rw [Ydx, ← mS_first]
 exact hq.next (hq.b.setR 0 (by decide) x hx) ((Upd.refl [d, pb] w1).setCell (p := ⟨d, 1, none⟩) (.inl (by simp)) _)
end
end
theorem Yji (d a pb : Nat) (s : St) (i : Ins) (M : Mem) (w : World) (h : Yv w d a pb s i M) (hk : M.rd8K (s.place i.a) = true) :
  Calls Tryz.prog 69 #[.pointer (some ⟨d, 0, none⟩)] w fun e w' => e = .returned (.int .u64 (M.rd8V (s.place i.a))) ∧ Yv w' d a pb s i M ∧ Upd [d, pb] w w' := by
 have HD := Yh_ (Dq.of h)
 have HP := Yh_ (Ycc s i.a)
 obtain ⟨⟨fk, fp, fa, fw⟩, hF⟩ : ∃ F, M.rd8F (s.place i.a) = F := ⟨_, rfl⟩
 have HF := Yh_ (And.intro hF hk)
 skip
 clear h hk hF
 go_enter Tryz.func69, Tryz.ntmps69
 go_wp2_with fail
 refine Ybj 23 (Dg w d a pb s i M [] _ 19 21 35 (Yp Flt.zero) (Yp ⟨fk, fp, fa, fw⟩)) (fun _ _ => False) (by kernel_rfl) (by decide +kernel) (fun r0 => Dg.start HD.out 19 21 35 (Yp Flt.zero) (Yp ⟨fk, fp, fa, fw⟩) r0) (fun _ _ _ h => h.elim) ?_
 simp only [List.take_succ_cons, List.take_zero, List.drop_succ_cons, List.drop_zero]
 iterate 7
  apply Ye rfl rfl
  ·intro dn r0 K hd hdep hK w5 hB2
   have hB1 := hB2.q
   have c0 : w5.cell? ⟨d, 0, none⟩ = some (.pointer (some ⟨a, 0, none⟩)) := hB1.b.c0; have c20 : w5.cell? ⟨d, 20, none⟩ = some (.int .i64 i.a.k) := hB1.b.cell 20; have c21 : w5.cell? ⟨d, 21, none⟩ = some (.int .i64 i.a.r) := hB1.b.cell 21; have c22 : w5.cell? ⟨d, 22, none⟩ = some (.int .u32 i.a.imm) := hB1.b.cell 22; have c23 : w5.cell? ⟨d, 23, none⟩ = some (.int .i64 i.a.b) := hB1.b.cell 23; have c24 : w5.cell? ⟨d, 24, none⟩ = some (.int .i64 i.a.x) := hB1.b.cell 24; have c25 : w5.cell? ⟨d, 25, none⟩ = some (.int .u32 i.a.sc) := hB1.b.cell 25
   have HB := Yh_ hB2
   clear hB1 hB2 hdep
   go_wp2_with fail
   first
   |exact hK _ (HB.out.same _ (by decide) (by decide))
   |exact HB.out.same _ (by decide) (by decide)
  ·exact ⟨_, rfl⟩
 apply Ye rfl rfl
 ·intro dn r0 K hd hdep hK w5 hB2
  have hB1 := hB2.q
  refine wp_load_mid 28 _ rfl d 1 rfl s.cells.toList _ hB1.b.rs Tryz.underlying28 rfl (by rw [Array.length_toList, St.size]; exact Ya2) ?_
  rw [Array.toArray_toList]
  exact hK _ (hB2.same _ (by decide) (by decide))
 ·exact ⟨_, rfl⟩
 iterate 5
  apply Ye rfl rfl
  ·intro dn r0 K hd hdep hK w5 hB2
   have hB1 := hB2.q
   have c0 : w5.cell? ⟨d, 0, none⟩ = some (.pointer (some ⟨a, 0, none⟩)) := hB1.b.c0; have c20 : w5.cell? ⟨d, 20, none⟩ = some (.int .i64 i.a.k) := hB1.b.cell 20; have c21 : w5.cell? ⟨d, 21, none⟩ = some (.int .i64 i.a.r) := hB1.b.cell 21; have c22 : w5.cell? ⟨d, 22, none⟩ = some (.int .u32 i.a.imm) := hB1.b.cell 22; have c23 : w5.cell? ⟨d, 23, none⟩ = some (.int .i64 i.a.b) := hB1.b.cell 23; have c24 : w5.cell? ⟨d, 24, none⟩ = some (.int .i64 i.a.x) := hB1.b.cell 24; have c25 : w5.cell? ⟨d, 25, none⟩ = some (.int .u32 i.a.sc) := hB1.b.cell 25
   have HB := Yh_ hB2
   clear hB1 hB2 hdep
   go_wp2_with fail
   first
   |exact hK _ (HB.out.same _ (by decide) (by decide))
   |exact HB.out.same _ (by decide) (by decide)
  ·exact ⟨_, rfl⟩
 apply Ye rfl rfl
 ·intro dn r0 K hd hdep hK w5 hB2
  have HB := Yh_ hB2
  clear hB2 hdep
  go_wp2_with (go_at_call 71; refine (Ycj s i.a _).mono ?_; rintro e w6 ⟨rfl, hu⟩)
  first
  |exact hK _ (HB.out.quiet hu _ (by decide) (by decide))
  |exact HB.out.quiet hu _ (by decide) (by decide)
 ·exact ⟨_, rfl⟩
 apply Ye rfl rfl
 ·intro dn r0 K hd hdep hK w5 hB2
  have HB := Yh_ hB2
  clear hB2 hdep
  go_wp2_with (go_at_call 109; refine (Yi6 M a pb (s.place i.a) _ HB.out.q.b.m HP.out.1 HP.out.2).mono ?_; rintro e w6 ⟨rfl, hu⟩; rw [HF.out.1, show M.rd8K (s.place i.a) = _ from HF.out.2]; unfold Flt.val)
  first
  |exact hK _ (HB.out.quiet hu _ (by decide) (by decide))
  |exact HB.out.quiet hu _ (by decide) (by decide)
 ·exact ⟨_, rfl⟩
 iterate 4
  apply Ye rfl rfl
  ·intro dn r0 K hd hdep hK w5 hB2
   have hB1 := hB2.q
   have c0 : w5.cell? ⟨d, 0, none⟩ = some (.pointer (some ⟨a, 0, none⟩)) := hB1.b.c0; have c20 : w5.cell? ⟨d, 20, none⟩ = some (.int .i64 i.a.k) := hB1.b.cell 20; have c21 : w5.cell? ⟨d, 21, none⟩ = some (.int .i64 i.a.r) := hB1.b.cell 21; have c22 : w5.cell? ⟨d, 22, none⟩ = some (.int .u32 i.a.imm) := hB1.b.cell 22; have c23 : w5.cell? ⟨d, 23, none⟩ = some (.int .i64 i.a.b) := hB1.b.cell 23; have c24 : w5.cell? ⟨d, 24, none⟩ = some (.int .i64 i.a.x) := hB1.b.cell 24; have c25 : w5.cell? ⟨d, 25, none⟩ = some (.int .u32 i.a.sc) := hB1.b.cell 25
   have HB := Yh_ hB2
   clear hB1 hB2 hdep
   go_wp2_with fail
   first
   |exact hK _ (HB.out.same _ (by decide) (by decide))
   |exact HB.out.same _ (by decide) (by decide)
  ·exact ⟨_, rfl⟩
 refine Ya8 rfl (fun _ => rfl) 4 rfl (by simp [Act.put]) ?_ ?_
 ·intro dn r0 K hd w5 hB2 hK
  have HB := Yh_ hB2
  clear hB2
  simp only [Yr]
  go_wp2_with fail
  first
  |exact hK (.pointer (some ⟨w5.heap.size, 0, none⟩)) _ (HB.out.lay hd (by decide))
  |exact HB.out.lay hd (by decide)
 iterate 1
  apply Ybm rfl (fun _ => rfl)
  ·intro dn r0 K hd hdep hK w5 hB2
   have hB1 := hB2.q
   have c0 : w5.cell? ⟨d, 0, none⟩ = some (.pointer (some ⟨a, 0, none⟩)) := hB1.b.c0; have c20 : w5.cell? ⟨d, 20, none⟩ = some (.int .i64 i.a.k) := hB1.b.cell 20; have c21 : w5.cell? ⟨d, 21, none⟩ = some (.int .i64 i.a.r) := hB1.b.cell 21; have c22 : w5.cell? ⟨d, 22, none⟩ = some (.int .u32 i.a.imm) := hB1.b.cell 22; have c23 : w5.cell? ⟨d, 23, none⟩ = some (.int .i64 i.a.b) := hB1.b.cell 23; have c24 : w5.cell? ⟨d, 24, none⟩ = some (.int .i64 i.a.x) := hB1.b.cell 24; have c25 : w5.cell? ⟨d, 25, none⟩ = some (.int .u32 i.a.sc) := hB1.b.cell 25
   have HB := Yh_ hB2
   clear hB1 hB2 hdep
   simp only [Yr]
   go_wp2_with fail
   first
   |exact hK _ (HB.out.same _ (by decide) (by decide))
   |exact HB.out.same _ (by decide) (by decide)
  ·exact ⟨_, fun _ => rfl, rfl⟩
 apply Ybm rfl (fun _ => rfl)
 ·intro dn r0 K hd hdep hK w5 hB2
  have h8 : dn 19 = true := hdep ⟨19, .data⟩ (by simp) rfl
  obtain ⟨g0, e1, e2, e3⟩ := hB2.x h8
  refine Yb1 ⟨fk, fp, fa, fw⟩ (if dn 21 = true then ⟨fk, fp, fa, fw⟩ else Flt.zero) g0 _ _ rfl (by show r0 19 = _; exact e1) rfl (by rw [e3]; split <;> rfl) ?_
  exact hK _ (hB2.put h8 e1 (by rintro c (rfl | rfl) <;> rfl) (by decide))
 ·exact ⟨_, fun _ => rfl, rfl⟩
 iterate 1
  apply Ybm rfl (fun _ => rfl)
  ·intro dn r0 K hd hdep hK w5 hB2
   have hB1 := hB2.q
   have c0 : w5.cell? ⟨d, 0, none⟩ = some (.pointer (some ⟨a, 0, none⟩)) := hB1.b.c0; have c20 : w5.cell? ⟨d, 20, none⟩ = some (.int .i64 i.a.k) := hB1.b.cell 20; have c21 : w5.cell? ⟨d, 21, none⟩ = some (.int .i64 i.a.r) := hB1.b.cell 21; have c22 : w5.cell? ⟨d, 22, none⟩ = some (.int .u32 i.a.imm) := hB1.b.cell 22; have c23 : w5.cell? ⟨d, 23, none⟩ = some (.int .i64 i.a.b) := hB1.b.cell 23; have c24 : w5.cell? ⟨d, 24, none⟩ = some (.int .i64 i.a.x) := hB1.b.cell 24; have c25 : w5.cell? ⟨d, 25, none⟩ = some (.int .u32 i.a.sc) := hB1.b.cell 25
   have HB := Yh_ hB2
   clear hB1 hB2 hdep
   simp only [Yr]
   go_wp2_with fail
   first
   |exact hK _ (HB.out.same _ (by decide) (by decide))
   |exact HB.out.same _ (by decide) (by decide)
  ·exact ⟨_, fun _ => rfl, rfl⟩
 refine Ybb (fun _ r0 w6 dn hall hB2 => ?_)
 obtain ⟨g, e1, hB1, hgl⟩ := hB2.fin (hall 19 (by decide))
 rw [hall 21 (by decide), if_pos rfl] at hB1
 show wpList _ _ _ _ (Act.put (Yr _ _ [] _) (some 4) (r0 19)) _
 rw [e1]
 simp only [Yr]
 clear e1 hall hB2
 have cg := Ya hB1.one
 unfold Yp at cg
 dsimp only at cg
 have H6 := Yh_ hB1
 clear hB1 hgl
 go_wp2_with fail
 go_ret
 exact ⟨rfl, H6.out.b, H6.out.u⟩
theorem Yic (d a pb : Nat) (s : St) (i : Ins) (M : Mem) (w : World) (h : Yv w d a pb s i M) (hk : M.rd8K (s.place i.a) = false) :
  Calls Tryz.prog 69 #[.pointer (some ⟨d, 0, none⟩)] w fun e w' => e = .panicked [{ v := .iface 35 (M.rd8F (s.place i.a)).val, recovered := false }] ∧ Ym w' a pb M ∧ Upd [d, pb] w w' := by
 have HD := Yh_ (Dq.of h)
 have HP := Yh_ (Ycc s i.a)
 obtain ⟨⟨fk, fp, fa, fw⟩, hF⟩ : ∃ F, M.rd8F (s.place i.a) = F := ⟨_, rfl⟩
 have HF := Yh_ (And.intro hF hk)
 rw [hF]
 clear h hk hF
 go_enter Tryz.func69, Tryz.ntmps69
 go_wp2_with fail
 refine Ybj 23 (Dg w d a pb s i M [] _ 19 21 35 (Yp Flt.zero) (Yp ⟨fk, fp, fa, fw⟩)) (fun _ _ => False) (by kernel_rfl) (by decide +kernel) (fun r0 => Dg.start HD.out 19 21 35 (Yp Flt.zero) (Yp ⟨fk, fp, fa, fw⟩) r0) (fun _ _ _ h => h.elim) ?_
 simp only [List.take_succ_cons, List.take_zero, List.drop_succ_cons, List.drop_zero]
 iterate 7
  apply Ye rfl rfl
  ·intro dn r0 K hd hdep hK w5 hB2
   have hB1 := hB2.q
   have c0 : w5.cell? ⟨d, 0, none⟩ = some (.pointer (some ⟨a, 0, none⟩)) := hB1.b.c0; have c20 : w5.cell? ⟨d, 20, none⟩ = some (.int .i64 i.a.k) := hB1.b.cell 20; have c21 : w5.cell? ⟨d, 21, none⟩ = some (.int .i64 i.a.r) := hB1.b.cell 21; have c22 : w5.cell? ⟨d, 22, none⟩ = some (.int .u32 i.a.imm) := hB1.b.cell 22; have c23 : w5.cell? ⟨d, 23, none⟩ = some (.int .i64 i.a.b) := hB1.b.cell 23; have c24 : w5.cell? ⟨d, 24, none⟩ = some (.int .i64 i.a.x) := hB1.b.cell 24; have c25 : w5.cell? ⟨d, 25, none⟩ = some (.int .u32 i.a.sc) := hB1.b.cell 25
   have HB := Yh_ hB2
   clear hB1 hB2 hdep
   go_wp2_with fail
   first
   |exact hK _ (HB.out.same _ (by decide) (by decide))
   |exact HB.out.same _ (by decide) (by decide)
  ·exact ⟨_, rfl⟩
 apply Ye rfl rfl
 ·intro dn r0 K hd hdep hK w5 hB2
  have hB1 := hB2.q
  refine wp_load_mid 28 _ rfl d 1 rfl s.cells.toList _ hB1.b.rs Tryz.underlying28 rfl (by rw [Array.length_toList, St.size]; exact Ya2) ?_
  rw [Array.toArray_toList]
  exact hK _ (hB2.same _ (by decide) (by decide))
 ·exact ⟨_, rfl⟩
 iterate 5
  apply Ye rfl rfl
  ·intro dn r0 K hd hdep hK w5 hB2
   have hB1 := hB2.q
   have c0 : w5.cell? ⟨d, 0, none⟩ = some (.pointer (some ⟨a, 0, none⟩)) := hB1.b.c0; have c20 : w5.cell? ⟨d, 20, none⟩ = some (.int .i64 i.a.k) := hB1.b.cell 20; have c21 : w5.cell? ⟨d, 21, none⟩ = some (.int .i64 i.a.r) := hB1.b.cell 21; have c22 : w5.cell? ⟨d, 22, none⟩ = some (.int .u32 i.a.imm) := hB1.b.cell 22; have c23 : w5.cell? ⟨d, 23, none⟩ = some (.int .i64 i.a.b) := hB1.b.cell 23; have c24 : w5.cell? ⟨d, 24, none⟩ = some (.int .i64 i.a.x) := hB1.b.cell 24; have c25 : w5.cell? ⟨d, 25, none⟩ = some (.int .u32 i.a.sc) := hB1.b.cell 25
   have HB := Yh_ hB2
   clear hB1 hB2 hdep
   go_wp2_with fail
   first
   |exact hK _ (HB.out.same _ (by decide) (by decide))
   |exact HB.out.same _ (by decide) (by decide)
  ·exact ⟨_, rfl⟩
 apply Ye rfl rfl
 ·intro dn r0 K hd hdep hK w5 hB2
  have HB := Yh_ hB2
  clear hB2 hdep
  go_wp2_with (go_at_call 71; refine (Ycj s i.a _).mono ?_; rintro e w6 ⟨rfl, hu⟩)
  first
  |exact hK _ (HB.out.quiet hu _ (by decide) (by decide))
  |exact HB.out.quiet hu _ (by decide) (by decide)
 ·exact ⟨_, rfl⟩
 apply Ye rfl rfl
 ·intro dn r0 K hd hdep hK w5 hB2
  have HB := Yh_ hB2
  clear hB2 hdep
  go_wp2_with (go_at_call 109; refine (Yi6 M a pb (s.place i.a) _ HB.out.q.b.m HP.out.1 HP.out.2).mono ?_; rintro e w6 ⟨rfl, hu⟩; rw [HF.out.1, show M.rd8K (s.place i.a) = _ from HF.out.2]; unfold Flt.val)
  first
  |exact hK _ (HB.out.quiet hu _ (by decide) (by decide))
  |exact HB.out.quiet hu _ (by decide) (by decide)
 ·exact ⟨_, rfl⟩
 iterate 4
  apply Ye rfl rfl
  ·intro dn r0 K hd hdep hK w5 hB2
   have hB1 := hB2.q
   have c0 : w5.cell? ⟨d, 0, none⟩ = some (.pointer (some ⟨a, 0, none⟩)) := hB1.b.c0; have c20 : w5.cell? ⟨d, 20, none⟩ = some (.int .i64 i.a.k) := hB1.b.cell 20; have c21 : w5.cell? ⟨d, 21, none⟩ = some (.int .i64 i.a.r) := hB1.b.cell 21; have c22 : w5.cell? ⟨d, 22, none⟩ = some (.int .u32 i.a.imm) := hB1.b.cell 22; have c23 : w5.cell? ⟨d, 23, none⟩ = some (.int .i64 i.a.b) := hB1.b.cell 23; have c24 : w5.cell? ⟨d, 24, none⟩ = some (.int .i64 i.a.x) := hB1.b.cell 24; have c25 : w5.cell? ⟨d, 25, none⟩ = some (.int .u32 i.a.sc) := hB1.b.cell 25
   have HB := Yh_ hB2
   clear hB1 hB2 hdep
   go_wp2_with fail
   first
   |exact hK _ (HB.out.same _ (by decide) (by decide))
   |exact HB.out.same _ (by decide) (by decide)
  ·exact ⟨_, rfl⟩
 refine Ya8 rfl (fun _ => rfl) 4 rfl (by simp [Act.put]) ?_ ?_
 ·intro dn r0 K hd w5 hB2 hK
  have HB := Yh_ hB2
  clear hB2
  simp only [Yr]
  go_wp2_with fail
  first
  |exact hK (.pointer (some ⟨w5.heap.size, 0, none⟩)) _ (HB.out.lay hd (by decide))
  |exact HB.out.lay hd (by decide)
 iterate 1
  apply Ybm rfl (fun _ => rfl)
  ·intro dn r0 K hd hdep hK w5 hB2
   have hB1 := hB2.q
   have c0 : w5.cell? ⟨d, 0, none⟩ = some (.pointer (some ⟨a, 0, none⟩)) := hB1.b.c0; have c20 : w5.cell? ⟨d, 20, none⟩ = some (.int .i64 i.a.k) := hB1.b.cell 20; have c21 : w5.cell? ⟨d, 21, none⟩ = some (.int .i64 i.a.r) := hB1.b.cell 21; have c22 : w5.cell? ⟨d, 22, none⟩ = some (.int .u32 i.a.imm) := hB1.b.cell 22; have c23 : w5.cell? ⟨d, 23, none⟩ = some (.int .i64 i.a.b) := hB1.b.cell 23; have c24 : w5.cell? ⟨d, 24, none⟩ = some (.int .i64 i.a.x) := hB1.b.cell 24; have c25 : w5.cell? ⟨d, 25, none⟩ = some (.int .u32 i.a.sc) := hB1.b.cell 25
   have HB := Yh_ hB2
   clear hB1 hB2 hdep
   simp only [Yr]
   go_wp2_with fail
   first
   |exact hK _ (HB.out.same _ (by decide) (by decide))
   |exact HB.out.same _ (by decide) (by decide)
  ·exact ⟨_, fun _ => rfl, rfl⟩
 apply Ybm rfl (fun _ => rfl)
 ·intro dn r0 K hd hdep hK w5 hB2
  have h8 : dn 19 = true := hdep ⟨19, .data⟩ (by simp) rfl
  obtain ⟨g0, e1, e2, e3⟩ := hB2.x h8
  refine Yb1 ⟨fk, fp, fa, fw⟩ (if dn 21 = true then ⟨fk, fp, fa, fw⟩ else Flt.zero) g0 _ _ rfl (by show r0 19 = _; exact e1) rfl (by rw [e3]; split <;> rfl) ?_
  exact hK _ (hB2.put h8 e1 (by rintro c (rfl | rfl) <;> rfl) (by decide))
 ·exact ⟨_, fun _ => rfl, rfl⟩
 iterate 1
  apply Ybm rfl (fun _ => rfl)
  ·intro dn r0 K hd hdep hK w5 hB2
   have hB1 := hB2.q
   have c0 : w5.cell? ⟨d, 0, none⟩ = some (.pointer (some ⟨a, 0, none⟩)) := hB1.b.c0; have c20 : w5.cell? ⟨d, 20, none⟩ = some (.int .i64 i.a.k) := hB1.b.cell 20; have c21 : w5.cell? ⟨d, 21, none⟩ = some (.int .i64 i.a.r) := hB1.b.cell 21; have c22 : w5.cell? ⟨d, 22, none⟩ = some (.int .u32 i.a.imm) := hB1.b.cell 22; have c23 : w5.cell? ⟨d, 23, none⟩ = some (.int .i64 i.a.b) := hB1.b.cell 23; have c24 : w5.cell? ⟨d, 24, none⟩ = some (.int .i64 i.a.x) := hB1.b.cell 24; have c25 : w5.cell? ⟨d, 25, none⟩ = some (.int .u32 i.a.sc) := hB1.b.cell 25
   have HB := Yh_ hB2
   clear hB1 hB2 hdep
   simp only [Yr]
   go_wp2_with fail
   first
   |exact hK _ (HB.out.same _ (by decide) (by decide))
   |exact HB.out.same _ (by decide) (by decide)
  ·exact ⟨_, fun _ => rfl, rfl⟩
 refine Ybb (fun _ r0 w6 dn hall hB2 => ?_)
 obtain ⟨g, e1, hB1, hgl⟩ := hB2.fin (hall 19 (by decide))
 rw [hall 21 (by decide), if_pos rfl] at hB1
 show wpList _ _ _ _ (Act.put (Yr _ _ [] _) (some 4) (r0 19)) _
 rw [e1]
 simp only [Yr]
 clear e1 hall hB2
 have cg := Ya hB1.one
 unfold Yp at cg
 dsimp only at cg
 have H6 := Yh_ hB1
 clear hB1 hgl
 go_wp2_with fail
 exact ⟨rfl, rfl, H6.out.b.m, H6.out.u⟩
section
def cS (s : St) (z p : Bool) (b1 b2 : Bool) : St := { s with zf := cond b1 z s.zf, pf := cond b2 p s.pf }
structure D21 (w : World) (d a pb : Nat) (s : St) (i : Ins) (M : Mem) (z p : Bool) (dn : Nat → Bool) (w1 : World) : Prop where
 q : Dq w d a pb (cS s z p (dn 17) (dn 21)) i M [] w1
def mM (M M2 : Mem) (b : Bool) : Mem := cond b M2 M
structure D5 (w : World) (d a pb : Nat) (s : St) (i : Ins) (M M2 : Mem) (n0 : Nat) (V : Array Value) (dn : Nat → Bool) (r : Nat → Value) (w1 : World) : Prop where
 q : Dq w d a pb s i (mM M M2 (dn 17)) [] w1
 b : n0 ≤ w1.heap.size
 lt : (d < n0 ∧ a < n0 ∧ pb < n0) ∧ w.heap.size ≤ n0
 x : dn 21 = true → ∃ g, r 21 = .pointer (some ⟨g, 0, none⟩) ∧ n0 ≤ g ∧ w1.heap[g]? = some (.cells (if dn 22 = true then V else Yp Flt.zero) 35 (0, 0))
 xo : dn 22 = true → dn 21 = true
section
variable {w w1 w2 : World} {d a pb n0 : Nat} {s : St} {i : Ins} {M M2 : Mem} {z p : Bool} {V : Array Value} {dn : Nat → Bool} {r : Nat → Value}
theorem D21.start (h : Dq w d a pb s i M [] w1) : D21 w d a pb s i M z p (fun _ => false) w1.drew := ⟨h.drew⟩
theorem D21.quiet (h : D21 w d a pb s i M z p dn w1) (u : Upd [] w1 w2) (j : Nat) (h1 : 17 ≠ j) (h2 : 21 ≠ j) : D21 w d a pb s i M z p (Yah dn j) w2 := ⟨by rw [Yac h1, Yac h2]; exact h.q.quiet u⟩
theorem D21.next (h : D21 w d a pb s i M z p dn w1) (hd : Yv w2 d a pb (cS s z p (dn 17) (dn 21)) i M) (u : Upd [d, pb] w1 w2) (j : Nat) (h1 : 17 ≠ j) (h2 : 21 ≠ j) : D21 w d a pb s i M z p (Yah dn j) w2 := ⟨by rw [Yac h1, Yac h2]; exact h.q.next hd u⟩
theorem D5.start (h : Dq w d a pb s i M [] w1) (M2 : Mem) (V : Array Value) (r : Nat → Value) : D5 w d a pb s i M M2 w1.heap.size V (fun _ => false) r w1.drew :=
 ⟨h.drew, ((Upd.refl [] w1).drew).size, ⟨⟨h.lts.1, h.lts.2.1, h.lts.2.2.1⟩, h.u.size⟩, fun h => (by cases h), fun h => (by cases h)⟩
theorem D5.quiet (h : D5 w d a pb s i M M2 n0 V dn r w1) (u : Upd [] w1 w2) (j : Nat) (h0 : 17 ≠ j) (h1 : 21 ≠ j) (h2 : 22 ≠ j) : D5 w d a pb s i M M2 n0 V (Yah dn j) r w2 := by
 refine ⟨by rw [Yac h0]; exact h.q.quiet u, Nat.le_trans h.b u.size, h.lt, fun hx => ?_, fun hx => ?_⟩
 ·rw [Yac h1] at hx
  obtain ⟨g, e1, e2, e3⟩ := h.x hx
  exact ⟨g, e1, e2, by rw [Yac h2]; exact u.get e3 (by simp)⟩
 ·rw [Yac h2] at hx; rw [Yac h1]; exact h.xo hx
theorem D5.same (h : D5 w d a pb s i M M2 n0 V dn r w1) (j : Nat) (h0 : 17 ≠ j) (h1 : 21 ≠ j) (h2 : 22 ≠ j) : D5 w d a pb s i M M2 n0 V (Yah dn j) r w1 := h.quiet (Upd.refl [] w1) j h0 h1 h2
theorem D5.call (h : D5 w d a pb s i M M2 n0 V dn r w1) (hm : Ym w2 a pb M2) (u : Upd [pb] w1 w2) : D5 w d a pb s i M M2 n0 V (Yah dn 17) r w2 := by
 have hl := h.lt
 refine ⟨by rw [Ydx]; exact h.q.next (h.q.b.mem u hm) (u.mono (by simp)), Nat.le_trans h.b u.size, h.lt, fun hx => ?_, fun hx => ?_⟩
 ·rw [Yac (by decide)] at hx
  obtain ⟨g, e1, e2, e3⟩ := h.x hx
  exact ⟨g, e1, e2, by rw [Yac (by decide)]; exact u.get e3 (by simp; omega)⟩
 ·rw [Yac (by decide)] at hx; rw [Yac (by decide)]; exact h.xo hx
theorem D5.lay (h : D5 w d a pb s i M M2 n0 V dn r w1) (hd : dn 21 = false) : D5 w d a pb s i M M2 n0 V (Yah dn 21) (Yc2 r 21 (.pointer (some ⟨w1.heap.size, 0, none⟩))) (w1.alloc (.cells (Yp Flt.zero) 35)) := by
 have hdm : dn 22 = false := by
  cases e : dn 22 with
  |false => rfl
  |true => rw [h.xo e] at hd; cases hd
 have u := (Upd.refl [] w1).alloc (.cells (Yp Flt.zero) 35)
 refine ⟨by rw [Yac (by decide)]; exact h.q.quiet u, Nat.le_trans h.b u.size, h.lt, fun _ => ⟨_, Yhb, h.b, ?_⟩, fun _ => Ydx⟩
 rw [Yac (by decide), hdm]
 exact heap_alloc_new _ _
theorem D5.put (h : D5 w d a pb s i M M2 n0 V dn r w1) (hd : dn 21 = true) {g : Nat} (e1 : r 21 = .pointer (some ⟨g, 0, none⟩)) (hv : ∀ c, (c = V ∨ c = Yp Flt.zero) → wr c 0 V.toList = V) : D5 w d a pb s i M M2 n0 V (Yah dn 22) r (w1.setCells g 0 V.toList) := by
 obtain ⟨g', e1', e2, e3⟩ := h.x hd
 obtain rfl : g' = g := by rw [e1] at e1'; injection e1' with e; injection e with e; injection e with e; exact e.symm
 have u := (Upd.refl [g'] w1).setCells (q := g') (.inl (by simp)) V.toList 0
 have hl := h.lt.1
 refine ⟨by rw [Yac (by decide)]; exact ⟨h.q.b.keep u (by simp; omega) (by simp; omega) (by simp; omega), by simp, h.q.u.also u (fun x hx => .inr (by rw [List.mem_singleton.1 hx]; exact Nat.le_trans h.lt.2 e2)), by simp⟩, Nat.le_trans h.b u.size, h.lt, fun _ => ⟨g', e1, e2, ?_⟩, fun _ => by rw [Yac (by decide)]; exact hd⟩
 rw [Ydx, if_pos rfl, Yai _ _ _ _ e3, hv _ (by split <;> simp)]
end
theorem rd8V_bd {w : World} {a pb : Nat} {M : Mem} (h : Ym w a pb M) (x : Int) : 0 ≤ M.rd8V x ∧ M.rd8V x < 18446744073709551616 := by
 unfold Mem.rd8V
 have h1 := Ydw h x 4 1
 have h2 := Ydw h (Yn x 4) 4 1
 split <;> omega
theorem Ypd (d a pb : Nat) (s : St) (i : Ins) (M : Mem) (w : World) (h : Yv w d a pb s i M) (hop : i.op = 45) (hk : M.rd8K (s.place i.a) = true) :
  Calls Tryz.prog 52 #[.pointer (some ⟨d, 0, none⟩)] w fun e w' => e = .returned (.tuple #[]) ∧ Yv w' d a pb ({ s with f := (M.rd8V (s.place i.a)) }) i (M) ∧ Upd [d, pb] w w' := by
 have HD := Yh_ (Dq.of h)
 have HO := Yh_ hop
 have c18 : w.cell? ⟨d, 18, none⟩ = some (.int .i64 45) := by rw [← hop]; exact h.cell 18
 have c17 : w.cell? ⟨d, 17, none⟩ = some (.int .u64 s.f) := h.cell 17
 have HK := Yh_ hk
 clear hk
 have HV := Yh_ (rd8V_bd h.m (s.place i.a))
 clear h hop
 go_enter Tryz.func52, Tryz.ntmps52
 go_wp2_with (have _t := HD; clear _t; go_at_call 69; refine (Yji d a pb s i M _ HD.out.b HK.out).mono ?_; rintro e w5 ⟨rfl, hd, hu⟩; have H5 := Yh_ (HD.out.next hd hu); clear hd hu c17 c18 HD; have c17 : w5.cell? ⟨d, 17, none⟩ = some (.int .u64 s.f) := H5.out.b.cell 17; have f17 := H5.out.b.free)
 go_end0
 exact ⟨rfl, H5.out.b.set (s' := { s with f := (M.rd8V (s.place i.a)) }) (o := 17) rfl ⟨H5.out.b.ok.R, H5.out.b.ok.pc, HV.out⟩, H5.out.u.setCell (p := ⟨d, 17, none⟩) (.inl (by simp)) _⟩
theorem Ylz (d a pb : Nat) (s : St) (i : Ins) (M : Mem) (w : World) (h : Yv w d a pb s i M) (hop : i.op = 45) (hk : M.rd8K (s.place i.a) = false) :
  Calls Tryz.prog 52 #[.pointer (some ⟨d, 0, none⟩)] w fun e w' => e = .panicked [{ v := .iface 35 (M.rd8F (s.place i.a)).val, recovered := false }] ∧ Ym w' a pb (M) ∧ Upd [d, pb] w w' := by
 have HD := Yh_ (Dq.of h)
 have HO := Yh_ hop
 have c18 : w.cell? ⟨d, 18, none⟩ = some (.int .i64 45) := by rw [← hop]; exact h.cell 18
 have c17 : w.cell? ⟨d, 17, none⟩ = some (.int .u64 s.f) := h.cell 17
 have HK := Yh_ hk
 clear hk
 clear h hop
 go_enter Tryz.func52, Tryz.ntmps52
 go_wp2_with (have _t := HD; clear _t; go_at_call 69; refine (Yic d a pb s i M _ HD.out.b HK.out).mono ?_; rintro e w5 ⟨rfl, hd, hu⟩; have H5 := Yh_ (And.intro hd (HD.out.u.also hu (fun x hx => .inl hx))); clear hd hu)
 exact ⟨rfl, rfl, H5.out.1, H5.out.2⟩
theorem Yo7 (d a pb : Nat) (s : St) (i : Ins) (M : Mem) (w : World) (h : Yv w d a pb s i M) (hop : i.op = 51) :
  Calls Tryz.prog 52 #[.pointer (some ⟨d, 0, none⟩)] w fun e w' => e = .returned (.tuple #[]) ∧ Yv w' d a pb ({ s with f := Yea s.f }) i (M) ∧ Upd [d, pb] w w' := by
 have HD := Yh_ (Dq.of h)
 have HO := Yh_ hop
 have c18 : w.cell? ⟨d, 18, none⟩ = some (.int .i64 51) := by rw [← hop]; exact h.cell 18
 have c17 : w.cell? ⟨d, 17, none⟩ = some (.int .u64 s.f) := h.cell 17
 have f17 := h.free
 clear h hop
 go_enter Tryz.func52, Tryz.ntmps52
 go_wp2_with (go_at_call 76; refine (fl_Neg s.f _).mono ?_; rintro e w6 ⟨rfl, rfl⟩)
 go_end0
 exact ⟨rfl, HD.out.b.set (s' := { s with f := Yea s.f }) (o := 17) rfl ⟨HD.out.b.ok.R, HD.out.b.ok.pc, Ymd _⟩, HD.out.u.setCell (p := ⟨d, 17, none⟩) (.inl (by simp)) _⟩
theorem Ypf (d a pb : Nat) (s : St) (i : Ins) (M : Mem) (w : World) (h : Yv w d a pb s i M) (hop : i.op = 49) (hk : M.rd8K (s.place i.a) = true) :
  Calls Tryz.prog 52 #[.pointer (some ⟨d, 0, none⟩)] w fun e w' => e = .returned (.tuple #[]) ∧ Yv w' d a pb ({ s with f := (Ydy .sub s.f.toNat (M.rd8V (s.place i.a)).toNat) }) i (M) ∧ Upd [d, pb] w w' := by
 have HD := Yh_ (Dq.of h)
 have HO := Yh_ hop
 have c18 : w.cell? ⟨d, 18, none⟩ = some (.int .i64 49) := by rw [← hop]; exact h.cell 18
 have c17 : w.cell? ⟨d, 17, none⟩ = some (.int .u64 s.f) := h.cell 17
 have HK := Yh_ hk
 clear hk
 clear h hop
 go_enter Tryz.func52, Tryz.ntmps52
 go_wp2_with fail
 refine Yax 10 (Dq w d a pb s i M []) (fun _ _ => False) (by kernel_rfl) (by decide +kernel) HD.out.drew (fun _ _ _ h => h.elim) ?_
 simp only [List.take_succ_cons, List.take_zero, List.drop_succ_cons, List.drop_zero]
 iterate 6
  apply Yab rfl rfl
  ·intro K hK w5 hB1
   have c17 : w5.cell? ⟨d, 17, none⟩ = some (.int .u64 s.f) := hB1.b.cell 17
   have HB := Yh_ hB1
   clear hB1
   go_wp2_with fail
   first
   |exact hK _ HB.out
   |exact HB.out
  ·exact ⟨_, rfl⟩
 apply Yab rfl rfl
 ·intro K hK w5 hB1
  have HB := Yh_ hB1
  clear hB1
  go_wp2_with (go_at_call 69; refine (Yji d a pb s i M _ HB.out.b HK.out).mono ?_; rintro e w6 ⟨rfl, hd6, hu⟩)
  first
  |exact hK _ (HB.out.next hd6 hu)
  |exact (HB.out.next hd6 hu)
 ·exact ⟨_, rfl⟩
 apply Yab rfl rfl
 ·intro K hK w5 hB1
  have HB := Yh_ hB1
  clear hB1
  go_wp2_with (go_at_call 73; refine (fl_Sub s.f (M.rd8V (s.place i.a)) _).mono ?_; rintro e w6 ⟨rfl, hu⟩)
  first
  |exact hK _ (HB.out.quiet hu)
  |exact HB.out.quiet hu
 ·exact ⟨_, rfl⟩
 iterate 2
  apply Yab rfl rfl
  ·intro K hK w5 hB1
   have c17 : w5.cell? ⟨d, 17, none⟩ = some (.int .u64 s.f) := hB1.b.cell 17
   have HB := Yh_ hB1
   clear hB1
   go_wp2_with fail
   first
   |exact hK _ HB.out
   |exact HB.out
  ·exact ⟨_, rfl⟩
 refine Yal (fun _ w6 hB1 => ?_)
 have c17 : w6.cell? ⟨d, 17, none⟩ = some (.int .u64 s.f) := hB1.b.cell 17
 have f17 := hB1.b.free
 have H6 := Yh_ hB1
 clear hB1
 go_wp2_with fail
 go_end0
 exact ⟨rfl, H6.out.b.set (s' := { s with f := (Ydy .sub s.f.toNat (M.rd8V (s.place i.a)).toNat) }) (o := 17) rfl ⟨H6.out.b.ok.R, H6.out.b.ok.pc, flDo_bd _ _ _⟩, H6.out.u.setCell (p := ⟨d, 17, none⟩) (.inl (by simp)) _⟩
theorem Ynj (d a pb : Nat) (s : St) (i : Ins) (M : Mem) (w : World) (h : Yv w d a pb s i M) (hop : i.op = 49) (hk : M.rd8K (s.place i.a) = false) :
  Calls Tryz.prog 52 #[.pointer (some ⟨d, 0, none⟩)] w fun e w' => e = .panicked [{ v := .iface 35 (M.rd8F (s.place i.a)).val, recovered := false }] ∧ Ym w' a pb (M) ∧ Upd [d, pb] w w' := by
 have HD := Yh_ (Dq.of h)
 have HO := Yh_ hop
 have c18 : w.cell? ⟨d, 18, none⟩ = some (.int .i64 49) := by rw [← hop]; exact h.cell 18
 have c17 : w.cell? ⟨d, 17, none⟩ = some (.int .u64 s.f) := h.cell 17
 have HK := Yh_ hk
 clear hk
 clear h hop
 go_enter Tryz.func52, Tryz.ntmps52
 go_wp2_with fail
 refine Yax 10 (Dq w d a pb s i M []) (fun c w6 => c = [{ v := .iface 35 (M.rd8F (s.place i.a)).val, recovered := false }] ∧ Ym w6 a pb M ∧ Upd [d, pb] w w6) (by kernel_rfl) (by decide +kernel) HD.out.drew (fun c a6 w6 h hd6 _ _ => And.intro hd6 (by obtain ⟨h1, h2, h3⟩ := h; subst h1; exact ⟨rfl, h2, h3⟩)) ?_
 simp only [List.take_succ_cons, List.take_zero, List.drop_succ_cons, List.drop_zero]
 iterate 6
  apply Yab rfl rfl
  ·intro K hK w5 hB1
   have c17 : w5.cell? ⟨d, 17, none⟩ = some (.int .u64 s.f) := hB1.b.cell 17
   have HB := Yh_ hB1
   clear hB1
   go_wp2_with fail
   first
   |exact hK _ HB.out
   |exact HB.out
  ·exact ⟨_, rfl⟩
 refine Ye4 rfl rfl ?_ ?_
 ·intro w5 hB1
  have HB := Yh_ hB1
  clear hB1
  go_wp2_with (go_at_call 69; refine (Yic d a pb s i M _ HB.out.b HK.out).mono ?_; rintro e w6 ⟨rfl, hd6, hu⟩)
  first
  |exact ⟨rfl, hd6, HB.out.u.also hu (fun x hx => .inl hx)⟩
  |exact ⟨rfl, rfl, hd6, HB.out.u.also hu (fun x hx => .inl hx)⟩
 first
 |(apply Ydt rfl)
 |(
  apply Yab rfl rfl
  ·intro K hK w5 hB1
   have c17 : w5.cell? ⟨d, 17, none⟩ = some (.int .u64 s.f) := hB1.b.cell 17
   have HB := Yh_ hB1
   clear hB1
   go_wp2_with fail
   first
   |exact hK _ HB.out
   |exact HB.out
  ·exact ⟨_, rfl⟩
  )
 first
 |(apply Ydt rfl)
 |(
  apply Yab rfl rfl
  ·intro K hK w5 hB1
   have c17 : w5.cell? ⟨d, 17, none⟩ = some (.int .u64 s.f) := hB1.b.cell 17
   have HB := Yh_ hB1
   clear hB1
   go_wp2_with fail
   first
   |exact hK _ HB.out
   |exact HB.out
  ·exact ⟨_, rfl⟩
  )
 first
 |(apply Ydt rfl)
 |(
  apply Yab rfl rfl
  ·intro K hK w5 hB1
   have c17 : w5.cell? ⟨d, 17, none⟩ = some (.int .u64 s.f) := hB1.b.cell 17
   have HB := Yh_ hB1
   clear hB1
   go_wp2_with fail
   first
   |exact hK _ HB.out
   |exact HB.out
  ·exact ⟨_, rfl⟩
  )
 refine Yal (fun hdead => by cases hdead)
theorem Yoz (d a pb : Nat) (s : St) (i : Ins) (M : Mem) (w : World) (h : Yv w d a pb s i M) (hop : i.op = 46) (hk : M.canK (s.place i.a) 8 2 = true) :
  Calls Tryz.prog 52 #[.pointer (some ⟨d, 0, none⟩)] w fun e w' => e = .returned (.tuple #[]) ∧ Yv w' d a pb (s) i ((M.wr8M (s.place i.a) s.f)) ∧ Upd [d, pb] w w' := by
 have HD := Yh_ (Dq.of h)
 have HO := Yh_ hop
 have c18 : w.cell? ⟨d, 18, none⟩ = some (.int .i64 46) := by rw [← hop]; exact h.cell 18
 have c17 : w.cell? ⟨d, 17, none⟩ = some (.int .u64 s.f) := h.cell 17
 have HK := Yh_ hk
 clear hk
 have HP := Yh_ (And.intro (Ycc s i.a) h.ok.f)
 obtain ⟨⟨fk, fp, fa, fw⟩, hF⟩ : ∃ F, M.canF (s.place i.a) 8 2 = F := ⟨_, rfl⟩
 have HF := Yh_ hF
 skip
 clear hF
 clear h hop
 go_enter Tryz.func52, Tryz.ntmps52
 go_wp2_with fail
 refine Ybj 24 (D5 w d a pb s i M (M.wr8M (s.place i.a) s.f) _ (Yp ⟨fk, fp, fa, fw⟩)) (fun _ _ => False) (by kernel_rfl) (by decide +kernel) (fun r0 => D5.start HD.out (M.wr8M (s.place i.a) s.f) (Yp ⟨fk, fp, fa, fw⟩) r0) (fun _ _ _ h => h.elim) ?_
 simp only [List.take_succ_cons, List.take_zero, List.drop_succ_cons, List.drop_zero]
 apply Ye rfl rfl
 ·intro dn r0 K hd hdep hK w5 hB1
  skip
  have HB := Yh_ hB1
  clear hB1 hdep
  go_wp2_with fail
  first
  |exact hK _ (HB.out.same _ (by decide) (by decide) (by decide))
  |exact (HB.out.same _ (by decide) (by decide) (by decide))
 ·exact ⟨_, rfl⟩
 apply Ye rfl rfl
 ·intro dn r0 K hd hdep hK w5 hB1
  skip
  have HB := Yh_ hB1
  clear hB1 hdep
  go_wp2_with fail
  first
  |exact hK _ (HB.out.same _ (by decide) (by decide) (by decide))
  |exact (HB.out.same _ (by decide) (by decide) (by decide))
 ·exact ⟨_, rfl⟩
 apply Ye rfl rfl
 ·intro dn r0 K hd hdep hK w5 hB1
  skip
  have HB := Yh_ hB1
  clear hB1 hdep
  go_wp2_with fail
  first
  |exact hK _ (HB.out.same _ (by decide) (by decide) (by decide))
  |exact (HB.out.same _ (by decide) (by decide) (by decide))
 ·exact ⟨_, rfl⟩
 apply Ye rfl rfl
 ·intro dn r0 K hd hdep hK w5 hB1
  have c0 : w5.cell? ⟨d, 0, none⟩ = some (.pointer (some ⟨a, 0, none⟩)) := hB1.q.b.c0
  have HB := Yh_ hB1
  clear hB1 hdep
  go_wp2_with fail
  first
  |exact hK _ (HB.out.same _ (by decide) (by decide) (by decide))
  |exact (HB.out.same _ (by decide) (by decide) (by decide))
 ·exact ⟨_, rfl⟩
 apply Ye rfl rfl
 ·intro dn r0 K hd hdep hK w5 hB1
  skip
  have HB := Yh_ hB1
  clear hB1 hdep
  go_wp2_with fail
  first
  |exact hK _ (HB.out.same _ (by decide) (by decide) (by decide))
  |exact (HB.out.same _ (by decide) (by decide) (by decide))
 ·exact ⟨_, rfl⟩
 apply Ye rfl rfl
 ·intro dn r0 K hd hdep hK w5 hB1
  skip
  have HB := Yh_ hB1
  clear hB1 hdep
  go_wp2_with fail
  first
  |exact hK _ (HB.out.same _ (by decide) (by decide) (by decide))
  |exact (HB.out.same _ (by decide) (by decide) (by decide))
 ·exact ⟨_, rfl⟩
 apply Ye rfl rfl
 ·intro dn r0 K hd hdep hK w5 hB2
  have hB1 := hB2.q
  refine wp_load_mid 28 _ rfl d 1 rfl s.cells.toList _ hB1.b.rs Tryz.underlying28 rfl (by rw [Array.length_toList, St.size]; exact Ya2) ?_
  rw [Array.toArray_toList]
  exact hK _ (hB2.same _ (by decide) (by decide) (by decide))
 ·exact ⟨_, rfl⟩
 apply Ye rfl rfl
 ·intro dn r0 K hd hdep hK w5 hB1
  skip
  have HB := Yh_ hB1
  clear hB1 hdep
  go_wp2_with fail
  first
  |exact hK _ (HB.out.same _ (by decide) (by decide) (by decide))
  |exact (HB.out.same _ (by decide) (by decide) (by decide))
 ·exact ⟨_, rfl⟩
 apply Ye rfl rfl
 ·intro dn r0 K hd hdep hK w5 hB1
  skip
  have HB := Yh_ hB1
  clear hB1 hdep
  go_wp2_with fail
  first
  |exact hK _ (HB.out.same _ (by decide) (by decide) (by decide))
  |exact (HB.out.same _ (by decide) (by decide) (by decide))
 ·exact ⟨_, rfl⟩
 apply Ye rfl rfl
 ·intro dn r0 K hd hdep hK w5 hB1
  skip
  have HB := Yh_ hB1
  clear hB1 hdep
  go_wp2_with fail
  first
  |exact hK _ (HB.out.same _ (by decide) (by decide) (by decide))
  |exact (HB.out.same _ (by decide) (by decide) (by decide))
 ·exact ⟨_, rfl⟩
 apply Ye rfl rfl
 ·intro dn r0 K hd hdep hK w5 hB1
  skip
  have HB := Yh_ hB1
  clear hB1 hdep
  go_wp2_with fail
  first
  |exact hK _ (HB.out.same _ (by decide) (by decide) (by decide))
  |exact (HB.out.same _ (by decide) (by decide) (by decide))
 ·exact ⟨_, rfl⟩
 apply Ye rfl rfl
 ·intro dn r0 K hd hdep hK w5 hB1
  have c20 : w5.cell? ⟨d, 20, none⟩ = some (.int .i64 i.a.k) := hB1.q.b.cell 20; have c21 : w5.cell? ⟨d, 21, none⟩ = some (.int .i64 i.a.r) := hB1.q.b.cell 21; have c22 : w5.cell? ⟨d, 22, none⟩ = some (.int .u32 i.a.imm) := hB1.q.b.cell 22; have c23 : w5.cell? ⟨d, 23, none⟩ = some (.int .i64 i.a.b) := hB1.q.b.cell 23; have c24 : w5.cell? ⟨d, 24, none⟩ = some (.int .i64 i.a.x) := hB1.q.b.cell 24; have c25 : w5.cell? ⟨d, 25, none⟩ = some (.int .u32 i.a.sc) := hB1.q.b.cell 25
  have HB := Yh_ hB1
  clear hB1 hdep
  go_wp2_with fail
  first
  |exact hK _ (HB.out.same _ (by decide) (by decide) (by decide))
  |exact (HB.out.same _ (by decide) (by decide) (by decide))
 ·exact ⟨_, rfl⟩
 apply Ye rfl rfl
 ·intro dn r0 K hd hdep hK w5 hB1
  skip
  have HB := Yh_ hB1
  clear hB1 hdep
  go_wp2_with (go_at_call 71; refine (Ycj s i.a _).mono ?_; rintro e w6 ⟨rfl, hu⟩)
  first
  |exact hK _ (HB.out.quiet hu _ (by decide) (by decide) (by decide))
  |exact (HB.out.quiet hu _ (by decide) (by decide) (by decide))
 ·exact ⟨_, rfl⟩
 apply Ye rfl rfl
 ·intro dn r0 K hd hdep hK w5 hB1
  skip
  have HB := Yh_ hB1
  clear hB1 hdep
  go_wp2_with fail
  first
  |exact hK _ (HB.out.same _ (by decide) (by decide) (by decide))
  |exact (HB.out.same _ (by decide) (by decide) (by decide))
 ·exact ⟨_, rfl⟩
 apply Ye rfl rfl
 ·intro dn r0 K hd hdep hK w5 hB1
  skip
  have HB := Yh_ hB1
  clear hB1 hdep
  go_wp2_with fail
  first
  |exact hK _ (HB.out.same _ (by decide) (by decide) (by decide))
  |exact (HB.out.same _ (by decide) (by decide) (by decide))
 ·exact ⟨_, rfl⟩
 apply Ye rfl rfl
 ·intro dn r0 K hd hdep hK w5 hB1
  skip
  have HB := Yh_ hB1
  clear hB1 hdep
  go_wp2_with fail
  first
  |exact hK _ (HB.out.same _ (by decide) (by decide) (by decide))
  |exact (HB.out.same _ (by decide) (by decide) (by decide))
 ·exact ⟨_, rfl⟩
 apply Ye rfl rfl
 ·intro dn r0 K hd hdep hK w5 hB1
  have c17 : w5.cell? ⟨d, 17, none⟩ = some (.int .u64 s.f) := hB1.q.b.cell 17
  have HB := Yh_ hB1
  clear hB1 hdep
  go_wp2_with fail
  first
  |exact hK _ (HB.out.same _ (by decide) (by decide) (by decide))
  |exact (HB.out.same _ (by decide) (by decide) (by decide))
 ·exact ⟨_, rfl⟩
 apply Ye rfl rfl
 ·intro dn r0 K hd hdep hK w5 hB1
  have HH := Yh_ hd
  have HB := Yh_ hB1
  clear hB1 hdep
  go_wp2_with (go_at_call 70; have hm0 := HB.out.q.b.m; rw [HH.out] at hm0; refine (Yh9 M a pb (s.place i.a) s.f _ hm0 HP.out.1.1 HP.out.1.2 HP.out.2.1 HP.out.2.2).mono ?_; rintro e w6 ⟨rfl, hm6, hu⟩; rw [HF.out, HK.out]; unfold Flt.val)
  first
  |exact hK _ (HB.out.call hm6 hu)
  |exact (HB.out.call hm6 hu)
 ·exact ⟨_, rfl⟩
 apply Ye rfl rfl
 ·intro dn r0 K hd hdep hK w5 hB1
  skip
  have HB := Yh_ hB1
  clear hB1 hdep
  go_wp2_with fail
  first
  |exact hK _ (HB.out.same _ (by decide) (by decide) (by decide))
  |exact (HB.out.same _ (by decide) (by decide) (by decide))
 ·exact ⟨_, rfl⟩
 apply Ye rfl rfl
 ·intro dn r0 K hd hdep hK w5 hB1
  skip
  have HB := Yh_ hB1
  clear hB1 hdep
  go_wp2_with fail
  first
  |exact hK _ (HB.out.same _ (by decide) (by decide) (by decide))
  |exact (HB.out.same _ (by decide) (by decide) (by decide))
 ·exact ⟨_, rfl⟩
 apply Ye rfl rfl
 ·intro dn r0 K hd hdep hK w5 hB1
  skip
  have HB := Yh_ hB1
  clear hB1 hdep
  go_wp2_with fail
  first
  |exact hK _ (HB.out.same _ (by decide) (by decide) (by decide))
  |exact (HB.out.same _ (by decide) (by decide) (by decide))
 ·exact ⟨_, rfl⟩
 refine Ya8 rfl (fun _ => rfl) 3 rfl (by simp [Act.put]) ?_ ?_
 ·intro dn r0 K hd w5 hB2 hK
  have HB := Yh_ hB2
  clear hB2
  simp only [Yr]
  go_wp2_with fail
  first
  |exact hK (.pointer (some ⟨w5.heap.size, 0, none⟩)) _ (HB.out.lay hd)
  |exact HB.out.lay hd
 apply Ybm rfl (fun _ => rfl)
 ·intro dn r0 K hd hdep hK w5 hB2
  have h8 : dn 21 = true := hdep ⟨21, .data⟩ (by simp) rfl
  obtain ⟨g0, e1, e2, e3⟩ := hB2.x h8
  refine Yb1 ⟨fk, fp, fa, fw⟩ (if dn 22 = true then ⟨fk, fp, fa, fw⟩ else Flt.zero) g0 _ _ rfl (by show r0 21 = _; exact e1) rfl (by rw [e3]; split <;> rfl) ?_
  exact hK _ (hB2.put h8 e1 (by rintro c (rfl | rfl) <;> rfl))
 ·exact ⟨_, fun _ => rfl, rfl⟩
 apply Ybm rfl (fun _ => rfl)
 ·intro dn r0 K hd hdep hK w5 hB1
  skip
  have HB := Yh_ hB1
  clear hB1 hdep
  simp only [Yr]
  go_wp2_with fail
  first
  |exact hK _ (HB.out.same _ (by decide) (by decide) (by decide))
  |exact (HB.out.same _ (by decide) (by decide) (by decide))
 ·exact ⟨_, fun _ => rfl, rfl⟩
 refine Ybb (fun _ r0 w6 dn hall hB2 => ?_)
 obtain ⟨g, e1, e2, e3⟩ := hB2.x (hall 21 (by decide))
 have hB1 := hB2.q
 rw [hall 17 (by decide)] at hB1
 rw [hall 22 (by decide), if_pos rfl] at e3
 have cg := Ya e3
 unfold Yp at cg
 dsimp only at cg
 have H6 := Yh_ (show Dq w d a pb s i (M.wr8M (s.place i.a) s.f) [] w6 from hB1)
 show wpList _ _ _ _ (Act.put (Yr _ _ [] _) (some 3) (r0 21)) _
 rw [e1]
 simp only [Yr]
 clear e1 e2 e3 hall hB2 hB1
 go_wp2_with fail
 go_end0
 exact ⟨rfl, H6.out.b, H6.out.u⟩
theorem Yn7 (d a pb : Nat) (s : St) (i : Ins) (M : Mem) (w : World) (h : Yv w d a pb s i M) (hop : i.op = 46) (hk : M.canK (s.place i.a) 8 2 = false) :
  Calls Tryz.prog 52 #[.pointer (some ⟨d, 0, none⟩)] w fun e w' => e = .panicked [{ v := .iface 35 (M.canF (s.place i.a) 8 2).val, recovered := false }] ∧ Ym w' a pb ((M.wr8M (s.place i.a) s.f)) ∧ Upd [d, pb] w w' := by
 have HD := Yh_ (Dq.of h)
 have HO := Yh_ hop
 have c18 : w.cell? ⟨d, 18, none⟩ = some (.int .i64 46) := by rw [← hop]; exact h.cell 18
 have c17 : w.cell? ⟨d, 17, none⟩ = some (.int .u64 s.f) := h.cell 17
 have HK := Yh_ hk
 clear hk
 have HP := Yh_ (And.intro (Ycc s i.a) h.ok.f)
 obtain ⟨⟨fk, fp, fa, fw⟩, hF⟩ : ∃ F, M.canF (s.place i.a) 8 2 = F := ⟨_, rfl⟩
 have HF := Yh_ hF
 rw [hF]
 clear hF
 clear h hop
 go_enter Tryz.func52, Tryz.ntmps52
 go_wp2_with fail
 refine Ybj 24 (D5 w d a pb s i M (M.wr8M (s.place i.a) s.f) _ (Yp ⟨fk, fp, fa, fw⟩)) (fun _ _ => False) (by kernel_rfl) (by decide +kernel) (fun r0 => D5.start HD.out (M.wr8M (s.place i.a) s.f) (Yp ⟨fk, fp, fa, fw⟩) r0) (fun _ _ _ h => h.elim) ?_
 simp only [List.take_succ_cons, List.take_zero, List.drop_succ_cons, List.drop_zero]
 apply Ye rfl rfl
 ·intro dn r0 K hd hdep hK w5 hB1
  skip
  have HB := Yh_ hB1
  clear hB1 hdep
  go_wp2_with fail
  first
  |exact hK _ (HB.out.same _ (by decide) (by decide) (by decide))
  |exact (HB.out.same _ (by decide) (by decide) (by decide))
 ·exact ⟨_, rfl⟩
 apply Ye rfl rfl
 ·intro dn r0 K hd hdep hK w5 hB1
  skip
  have HB := Yh_ hB1
  clear hB1 hdep
  go_wp2_with fail
  first
  |exact hK _ (HB.out.same _ (by decide) (by decide) (by decide))
  |exact (HB.out.same _ (by decide) (by decide) (by decide))
 ·exact ⟨_, rfl⟩
 apply Ye rfl rfl
 ·intro dn r0 K hd hdep hK w5 hB1
  skip
  have HB := Yh_ hB1
  clear hB1 hdep
  go_wp2_with fail
  first
  |exact hK _ (HB.out.same _ (by decide) (by decide) (by decide))
  |exact (HB.out.same _ (by decide) (by decide) (by decide))
 ·exact ⟨_, rfl⟩
 apply Ye rfl rfl
 ·intro dn r0 K hd hdep hK w5 hB1
  have c0 : w5.cell? ⟨d, 0, none⟩ = some (.pointer (some ⟨a, 0, none⟩)) := hB1.q.b.c0
  have HB := Yh_ hB1
  clear hB1 hdep
  go_wp2_with fail
  first
  |exact hK _ (HB.out.same _ (by decide) (by decide) (by decide))
  |exact (HB.out.same _ (by decide) (by decide) (by decide))
 ·exact ⟨_, rfl⟩
 apply Ye rfl rfl
 ·intro dn r0 K hd hdep hK w5 hB1
  skip
  have HB := Yh_ hB1
  clear hB1 hdep
  go_wp2_with fail
  first
  |exact hK _ (HB.out.same _ (by decide) (by decide) (by decide))
  |exact (HB.out.same _ (by decide) (by decide) (by decide))
 ·exact ⟨_, rfl⟩
 apply Ye rfl rfl
 ·intro dn r0 K hd hdep hK w5 hB1
  skip
  have HB := Yh_ hB1
  clear hB1 hdep
  go_wp2_with fail
  first
  |exact hK _ (HB.out.same _ (by decide) (by decide) (by decide))
  |exact (HB.out.same _ (by decide) (by decide) (by decide))
 ·exact ⟨_, rfl⟩
 apply Ye rfl rfl
 ·intro dn r0 K hd hdep hK w5 hB2
  have hB1 := hB2.q
  refine wp_load_mid 28 _ rfl d 1 rfl s.cells.toList _ hB1.b.rs Tryz.underlying28 rfl (by rw [Array.length_toList, St.size]; exact Ya2) ?_
  rw [Array.toArray_toList]
  exact hK _ (hB2.same _ (by decide) (by decide) (by decide))
 ·exact ⟨_, rfl⟩
 apply Ye rfl rfl
 ·intro dn r0 K hd hdep hK w5 hB1
  skip
  have HB := Yh_ hB1
  clear hB1 hdep
  go_wp2_with fail
  first
  |exact hK _ (HB.out.same _ (by decide) (by decide) (by decide))
  |exact (HB.out.same _ (by decide) (by decide) (by decide))
 ·exact ⟨_, rfl⟩
 apply Ye rfl rfl
 ·intro dn r0 K hd hdep hK w5 hB1
  skip
  have HB := Yh_ hB1
  clear hB1 hdep
  go_wp2_with fail
  first
  |exact hK _ (HB.out.same _ (by decide) (by decide) (by decide))
  |exact (HB.out.same _ (by decide) (by decide) (by decide))
 ·exact ⟨_, rfl⟩
 apply Ye rfl rfl
 ·intro dn r0 K hd hdep hK w5 hB1
  skip
  have HB := Yh_ hB1
  clear hB1 hdep
  go_wp2_with fail
  first
  |exact hK _ (HB.out.same _ (by decide) (by decide) (by decide))
  |exact (HB.out.same _ (by decide) (by decide) (by decide))
 ·exact ⟨_, rfl⟩
 apply Ye rfl rfl
 ·intro dn r0 K hd hdep hK w5 hB1
  skip
  have HB := Yh_ hB1
  clear hB1 hdep
  go_wp2_with fail
  first
  |exact hK _ (HB.out.same _ (by decide) (by decide) (by decide))
  |exact (HB.out.same _ (by decide) (by decide) (by decide))
 ·exact ⟨_, rfl⟩
 apply Ye rfl rfl
 ·intro dn r0 K hd hdep hK w5 hB1
  have c20 : w5.cell? ⟨d, 20, none⟩ = some (.int .i64 i.a.k) := hB1.q.b.cell 20; have c21 : w5.cell? ⟨d, 21, none⟩ = some (.int .i64 i.a.r) := hB1.q.b.cell 21; have c22 : w5.cell? ⟨d, 22, none⟩ = some (.int .u32 i.a.imm) := hB1.q.b.cell 22; have c23 : w5.cell? ⟨d, 23, none⟩ = some (.int .i64 i.a.b) := hB1.q.b.cell 23; have c24 : w5.cell? ⟨d, 24, none⟩ = some (.int .i64 i.a.x) := hB1.q.b.cell 24; have c25 : w5.cell? ⟨d, 25, none⟩ = some (.int .u32 i.a.sc) := hB1.q.b.cell 25
  have HB := Yh_ hB1
  clear hB1 hdep
  go_wp2_with fail
  first
  |exact hK _ (HB.out.same _ (by decide) (by decide) (by decide))
  |exact (HB.out.same _ (by decide) (by decide) (by decide))
 ·exact ⟨_, rfl⟩
 apply Ye rfl rfl
 ·intro dn r0 K hd hdep hK w5 hB1
  skip
  have HB := Yh_ hB1
  clear hB1 hdep
  go_wp2_with (go_at_call 71; refine (Ycj s i.a _).mono ?_; rintro e w6 ⟨rfl, hu⟩)
  first
  |exact hK _ (HB.out.quiet hu _ (by decide) (by decide) (by decide))
  |exact (HB.out.quiet hu _ (by decide) (by decide) (by decide))
 ·exact ⟨_, rfl⟩
 apply Ye rfl rfl
 ·intro dn r0 K hd hdep hK w5 hB1
  skip
  have HB := Yh_ hB1
  clear hB1 hdep
  go_wp2_with fail
  first
  |exact hK _ (HB.out.same _ (by decide) (by decide) (by decide))
  |exact (HB.out.same _ (by decide) (by decide) (by decide))
 ·exact ⟨_, rfl⟩
 apply Ye rfl rfl
 ·intro dn r0 K hd hdep hK w5 hB1
  skip
  have HB := Yh_ hB1
  clear hB1 hdep
  go_wp2_with fail
  first
  |exact hK _ (HB.out.same _ (by decide) (by decide) (by decide))
  |exact (HB.out.same _ (by decide) (by decide) (by decide))
 ·exact ⟨_, rfl⟩
 apply Ye rfl rfl
 ·intro dn r0 K hd hdep hK w5 hB1
  skip
  have HB := Yh_ hB1
  clear hB1 hdep
  go_wp2_with fail
  first
  |exact hK _ (HB.out.same _ (by decide) (by decide) (by decide))
  |exact (HB.out.same _ (by decide) (by decide) (by decide))
 ·exact ⟨_, rfl⟩
 apply Ye rfl rfl
 ·intro dn r0 K hd hdep hK w5 hB1
  have c17 : w5.cell? ⟨d, 17, none⟩ = some (.int .u64 s.f) := hB1.q.b.cell 17
  have HB := Yh_ hB1
  clear hB1 hdep
  go_wp2_with fail
  first
  |exact hK _ (HB.out.same _ (by decide) (by decide) (by decide))
  |exact (HB.out.same _ (by decide) (by decide) (by decide))
 ·exact ⟨_, rfl⟩
 apply Ye rfl rfl
 ·intro dn r0 K hd hdep hK w5 hB1
  have HH := Yh_ hd
  have HB := Yh_ hB1
  clear hB1 hdep
  go_wp2_with (go_at_call 70; have hm0 := HB.out.q.b.m; rw [HH.out] at hm0; refine (Yh9 M a pb (s.place i.a) s.f _ hm0 HP.out.1.1 HP.out.1.2 HP.out.2.1 HP.out.2.2).mono ?_; rintro e w6 ⟨rfl, hm6, hu⟩; rw [HF.out, HK.out]; unfold Flt.val)
  first
  |exact hK _ (HB.out.call hm6 hu)
  |exact (HB.out.call hm6 hu)
 ·exact ⟨_, rfl⟩
 apply Ye rfl rfl
 ·intro dn r0 K hd hdep hK w5 hB1
  skip
  have HB := Yh_ hB1
  clear hB1 hdep
  go_wp2_with fail
  first
  |exact hK _ (HB.out.same _ (by decide) (by decide) (by decide))
  |exact (HB.out.same _ (by decide) (by decide) (by decide))
 ·exact ⟨_, rfl⟩
 apply Ye rfl rfl
 ·intro dn r0 K hd hdep hK w5 hB1
  skip
  have HB := Yh_ hB1
  clear hB1 hdep
  go_wp2_with fail
  first
  |exact hK _ (HB.out.same _ (by decide) (by decide) (by decide))
  |exact (HB.out.same _ (by decide) (by decide) (by decide))
 ·exact ⟨_, rfl⟩
 apply Ye rfl rfl
 ·intro dn r0 K hd hdep hK w5 hB1
  skip
  have HB := Yh_ hB1
  clear hB1 hdep
  go_wp2_with fail
  first
  |exact hK _ (HB.out.same _ (by decide) (by decide) (by decide))
  |exact (HB.out.same _ (by decide) (by decide) (by decide))
 ·exact ⟨_, rfl⟩
 refine Ya8 rfl (fun _ => rfl) 3 rfl (by simp [Act.put]) ?_ ?_
 ·intro dn r0 K hd w5 hB2 hK
  have HB := Yh_ hB2
  clear hB2
  simp only [Yr]
  go_wp2_with fail
  first
  |exact hK (.pointer (some ⟨w5.heap.size, 0, none⟩)) _ (HB.out.lay hd)
  |exact HB.out.lay hd
 apply Ybm rfl (fun _ => rfl)
 ·intro dn r0 K hd hdep hK w5 hB2
  have h8 : dn 21 = true := hdep ⟨21, .data⟩ (by simp) rfl
  obtain ⟨g0, e1, e2, e3⟩ := hB2.x h8
  refine Yb1 ⟨fk, fp, fa, fw⟩ (if dn 22 = true then ⟨fk, fp, fa, fw⟩ else Flt.zero) g0 _ _ rfl (by show r0 21 = _; exact e1) rfl (by rw [e3]; split <;> rfl) ?_
  exact hK _ (hB2.put h8 e1 (by rintro c (rfl | rfl) <;> rfl))
 ·exact ⟨_, fun _ => rfl, rfl⟩
 apply Ybm rfl (fun _ => rfl)
 ·intro dn r0 K hd hdep hK w5 hB1
  skip
  have HB := Yh_ hB1
  clear hB1 hdep
  simp only [Yr]
  go_wp2_with fail
  first
  |exact hK _ (HB.out.same _ (by decide) (by decide) (by decide))
  |exact (HB.out.same _ (by decide) (by decide) (by decide))
 ·exact ⟨_, fun _ => rfl, rfl⟩
 refine Ybb (fun _ r0 w6 dn hall hB2 => ?_)
 obtain ⟨g, e1, e2, e3⟩ := hB2.x (hall 21 (by decide))
 have hB1 := hB2.q
 rw [hall 17 (by decide)] at hB1
 rw [hall 22 (by decide), if_pos rfl] at e3
 have cg := Ya e3
 unfold Yp at cg
 dsimp only at cg
 have H6 := Yh_ (show Dq w d a pb s i (M.wr8M (s.place i.a) s.f) [] w6 from hB1)
 show wpList _ _ _ _ (Act.put (Yr _ _ [] _) (some 3) (r0 21)) _
 rw [e1]
 simp only [Yr]
 clear e1 e2 e3 hall hB2 hB1
 go_wp2_with fail
 exact ⟨rfl, rfl, H6.out.b.m, H6.out.u⟩
end
theorem outs_yes (kb sb ub : Nat) (w : World) (hk : w.heap[kb]? = some (.cells #[.bool true] 4 (0, 0))) :
  CallsD Tryz.prog 30 #[.pointer (some ⟨kb, 0, none⟩), .pointer (some ⟨sb, 0, none⟩), .pointer (some ⟨ub, 0, none⟩)] .returning w fun e u' w' => e = .returned (.tuple #[]) ∧ u' = .returning ∧ w = w' := by
 refine callsD_of_wpS Tryz.func30 rfl fun c₀ cs hu => ?_
 simp only [Tryz.ntmps30, List.size_toArray, List.length_cons, List.length_nil, Nat.reduceAdd, Nat.reduceSub, Array.replicate_succ, Array.replicate_zero, List.push_toArray, List.append_toArray, List.nil_append, List.cons_append]
 refine wpS_of_wp ?_
 have ck := Ya hk
 have HU := Yh_ hu
 clear hu hk
 go_wp2_with fail
 refine ⟨rfl, .returning, ?_, _, results_none rfl _ _ _, rfl, rfl, rfl⟩
 rw [← HU.out]
theorem outs_no (kb sb ub : Nat) (s : St) (c : Array Value) (w : World) (hk : w.heap[kb]? = some (.cells #[.bool false] 4 (0, 0))) (hs : w.heap[sb]? = some (.cells s.cells 28 (0, 0))) (hb : w.heap[ub]? = some (.cells c 28 (0, 0))) (hc : c.size = 17) :
  CallsD Tryz.prog 30 #[.pointer (some ⟨kb, 0, none⟩), .pointer (some ⟨sb, 0, none⟩), .pointer (some ⟨ub, 0, none⟩)] .returning w fun e u' w' => e = .returned (.tuple #[]) ∧ u' = .returning ∧ w' = w.setCells ub 0 s.cells.toList := by
 refine callsD_of_wpS Tryz.func30 rfl fun c₀ cs hu => ?_
 simp only [Tryz.ntmps30, List.size_toArray, List.length_cons, List.length_nil, Nat.reduceAdd, Nat.reduceSub, Array.replicate_succ, Array.replicate_zero, List.push_toArray, List.append_toArray, List.nil_append, List.cons_append]
 refine wpS_of_wp ?_
 have ck := Ya hk
 have HU := Yh_ (And.intro hu (And.intro hs hb))
 clear hu hk hs hb
 have tokL : True := trivial
 have tokS : True := trivial
 go_wp2_with (first | (have _t := tokL; clear _t tokL; refine Yaj 28 rfl ?_; refine Yq s sb rfl _ rfl rfl HU.out.2.1 ?_) | (have _t := tokS; clear _t tokS; refine Yd 28 rfl ?_; refine Ycw s ub rfl _ _ rfl rfl rfl HU.out.2.2 hc ?_))
 refine ⟨rfl, .returning, ?_, _, results_none rfl _ _ _, rfl, rfl, rfl⟩
 rw [← HU.out.1]
theorem Yj4 (a : Nat) (s : St) (i : Ins) (w : World) : (Instr.build 86 #[(0, .pointer (some ⟨a, 0, none⟩)), (1, .agg s.cells), (2, .agg i.cells)]).run Tryz.prog w = .ok (.agg (Ybi a s i)) w := by
 unfold St.cells Ins.cells Ybi
 kernel_rfl
theorem Yft {ops : Array Oper} {rest : List Oper} {o : Oper} {a : Act} {w : World} {Q : Exit → Act → World → Prop} (hgd : o.guard = none) (p : Nat) (s : St) (i : Ins) (x y z : Operand) (ho : o.op = .build 86 #[(0, x), (1, y), (2, z)]) (hx : a.eval x = .pointer (some ⟨p, 0, none⟩)) (hy : a.eval y = .agg s.cells) (hz : a.eval z = .agg i.cells)
  (h : wpList Tryz.prog ops Q rest (a.put o.dst (.agg (Ybi p s i))) w) : wpList Tryz.prog ops Q (o :: rest) a w := by
 refine wpList_plain hgd fun _ hK => ?_
 unfold Oper.wp execOp
 simp only [ho, List.map_toArray, List.map_cons, List.map_nil, hx, hy, hz, Sem.run_bind, Yj4, Result.andThen_ok, Sem.run_pure]
 exact hK _ _ h
def St.goOn (s : St) (n : Int) : St := { s with pc := (s.pc + n) % 4294967296 }
theorem St.goOn_ok {s : St} (h : s.Ok) (n : Int) : (s.goOn n).Ok := ⟨h.R, by simp only [St.goOn]; omega, h.f⟩
def Yk6 (pc : Int) (fb kb sb ub : Nat) : List Deferred :=
 [{ target := .fn (.func 31) #[], args := #[.int .u32 pc, .pointer (some ⟨fb, 0, none⟩), .pointer (some ⟨kb, 0, none⟩)] },
  { target := .fn (.func 30) #[.pointer (some ⟨kb, 0, none⟩), .pointer (some ⟨sb, 0, none⟩), .pointer (some ⟨ub, 0, none⟩)], args := #[] }]
theorem Yn3 {fn : Func} {tmps : Array Value} {R : Ending → World → Prop} {w1 : World} {pc : Int} {fb kb sb ub : Nat} (V : Value) (hk : w1.heap[kb]? = some (.cells #[.bool true] 4 (0, 0))) (hres : (results fn tmps).run Tryz.prog w1 = .ok V w1) (hR : R (.returned V) w1) :
  Leaves Tryz.prog fn tmps R (Yk6 pc fb kb sb ub) .returning w1 := by
 refine leaves_cons (f := 31) (args := #[.int .u32 pc, .pointer (some ⟨fb, 0, none⟩), .pointer (some ⟨kb, 0, none⟩)]) (by simp) (by simp [go_sem]) ?_
 refine (Yg5 _ _ _ w1).mono ?_
 rintro e u' w2 ⟨rfl, rfl, rfl⟩
 simp only [settle]
 refine leaves_cons (f := 30) (args := #[.pointer (some ⟨kb, 0, none⟩), .pointer (some ⟨sb, 0, none⟩), .pointer (some ⟨ub, 0, none⟩)]) (by simp) (by simp [go_sem]) ?_
 refine (outs_yes kb sb ub _ hk).mono ?_
 rintro e u' w2 ⟨rfl, rfl, rfl⟩
 simp only [settle]
 exact ⟨_, hres, hR⟩
theorem Ylj {fn : Func} {tmps : Array Value} {R : Ending → World → Prop} {w1 : World} {pc : Int} {fb kb sb ub : Nat} {y0 y1 y2 y3 k0 : Value} {s : St} {c : Array Value} (F : Flt) (V : Value)
  (hf : w1.heap[fb]? = some (.cells #[y0, y1, y2, y3] 35 (0, 0))) (hk : w1.heap[kb]? = some (.cells #[k0] 4 (0, 0))) (hs : w1.heap[sb]? = some (.cells s.cells 28 (0, 0))) (hu : w1.heap[ub]? = some (.cells c 28 (0, 0))) (hc : c.size = 17)
  (hne : fb ≠ kb ∧ fb ≠ sb ∧ fb ≠ ub ∧ kb ≠ sb ∧ kb ≠ ub ∧ sb ≠ ub)
  (hres : ∀ w2, w2.heap[fb]? = some (.cells #[.int .i64 F.k, .int .u32 pc, .int .u32 F.a, .int .i64 F.wt] 35 (0, 0)) → w2.heap[kb]? = some (.cells #[.bool false] 4 (0, 0)) → w2.heap[ub]? = some (.cells s.cells 28 (0, 0)) → (results fn tmps).run Tryz.prog w2 = .ok V w2)
  (hR : ∀ w2, Upd [fb, kb, ub] w1 w2 → R (.returned V) w2) :
  Leaves Tryz.prog fn tmps R (Yk6 pc fb kb sb ub) (.panicking [{ v := .iface 35 F.val, recovered := false }]) w1 := by
 refine leaves_cons (f := 31) (args := #[.int .u32 pc, .pointer (some ⟨fb, 0, none⟩), .pointer (some ⟨kb, 0, none⟩)]) (by simp) (by simp [go_sem]) ?_
 refine (Ye1 pc fb kb _ _ _ _ _ _ _ _ _ [] w1 hf hk hne.1).mono ?_
 rintro e u' w2 ⟨rfl, rfl, hf2, hk2, hU⟩
 simp only [settle, List.dropWhile_nil]
 have hs2 := hU.get hs (by simp; omega)
 have hu2 := hU.get hu (by simp; omega)
 refine leaves_cons (f := 30) (args := #[.pointer (some ⟨kb, 0, none⟩), .pointer (some ⟨sb, 0, none⟩), .pointer (some ⟨ub, 0, none⟩)]) (by simp) (by simp [go_sem]) ?_
 refine (outs_no kb sb ub s c _ hk2 hs2 hu2 hc).mono ?_
 rintro e u' w3 ⟨rfl, rfl, rfl⟩
 simp only [settle]
 have u3 : Upd [ub] w2 (w2.setCells ub 0 s.cells.toList) := (Upd.refl [ub] w2).setCells (.inl (by simp)) _ _
 exact ⟨_, hres _ (u3.get hf2 (by simp; omega)) (u3.get hk2 (by simp; omega)) (Ya5 s hu2 hc), hR _ ((hU.mono (by simp)).trans u3 (fun _ h => h) (fun x hx => .inl (by simp at hx; simp [hx])))⟩
structure DoS (w : World) (s : St) (i : Ins) (w1 : World) : Prop where
 zs : w1.heap[w.heap.size]? = some (.cells s.cells 28 (0, 0))
 zi : w1.heap[w.heap.size + 1]? = some (.cells i.cells 41 (0, 0))
 zo : w1.heap[w.heap.size + 1 + 1]? = some (.cells St.zero.cells 28 (0, 0))
 zf : w1.heap[w.heap.size + 1 + 1 + 1]? = some (.cells #[.int .i64 0, .int .u32 0, .int .u32 0, .int .i64 0] 35 (0, 0))
 zk : w1.heap[w.heap.size + 1 + 1 + 1 + 1]? = some (.cells #[.bool false] 4 (0, 0))
theorem DoS.keep {w w1 w2 : World} {s : St} {i : Ins} {S : List Nat} (h : DoS w s i w1) (u : Upd S w1 w2) (hS : ∀ x, x ∈ S → x < w.heap.size ∨ w.heap.size + 4 < x) : DoS w s i w2 := by
 have n : ∀ k, k ≤ 4 → w.heap.size + k ∉ S := fun k hk hh => by have := hS _ hh; omega
 exact ⟨u.get h.zs (n 0 (by decide)), u.get h.zi (n 1 (by decide)), u.get h.zo (n 2 (by decide)), u.get h.zf (n 3 (by decide)), u.get h.zk (n 4 (by decide))⟩
def doW (w : World) (s : St) (i : Ins) : World := ((((w.alloc (.cells s.cells 28)).alloc (.cells i.cells 41)).alloc (.cells St.zero.cells 28)).alloc (.cells #[.int .i64 0, .int .u32 0, .int .u32 0, .int .i64 0] 35)).alloc (.cells #[.bool false] 4)
theorem doW_up (w : World) (s : St) (i : Ins) : Upd [] w (doW w s i) := (((((Upd.refl [] w).alloc _).alloc _).alloc _).alloc _).alloc _
theorem DoS.start (w : World) (s : St) (i : Ins) : DoS w s i (doW w s i) := by
 have h2 := heap_alloc_new ((w.alloc (.cells s.cells 28)).alloc (.cells i.cells 41)) (.cells St.zero.cells 28)
 have h3 := heap_alloc_new (((w.alloc (.cells s.cells 28)).alloc (.cells i.cells 41)).alloc (.cells St.zero.cells 28)) (.cells #[.int .i64 0, .int .u32 0, .int .u32 0, .int .i64 0] 35)
 have h4 := heap_alloc_new ((((w.alloc (.cells s.cells 28)).alloc (.cells i.cells 41)).alloc (.cells St.zero.cells 28)).alloc (.cells #[.int .i64 0, .int .u32 0, .int .u32 0, .int .i64 0] 35)) (.cells #[.bool false] 4)
 rw [show ((w.alloc (.cells s.cells 28)).alloc (.cells i.cells 41)).heap.size = w.heap.size + 1 + 1 from by simp] at h2
 rw [show (((w.alloc (.cells s.cells 28)).alloc (.cells i.cells 41)).alloc (.cells St.zero.cells 28)).heap.size = w.heap.size + 1 + 1 + 1 from by simp] at h3
 rw [show ((((w.alloc (.cells s.cells 28)).alloc (.cells i.cells 41)).alloc (.cells St.zero.cells 28)).alloc (.cells #[.int .i64 0, .int .u32 0, .int .u32 0, .int .i64 0] 35)).heap.size = w.heap.size + 1 + 1 + 1 + 1 from by simp] at h4
 exact ⟨Yj _ (Yj _ (Yj _ (heap_alloc2_old _ _ _))), Yj _ (Yj _ (Yj _ (heap_alloc2_new _ _ _))), Yj _ (Yj _ h2), Yj _ h3, h4⟩
end Go.Proofs.YthakgjpejhjaoaaGreat
