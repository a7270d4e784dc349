/-
  Parts of the proof (their names shortened by a program). No condition.
-/
import Derived.Test.YthakgjpejhjaoaaGreatMg01
import Derived.Test.YthakgjpejhjaoaaGreatMg19
import Derived.Test.YthakgjpejhjaoaaGreatMg18
import Derived.Test.YthakgjpejhjaoaaGreatMg05
import Derived.Test.YthakgjpejhjaoaaGreatProg
import Derived.Laws.FloatArith
import Derived.Laws.Externs
import Derived.Test.YthakgjpejhjaoaaGreatMg04
import Derived.Test.YthakgjpejhjaoaaGreatMg06
import Derived.Test.YthakgjpejhjaoaaGreatMg17
import Derived.Test.YthakgjpejhjaoaaGreatMg16
import Derived.Maps.AppendAt
import Derived.OwnWalk
import Derived.ChangeSlices
import Derived.Test.YthakgjpejhjaoaaGreatMg03
import Derived.ChangeKeysEq
import Derived.Lib.SliceRun
namespace Go.Proofs.YthakgjpejhjaoaaGreat
open Go Go.RowKit
set_option linter.unusedVariables false
set_option linter.unusedSimpArgs false
set_option maxRecDepth 100000
set_option maxHeartbeats 16000000
def tgK (M : Mem) (s : St) (i : Ins) : Bool := decide (i.a.k = 2) || opK M s i.a 4
def tgV (M : Mem) (s : St) (i : Ins) : Int := if i.a.k = 2 then (s.pc + i.a.imm) % 4294967296 else opV M s i.a 4
theorem Yoh {w : World} {d a pb : Nat} {s : St} {i : Ins} {M : Mem} (h : Yr w d a pb s i M) : 0 ≤ tgV M s i ∧ tgV M s i < 4294967296 := by
 unfold tgV; split
 ·omega
 ·exact Ydj h i.a h.io.a 4
theorem Yka (d a pb : Nat) (s : St) (i : Ins) (M : Mem) (w : World) (h : Yr w d a pb s i M) (h2 : i.a.k ≠ 2) (hk : opK M s i.a 4 = true) :
  Calls Tryz.prog 81 #[.pointer (some ⟨d, 0, none⟩)] w fun e w' => e = .returned (.int .u32 (opV M s i.a 4)) ∧ Upd [] w w' := by
 have HD := Yh_ h
 have HI := Yh_ h.io
 have HK := Yh_ hk
 have c20 : w.cell? ⟨d, 20, none⟩ = some (.int .i64 i.a.k) := h.cell 20; have c21 : w.cell? ⟨d, 21, none⟩ = some (.int .i64 i.a.r) := h.cell 21; have c22 : w.cell? ⟨d, 22, none⟩ = some (.int .u32 i.a.imm) := h.cell 22; have c23 : w.cell? ⟨d, 23, none⟩ = some (.int .i64 i.a.b) := h.cell 23; have c24 : w.cell? ⟨d, 24, none⟩ = some (.int .i64 i.a.x) := h.cell 24; have c25 : w.cell? ⟨d, 25, none⟩ = some (.int .u32 i.a.sc) := h.cell 25
 have e2 : (i.a.k == 2) = false := by simpa using h2
 clear h hk h2
 go_enter Tryz.func81, Tryz.ntmps81
 go_wp2_with (go_at_call 48; refine (Yd0 d a pb s i M i.a 4 _ HD.out HI.out.a HK.out).mono ?_; rintro e w6 ⟨rfl, hu⟩; have HU := Yh_ hu; clear hu)
 go_ret
 exact ⟨rfl, HU.out⟩
theorem Yjj (d a pb : Nat) (s : St) (i : Ins) (M : Mem) (w : World) (h : Yr w d a pb s i M) (h2 : i.a.k ≠ 2) (hk : opK M s i.a 4 = false) :
  Calls Tryz.prog 81 #[.pointer (some ⟨d, 0, none⟩)] w fun e w' => e = .panicked [{ v := .iface 35 (opF M s i.a 4).val, recovered := false }] ∧ Upd [] w w' := by
 have HD := Yh_ h
 have HI := Yh_ h.io
 have HK := Yh_ hk
 have c20 : w.cell? ⟨d, 20, none⟩ = some (.int .i64 i.a.k) := h.cell 20; have c21 : w.cell? ⟨d, 21, none⟩ = some (.int .i64 i.a.r) := h.cell 21; have c22 : w.cell? ⟨d, 22, none⟩ = some (.int .u32 i.a.imm) := h.cell 22; have c23 : w.cell? ⟨d, 23, none⟩ = some (.int .i64 i.a.b) := h.cell 23; have c24 : w.cell? ⟨d, 24, none⟩ = some (.int .i64 i.a.x) := h.cell 24; have c25 : w.cell? ⟨d, 25, none⟩ = some (.int .u32 i.a.sc) := h.cell 25
 have e2 : (i.a.k == 2) = false := by simpa using h2
 clear h hk h2
 go_enter Tryz.func81, Tryz.ntmps81
 go_wp2_with (go_at_call 48; refine (Yi9 d a pb s i M i.a 4 _ HD.out HI.out.a HK.out).mono ?_; rintro e w6 ⟨rfl, hu⟩; have HU := Yh_ hu; clear hu)
 exact ⟨rfl, rfl, HU.out⟩
theorem Yoi (d a pb : Nat) (s : St) (i : Ins) (M : Mem) (w : World) (h : Yr w d a pb s i M) (hk : tgK M s i = true) :
  Calls Tryz.prog 81 #[.pointer (some ⟨d, 0, none⟩)] w fun e w' => e = .returned (.int .u32 (tgV M s i)) ∧ Upd [] w w' := by
 unfold tgV
 by_cases h2 : i.a.k = 2
 ·rw [if_pos h2]; exact Yn1 d a pb s i M w h h2
 ·rw [if_neg h2]; exact Yka d a pb s i M w h h2 (by simpa [tgK, h2] using hk)
theorem Yny (d a pb : Nat) (s : St) (i : Ins) (M : Mem) (w : World) (h : Yr w d a pb s i M) (hk : tgK M s i = false) :
  Calls Tryz.prog 81 #[.pointer (some ⟨d, 0, none⟩)] w fun e w' => e = .panicked [{ v := .iface 35 (opF M s i.a 4).val, recovered := false }] ∧ Upd [] w w' := by
 simp only [tgK, Bool.or_eq_false_iff, decide_eq_false_iff_not] at hk
 exact Yjj d a pb s i M w h hk.1 hk.2
theorem Yof (d a pb : Nat) (s : St) (i : Ins) (M : Mem) (w : World) (h : Yr w d a pb s i M) (hop : i.op = 33) (hc : Ybg s.fl i.cond = false) :
  Calls Tryz.prog 53 #[.pointer (some ⟨d, 0, none⟩)] w fun e w' => e = .returned (.tuple #[]) ∧ Yr w' d a pb (s) i (M) ∧ Upd [d, pb] w w' := by
 have HD := Yh_ h
 have HI := Yh_ h.io
 have tokL : True := trivial
 have tokS : True := trivial
 have HC := Yh_ hc
 clear hc
 clear h
 go_enter Tryz.func53, Tryz.ntmps53
 go_wp2_with (first | (have _t := tokL; clear _t tokL; refine Yaq 41 rfl ?_; refine wpList_load_mid rfl 41 _ rfl d 18 rfl i.cells.toList _ HD.out.ri Tryz.underlying41 rfl (by rw [Array.length_toList, Ins.size]; exact Ybb) ?_; rw [Array.toArray_toList]) | (have _t := tokS; clear _t tokS; refine Ye 41 rfl ?_; refine Yd i w.heap.size rfl _ _ rfl rfl rfl (heap_alloc_new w (.cells Ins.zero.cells 41)) rfl ?_; intro w3 hw; have h3 := Dq.copy HD.out hw; have ci := h3.ins; unfold Ins.cells at ci; have H3 := Yh_ h3; clear hw h3))
 refine Yam 7 (Dq w d a pb s i M [(w.heap.size, .cells i.cells 41 (0, 0))]) (fun _ _ => False) (by kernel_rfl) (by decide +kernel) H3.out.drew (fun _ _ _ h => h.elim) ?_
 simp only [List.take_succ_cons, List.take_zero, List.drop_succ_cons, List.drop_zero]
 iterate 7
  apply Yv rfl rfl
  ·intro K hK w5 hB1
   have ci := hB1.ins; unfold Ins.cells at ci; have c10 : w5.cell? ⟨d, 10, none⟩ = some (.bool s.cf) := hB1.b.cell 10; have c11 : w5.cell? ⟨d, 11, none⟩ = some (.bool s.pf) := hB1.b.cell 11; have c12 : w5.cell? ⟨d, 12, none⟩ = some (.bool s.af) := hB1.b.cell 12; have c13 : w5.cell? ⟨d, 13, none⟩ = some (.bool s.zf) := hB1.b.cell 13; have c14 : w5.cell? ⟨d, 14, none⟩ = some (.bool s.sf) := hB1.b.cell 14; have c15 : w5.cell? ⟨d, 15, none⟩ = some (.bool s.of_) := hB1.b.cell 15
   have HB := Yh_ hB1
   clear hB1
   go_wp2_with fail
   first
   |exact hK _ HB.out
   |exact HB.out
  ·exact ⟨_, rfl⟩
 refine Yad (fun _ w6 hB1 => ?_)
 have H5 := Yh_ hB1
 clear hB1 H3 ci
 go_wp2_with (have _t := H5; clear _t; go_at_call 82; refine (Yc6 s.fl i.cond _).mono ?_; rintro e w7 ⟨rfl, hu⟩; rw [HC.out]; have H6 := Yh_ (H5.out.quiet hu); clear hu H5)
 go_end0
 exact ⟨rfl, H6.out.b, H6.out.u⟩
theorem Yo2 (d a pb : Nat) (s : St) (i : Ins) (M : Mem) (w : World) (h : Yr w d a pb s i M) (hop : i.op = 33) (hc : Ybg s.fl i.cond = true) (ht : tgK M s i = true) :
  Calls Tryz.prog 53 #[.pointer (some ⟨d, 0, none⟩)] w fun e w' => e = .returned (.tuple #[]) ∧ Yr w' d a pb ({ s with pc := (tgV M s i) }) i (M) ∧ Upd [d, pb] w w' := by
 have HD := Yh_ h
 have HI := Yh_ h.io
 have tokL : True := trivial
 have tokS : True := trivial
 have HTR := Yh_ (Yoh h)
 have HC := Yh_ hc
 have HT := Yh_ ht
 clear hc ht
 clear h
 go_enter Tryz.func53, Tryz.ntmps53
 go_wp2_with (first | (have _t := tokL; clear _t tokL; refine Yaq 41 rfl ?_; refine wpList_load_mid rfl 41 _ rfl d 18 rfl i.cells.toList _ HD.out.ri Tryz.underlying41 rfl (by rw [Array.length_toList, Ins.size]; exact Ybb) ?_; rw [Array.toArray_toList]) | (have _t := tokS; clear _t tokS; refine Ye 41 rfl ?_; refine Yd i w.heap.size rfl _ _ rfl rfl rfl (heap_alloc_new w (.cells Ins.zero.cells 41)) rfl ?_; intro w3 hw; have h3 := Dq.copy HD.out hw; have ci := h3.ins; unfold Ins.cells at ci; have H3 := Yh_ h3; clear hw h3))
 refine Yam 7 (Dq w d a pb s i M [(w.heap.size, .cells i.cells 41 (0, 0))]) (fun _ _ => False) (by kernel_rfl) (by decide +kernel) H3.out.drew (fun _ _ _ h => h.elim) ?_
 simp only [List.take_succ_cons, List.take_zero, List.drop_succ_cons, List.drop_zero]
 iterate 7
  apply Yv rfl rfl
  ·intro K hK w5 hB1
   have ci := hB1.ins; unfold Ins.cells at ci; have c10 : w5.cell? ⟨d, 10, none⟩ = some (.bool s.cf) := hB1.b.cell 10; have c11 : w5.cell? ⟨d, 11, none⟩ = some (.bool s.pf) := hB1.b.cell 11; have c12 : w5.cell? ⟨d, 12, none⟩ = some (.bool s.af) := hB1.b.cell 12; have c13 : w5.cell? ⟨d, 13, none⟩ = some (.bool s.zf) := hB1.b.cell 13; have c14 : w5.cell? ⟨d, 14, none⟩ = some (.bool s.sf) := hB1.b.cell 14; have c15 : w5.cell? ⟨d, 15, none⟩ = some (.bool s.of_) := hB1.b.cell 15
   have HB := Yh_ hB1
   clear hB1
   go_wp2_with fail
   first
   |exact hK _ HB.out
   |exact HB.out
  ·exact ⟨_, rfl⟩
 refine Yad (fun _ w6 hB1 => ?_)
 have H5 := Yh_ hB1
 clear hB1 H3 ci
 go_wp2_with (first | (have _t := H5; clear _t; go_at_call 82; refine (Yc6 s.fl i.cond _).mono ?_; rintro e w7 ⟨rfl, hu⟩; rw [HC.out]; have H6 := Yh_ (H5.out.quiet hu); clear hu H5) | (have _t := H6; clear _t; go_at_call 81; refine (Yoi d a pb s i M _ H6.out.b HT.out).mono ?_; rintro e w4 ⟨rfl, hu⟩; have H7 := Yh_ (H6.out.quiet hu); clear hu H6; have c9 : w4.cell? ⟨d, 9, none⟩ = some (.int .u32 s.pc) := H7.out.b.cell 9; have f9 := H7.out.b.free))
 go_end0
 exact ⟨rfl, H7.out.b.set (s' := { s with pc := (tgV M s i) }) (o := 9) rfl ⟨H7.out.b.ok.R, HTR.out, H7.out.b.ok.f⟩, H7.out.u.setCell (p := ⟨d, 9, none⟩) (.inl (by simp)) _⟩
theorem Yl3 (d a pb : Nat) (s : St) (i : Ins) (M : Mem) (w : World) (h : Yr w d a pb s i M) (hop : i.op = 33) (hc : Ybg s.fl i.cond = true) (ht : tgK M s i = false) :
  Calls Tryz.prog 53 #[.pointer (some ⟨d, 0, none⟩)] w fun e w' => e = .panicked [{ v := .iface 35 (opF M s i.a 4).val, recovered := false }] ∧ Ym w' a pb (M) ∧ Upd [d, pb] w w' := by
 have HD := Yh_ h
 have HI := Yh_ h.io
 have tokL : True := trivial
 have tokS : True := trivial
 have HC := Yh_ hc
 have HT := Yh_ ht
 clear hc ht
 clear h
 go_enter Tryz.func53, Tryz.ntmps53
 go_wp2_with (first | (have _t := tokL; clear _t tokL; refine Yaq 41 rfl ?_; refine wpList_load_mid rfl 41 _ rfl d 18 rfl i.cells.toList _ HD.out.ri Tryz.underlying41 rfl (by rw [Array.length_toList, Ins.size]; exact Ybb) ?_; rw [Array.toArray_toList]) | (have _t := tokS; clear _t tokS; refine Ye 41 rfl ?_; refine Yd i w.heap.size rfl _ _ rfl rfl rfl (heap_alloc_new w (.cells Ins.zero.cells 41)) rfl ?_; intro w3 hw; have h3 := Dq.copy HD.out hw; have ci := h3.ins; unfold Ins.cells at ci; have H3 := Yh_ h3; clear hw h3))
 refine Yam 7 (Dq w d a pb s i M [(w.heap.size, .cells i.cells 41 (0, 0))]) (fun _ _ => False) (by kernel_rfl) (by decide +kernel) H3.out.drew (fun _ _ _ h => h.elim) ?_
 simp only [List.take_succ_cons, List.take_zero, List.drop_succ_cons, List.drop_zero]
 iterate 7
  apply Yv rfl rfl
  ·intro K hK w5 hB1
   have ci := hB1.ins; unfold Ins.cells at ci; have c10 : w5.cell? ⟨d, 10, none⟩ = some (.bool s.cf) := hB1.b.cell 10; have c11 : w5.cell? ⟨d, 11, none⟩ = some (.bool s.pf) := hB1.b.cell 11; have c12 : w5.cell? ⟨d, 12, none⟩ = some (.bool s.af) := hB1.b.cell 12; have c13 : w5.cell? ⟨d, 13, none⟩ = some (.bool s.zf) := hB1.b.cell 13; have c14 : w5.cell? ⟨d, 14, none⟩ = some (.bool s.sf) := hB1.b.cell 14; have c15 : w5.cell? ⟨d, 15, none⟩ = some (.bool s.of_) := hB1.b.cell 15
   have HB := Yh_ hB1
   clear hB1
   go_wp2_with fail
   first
   |exact hK _ HB.out
   |exact HB.out
  ·exact ⟨_, rfl⟩
 refine Yad (fun _ w6 hB1 => ?_)
 have H5 := Yh_ hB1
 clear hB1 H3 ci
 go_wp2_with (first | (have _t := H5; clear _t; go_at_call 82; refine (Yc6 s.fl i.cond _).mono ?_; rintro e w7 ⟨rfl, hu⟩; rw [HC.out]; have H6 := Yh_ (H5.out.quiet hu); clear hu H5) | (have _t := H6; clear _t; go_at_call 81; refine (Yny d a pb s i M _ H6.out.b HT.out).mono ?_; rintro e w4 ⟨rfl, hu⟩; have H7 := Yh_ (H6.out.quiet hu); clear hu H6))
 exact ⟨rfl, rfl, H7.out.b.m, H7.out.u⟩
section
def mS (s : St) (x y : Int) (b1 b2 : Bool) : St := let t := if b1 = true then s.setR 0 x else s; if b2 = true then t.setR 2 y else t
theorem mS_comm (s : St) (x y : Int) : (s.setR 2 y).setR 0 x = (s.setR 0 x).setR 2 y := by
 unfold St.setR
 dsimp only
 congr 1
 funext j
 by_cases h0 : j = 0
 ·simp [h0]
 ·simp [h0]
theorem mS_first (s : St) (x y : Int) (b : Bool) : (mS s x y false b).setR 0 x = mS s x y true b := by
 cases b
 ·rfl
 ·exact mS_comm s x y
theorem mS_R0 (s : St) (x y : Int) (b2 : Bool) : (mS s x y false b2).R 0 = s.R 0 := by cases b2 <;> rfl
structure D9 (w : World) (d a pb : Nat) (s : St) (i : Ins) (M : Mem) (x y : Int) (dn : Nat → Bool) (w1 : World) : Prop where
 i1 : dn 18 = true → dn 11 = true
 i2 : dn 19 = true → dn 18 = true
 i3 : dn 20 = true → dn 19 = true
 i4 : dn 25 = true → dn 11 = true
 q : Dq w d a pb (mS s x y (dn 25) (dn 28)) i M [] w1
theorem Yfc {dn : Nat → Bool} {p q : Nat} (h : dn p = true → dn q = true) (j : Nat) (hj : p ≠ j) : Yaf dn j p = true → Yaf dn j q = true := by
 rw [Yo hj]
 intro hp
 by_cases e : q = j
 ·rw [e]; exact Yc0
 ·rw [Yo e]; exact h hp
theorem imp_at {dn : Nat → Bool} {p q : Nat} (h : dn q = true) : Yaf dn p p = true → Yaf dn p q = true := by
 intro _
 by_cases e : q = p
 ·rw [e]; exact Yc0
 ·rw [Yo e]; exact h
section
variable {w w1 w2 : World} {d a pb : Nat} {s : St} {i : Ins} {M : Mem} {x y : Int} {dn : Nat → Bool}
theorem D9.start (h : Dq w d a pb s i M [] w1) : D9 w d a pb s i M x y (fun _ => false) w1.drew :=
 ⟨fun h => (by cases h), fun h => (by cases h), fun h => (by cases h), fun h => (by cases h), h.drew⟩
theorem D9.same (h : D9 w d a pb s i M x y dn w1) (u : Upd [] w1 w2) (j : Nat) (h1 : 18 ≠ j) (h2 : 19 ≠ j) (h3 : 20 ≠ j) (h4 : 25 ≠ j) (h5 : 28 ≠ j) : D9 w d a pb s i M x y (Yaf dn j) w2 :=
 ⟨Yfc h.i1 j h1, Yfc h.i2 j h2, Yfc h.i3 j h3, Yfc h.i4 j h4, by rw [Yo h4, Yo h5]; exact h.q.quiet u⟩
theorem D9.call (h : D9 w d a pb s i M x y dn w1) (u : Upd [] w1 w2) (hd : dn 11 = true) : D9 w d a pb s i M x y (Yaf dn 18) w2 :=
 ⟨imp_at hd, Yfc h.i2 18 (by decide), Yfc h.i3 18 (by decide), Yfc h.i4 18 (by decide), by rw [Yo (by decide), Yo (by decide)]; exact h.q.quiet u⟩
theorem D9.c1 (h : D9 w d a pb s i M x y dn w1) (hd : dn 11 = false) : w1.cell? ⟨d, 1, none⟩ = some (.int .u32 (s.R 0)) := by
 have h0 : dn 25 = false := by
  cases e : dn 25 with
  |false => rfl
  |true => rw [h.i4 e] at hd; cases hd
 have := h.q.b.cR 0 (by decide)
 rw [h0, mS_R0] at this
 exact this
structure D6 (w : World) (d a pb : Nat) (s : St) (i : Ins) (M : Mem) (x : Int) (dn : Nat → Bool) (w1 : World) : Prop where
 q : Dq w d a pb (mS s x 0 (dn 6) false) i M [] w1
theorem D6.start (h : Dq w d a pb s i M [] w1) : D6 w d a pb s i M x (fun _ => false) w1.drew := ⟨h.drew⟩
theorem D6.same (h : D6 w d a pb s i M x dn w1) (j : Nat) (hj : 6 ≠ j) : D6 w d a pb s i M x (Yaf dn j) w1 := ⟨by rw [Yo hj]; exact h.q⟩
theorem D6.put (h : D6 w d a pb s i M x dn w1) (h0 : dn 6 = false) (hx : 0 ≤ x ∧ x < 4294967296) : D6 w d a pb s i M x (Yaf dn 6) (w1.setCell ⟨d, 1, none⟩ (.int .u32 x)) := by
 have hq := h.q
 rw [h0] at hq
 refine ⟨?_⟩
 rw [Yc0, ← mS_first]
 exact hq.next (hq.b.setR 0 (by decide) x hx) ((Upd.refl [d, pb] w1).setCell (p := ⟨d, 1, none⟩) (.inl (by simp)) _)
end
end
structure Hs where
 x : Nat → Int
 mem : Value
 pc : Int
 why : Int
def Hs.at_ (H : Hs) (k : Nat) : Value := if k < 32 then .int .u32 (H.x k) else if k = 32 then H.mem else if k = 33 then .int .u32 H.pc else .int .u32 H.why
def Hs.cells (H : Hs) : Array Value := (Array.range 35).map H.at_
def Hs.set (H : Hs) (i : Nat) (v : Int) : Hs := { H with x := fun j => if j = i then v else H.x j }
def Hs.get (H : Hs) (i : Int) : Int := if i < 1 ∨ 32 ≤ i then 0 else H.x i.toNat
def Hs.put (H : Hs) (i v : Int) : Hs := if i < 1 ∨ 32 ≤ i then H else H.set i.toNat v
theorem Hs.cell (H : Hs) (k : Nat) (h : k < 35) : H.cells[k]? = some (H.at_ k) := by simp [Hs.cells, h]
theorem Hs.size (H : Hs) : H.cells.size = 35 := by simp [Hs.cells]
def Hs.zero (m : Nat) : Hs := ⟨fun _ => 0, .slice (some ⟨m, 0, none⟩) 32768 32768, 1024, 0⟩
def Hs.two (H : Hs) (i : Int) : Int := H.get (10 + i) + H.get (11 + i) * 4294967296
section
def cS (s : St) (z p : Bool) (b1 b2 : Bool) : St := { s with zf := cond b1 z s.zf, pf := cond b2 p s.pf }
structure D21 (w : World) (d a pb : Nat) (s : St) (i : Ins) (M : Mem) (z p : Bool) (dn : Nat → Bool) (w1 : World) : Prop where
 q : Dq w d a pb (cS s z p (dn 17) (dn 21)) i M [] w1
def mM (M M2 : Mem) (b : Bool) : Mem := cond b M2 M
structure D5 (w : World) (d a pb : Nat) (s : St) (i : Ins) (M M2 : Mem) (n0 : Nat) (V : Array Value) (dn : Nat → Bool) (r : Nat → Value) (w1 : World) : Prop where
 q : Dq w d a pb s i (mM M M2 (dn 17)) [] w1
 b : n0 ≤ w1.heap.size
 lt : (d < n0 ∧ a < n0 ∧ pb < n0) ∧ w.heap.size ≤ n0
 x : dn 21 = true → ∃ g, r 21 = .pointer (some ⟨g, 0, none⟩) ∧ n0 ≤ g ∧ w1.heap[g]? = some (.cells (if dn 22 = true then V else Yt Flt.zero) 35 (0, 0))
 xo : dn 22 = true → dn 21 = true
section
variable {w w1 w2 : World} {d a pb n0 : Nat} {s : St} {i : Ins} {M M2 : Mem} {z p : Bool} {V : Array Value} {dn : Nat → Bool} {r : Nat → Value}
theorem D21.start (h : Dq w d a pb s i M [] w1) : D21 w d a pb s i M z p (fun _ => false) w1.drew := ⟨h.drew⟩
theorem D21.quiet (h : D21 w d a pb s i M z p dn w1) (u : Upd [] w1 w2) (j : Nat) (h1 : 17 ≠ j) (h2 : 21 ≠ j) : D21 w d a pb s i M z p (Yaf dn j) w2 := ⟨by rw [Yo h1, Yo h2]; exact h.q.quiet u⟩
theorem D21.next (h : D21 w d a pb s i M z p dn w1) (hd : Yr w2 d a pb (cS s z p (dn 17) (dn 21)) i M) (u : Upd [d, pb] w1 w2) (j : Nat) (h1 : 17 ≠ j) (h2 : 21 ≠ j) : D21 w d a pb s i M z p (Yaf dn j) w2 := ⟨by rw [Yo h1, Yo h2]; exact h.q.next hd u⟩
theorem D5.start (h : Dq w d a pb s i M [] w1) (M2 : Mem) (V : Array Value) (r : Nat → Value) : D5 w d a pb s i M M2 w1.heap.size V (fun _ => false) r w1.drew :=
 ⟨h.drew, ((Upd.refl [] w1).drew).size, ⟨⟨h.lts.1, h.lts.2.1, h.lts.2.2.1⟩, h.u.size⟩, fun h => (by cases h), fun h => (by cases h)⟩
theorem D5.quiet (h : D5 w d a pb s i M M2 n0 V dn r w1) (u : Upd [] w1 w2) (j : Nat) (h0 : 17 ≠ j) (h1 : 21 ≠ j) (h2 : 22 ≠ j) : D5 w d a pb s i M M2 n0 V (Yaf dn j) r w2 := by
 refine ⟨by rw [Yo h0]; exact h.q.quiet u, Nat.le_trans h.b u.size, h.lt, fun hx => ?_, fun hx => ?_⟩
 ·rw [Yo h1] at hx
  obtain ⟨g, e1, e2, e3⟩ := h.x hx
  exact ⟨g, e1, e2, by rw [Yo h2]; exact u.get e3 (by simp)⟩
 ·rw [Yo h2] at hx; rw [Yo h1]; exact h.xo hx
theorem D5.same (h : D5 w d a pb s i M M2 n0 V dn r w1) (j : Nat) (h0 : 17 ≠ j) (h1 : 21 ≠ j) (h2 : 22 ≠ j) : D5 w d a pb s i M M2 n0 V (Yaf dn j) r w1 := h.quiet (Upd.refl [] w1) j h0 h1 h2
theorem D5.call (h : D5 w d a pb s i M M2 n0 V dn r w1) (hm : Ym w2 a pb M2) (u : Upd [pb] w1 w2) : D5 w d a pb s i M M2 n0 V (Yaf dn 17) r w2 := by
 have hl := h.lt
 refine ⟨by rw [Yc0]; exact h.q.next (h.q.b.mem u hm) (u.mono (by simp)), Nat.le_trans h.b u.size, h.lt, fun hx => ?_, fun hx => ?_⟩
 ·rw [Yo (by decide)] at hx
  obtain ⟨g, e1, e2, e3⟩ := h.x hx
  exact ⟨g, e1, e2, by rw [Yo (by decide)]; exact u.get e3 (by simp; omega)⟩
 ·rw [Yo (by decide)] at hx; rw [Yo (by decide)]; exact h.xo hx
theorem D5.lay (h : D5 w d a pb s i M M2 n0 V dn r w1) (hd : dn 21 = false) : D5 w d a pb s i M M2 n0 V (Yaf dn 21) (Ycu r 21 (.pointer (some ⟨w1.heap.size, 0, none⟩))) (w1.alloc (.cells (Yt Flt.zero) 35)) := by
 have hdm : dn 22 = false := by
  cases e : dn 22 with
  |false => rfl
  |true => rw [h.xo e] at hd; cases hd
 have u := (Upd.refl [] w1).alloc (.cells (Yt Flt.zero) 35)
 refine ⟨by rw [Yo (by decide)]; exact h.q.quiet u, Nat.le_trans h.b u.size, h.lt, fun _ => ⟨_, Yfn, h.b, ?_⟩, fun _ => Yc0⟩
 rw [Yo (by decide), hdm]
 exact heap_alloc_new _ _
theorem D5.put (h : D5 w d a pb s i M M2 n0 V dn r w1) (hd : dn 21 = true) {g : Nat} (e1 : r 21 = .pointer (some ⟨g, 0, none⟩)) (hv : ∀ c, (c = V ∨ c = Yt Flt.zero) → wr c 0 V.toList = V) : D5 w d a pb s i M M2 n0 V (Yaf dn 22) r (w1.setCells g 0 V.toList) := by
 obtain ⟨g', e1', e2, e3⟩ := h.x hd
 obtain rfl : g' = g := by rw [e1] at e1'; injection e1' with e; injection e with e; injection e with e; exact e.symm
 have u := (Upd.refl [g'] w1).setCells (q := g') (.inl (by simp)) V.toList 0
 have hl := h.lt.1
 refine ⟨by rw [Yo (by decide)]; exact ⟨h.q.b.keep u (by simp; omega) (by simp; omega) (by simp; omega), by simp, h.q.u.also u (fun x hx => .inr (by rw [List.mem_singleton.1 hx]; exact Nat.le_trans h.lt.2 e2)), by simp⟩, Nat.le_trans h.b u.size, h.lt, fun _ => ⟨g', e1, e2, ?_⟩, fun _ => by rw [Yo (by decide)]; exact hd⟩
 rw [Yc0, if_pos rfl, Yag _ _ _ _ e3, hv _ (by split <;> simp)]
end
end
theorem outs_yes (kb sb ub : Nat) (w : World) (hk : w.heap[kb]? = some (.cells #[.bool true] 4 (0, 0))) :
  CallsD Tryz.prog 30 #[.pointer (some ⟨kb, 0, none⟩), .pointer (some ⟨sb, 0, none⟩), .pointer (some ⟨ub, 0, none⟩)] .returning w fun e u' w' => e = .returned (.tuple #[]) ∧ u' = .returning ∧ w = w' := by
 refine callsD_of_wpS Tryz.func30 rfl fun c₀ cs hu => ?_
 simp only [Tryz.ntmps30, List.size_toArray, List.length_cons, List.length_nil, Nat.reduceAdd, Nat.reduceSub, Array.replicate_succ, Array.replicate_zero, List.push_toArray, List.append_toArray, List.nil_append, List.cons_append]
 refine wpS_of_wp ?_
 have ck := Ya hk
 have HU := Yh_ hu
 clear hu hk
 go_wp2_with fail
 refine ⟨rfl, .returning, ?_, _, results_none rfl _ _ _, rfl, rfl, rfl⟩
 rw [← HU.out]
theorem outs_no (kb sb ub : Nat) (s : St) (c : Array Value) (w : World) (hk : w.heap[kb]? = some (.cells #[.bool false] 4 (0, 0))) (hs : w.heap[sb]? = some (.cells s.cells 28 (0, 0))) (hb : w.heap[ub]? = some (.cells c 28 (0, 0))) (hc : c.size = 17) :
  CallsD Tryz.prog 30 #[.pointer (some ⟨kb, 0, none⟩), .pointer (some ⟨sb, 0, none⟩), .pointer (some ⟨ub, 0, none⟩)] .returning w fun e u' w' => e = .returned (.tuple #[]) ∧ u' = .returning ∧ w' = w.setCells ub 0 s.cells.toList := by
 refine callsD_of_wpS Tryz.func30 rfl fun c₀ cs hu => ?_
 simp only [Tryz.ntmps30, List.size_toArray, List.length_cons, List.length_nil, Nat.reduceAdd, Nat.reduceSub, Array.replicate_succ, Array.replicate_zero, List.push_toArray, List.append_toArray, List.nil_append, List.cons_append]
 refine wpS_of_wp ?_
 have ck := Ya hk
 have HU := Yh_ (And.intro hu (And.intro hs hb))
 clear hu hk hs hb
 have tokL : True := trivial
 have tokS : True := trivial
 go_wp2_with (first | (have _t := tokL; clear _t tokL; refine Yaq 28 rfl ?_; refine Yac s sb rfl _ rfl rfl HU.out.2.1 ?_) | (have _t := tokS; clear _t tokS; refine Ye 28 rfl ?_; refine Yc2 s ub rfl _ _ rfl rfl rfl HU.out.2.2 hc ?_))
 refine ⟨rfl, .returning, ?_, _, results_none rfl _ _ _, rfl, rfl, rfl⟩
 rw [← HU.out.1]
theorem Ykr (a : Nat) (s : St) (i : Ins) (w : World) : (Instr.build 86 #[(0, .pointer (some ⟨a, 0, none⟩)), (1, .agg s.cells), (2, .agg i.cells)]).run Tryz.prog w = .ok (.agg (Ybq a s i)) w := by
 unfold St.cells Ins.cells Ybq
 kernel_rfl
theorem Yfu {ops : Array Oper} {rest : List Oper} {o : Oper} {a : Act} {w : World} {Q : Exit → Act → World → Prop} (hgd : o.guard = none) (p : Nat) (s : St) (i : Ins) (x y z : Operand) (ho : o.op = .build 86 #[(0, x), (1, y), (2, z)]) (hx : a.eval x = .pointer (some ⟨p, 0, none⟩)) (hy : a.eval y = .agg s.cells) (hz : a.eval z = .agg i.cells)
  (h : wpList Tryz.prog ops Q rest (a.put o.dst (.agg (Ybq p s i))) w) : wpList Tryz.prog ops Q (o :: rest) a w := by
 refine wpList_plain hgd fun _ hK => ?_
 unfold Oper.wp execOp
 simp only [ho, List.map_toArray, List.map_cons, List.map_nil, hx, hy, hz, Sem.run_bind, Ykr, Result.andThen_ok, Sem.run_pure]
 exact hK _ _ h
def St.goOn (s : St) (n : Int) : St := { s with pc := (s.pc + n) % 4294967296 }
theorem St.goOn_ok {s : St} (h : s.Ok) (n : Int) : (s.goOn n).Ok := ⟨h.R, by simp only [St.goOn]; omega, h.f⟩
def Ylb (pc : Int) (fb kb sb ub : Nat) : List Deferred :=
 [{ target := .fn (.func 31) #[], args := #[.int .u32 pc, .pointer (some ⟨fb, 0, none⟩), .pointer (some ⟨kb, 0, none⟩)] },
  { target := .fn (.func 30) #[.pointer (some ⟨kb, 0, none⟩), .pointer (some ⟨sb, 0, none⟩), .pointer (some ⟨ub, 0, none⟩)], args := #[] }]
theorem Yn6 {fn : Func} {tmps : Array Value} {R : Ending → World → Prop} {w1 : World} {pc : Int} {fb kb sb ub : Nat} (V : Value) (hk : w1.heap[kb]? = some (.cells #[.bool true] 4 (0, 0))) (hres : (results fn tmps).run Tryz.prog w1 = .ok V w1) (hR : R (.returned V) w1) :
  Leaves Tryz.prog fn tmps R (Ylb pc fb kb sb ub) .returning w1 := by
 refine leaves_cons (f := 31) (args := #[.int .u32 pc, .pointer (some ⟨fb, 0, none⟩), .pointer (some ⟨kb, 0, none⟩)]) (by simp) (by simp [go_sem]) ?_
 refine (Ygs _ _ _ w1).mono ?_
 rintro e u' w2 ⟨rfl, rfl, rfl⟩
 simp only [settle]
 refine leaves_cons (f := 30) (args := #[.pointer (some ⟨kb, 0, none⟩), .pointer (some ⟨sb, 0, none⟩), .pointer (some ⟨ub, 0, none⟩)]) (by simp) (by simp [go_sem]) ?_
 refine (outs_yes kb sb ub _ hk).mono ?_
 rintro e u' w2 ⟨rfl, rfl, rfl⟩
 simp only [settle]
 exact ⟨_, hres, hR⟩
theorem Yjp {fn : Func} {tmps : Array Value} {R : Ending → World → Prop} {w1 : World} {pc : Int} {fb kb sb ub : Nat} {y0 y1 y2 y3 k0 : Value} {s : St} {c : Array Value} (F : Flt) (V : Value)
  (hf : w1.heap[fb]? = some (.cells #[y0, y1, y2, y3] 35 (0, 0))) (hk : w1.heap[kb]? = some (.cells #[k0] 4 (0, 0))) (hs : w1.heap[sb]? = some (.cells s.cells 28 (0, 0))) (hu : w1.heap[ub]? = some (.cells c 28 (0, 0))) (hc : c.size = 17)
  (hne : fb ≠ kb ∧ fb ≠ sb ∧ fb ≠ ub ∧ kb ≠ sb ∧ kb ≠ ub ∧ sb ≠ ub)
  (hres : ∀ w2, w2.heap[fb]? = some (.cells #[.int .i64 F.k, .int .u32 pc, .int .u32 F.a, .int .i64 F.wt] 35 (0, 0)) → w2.heap[kb]? = some (.cells #[.bool false] 4 (0, 0)) → w2.heap[ub]? = some (.cells s.cells 28 (0, 0)) → (results fn tmps).run Tryz.prog w2 = .ok V w2)
  (hR : ∀ w2, Upd [fb, kb, ub] w1 w2 → R (.returned V) w2) :
  Leaves Tryz.prog fn tmps R (Ylb pc fb kb sb ub) (.panicking [{ v := .iface 35 F.val, recovered := false }]) w1 := by
 refine leaves_cons (f := 31) (args := #[.int .u32 pc, .pointer (some ⟨fb, 0, none⟩), .pointer (some ⟨kb, 0, none⟩)]) (by simp) (by simp [go_sem]) ?_
 refine (Ye1 pc fb kb _ _ _ _ _ _ _ _ _ [] w1 hf hk hne.1).mono ?_
 rintro e u' w2 ⟨rfl, rfl, hf2, hk2, hU⟩
 simp only [settle, List.dropWhile_nil]
 have hs2 := hU.get hs (by simp; omega)
 have hu2 := hU.get hu (by simp; omega)
 refine leaves_cons (f := 30) (args := #[.pointer (some ⟨kb, 0, none⟩), .pointer (some ⟨sb, 0, none⟩), .pointer (some ⟨ub, 0, none⟩)]) (by simp) (by simp [go_sem]) ?_
 refine (outs_no kb sb ub s c _ hk2 hs2 hu2 hc).mono ?_
 rintro e u' w3 ⟨rfl, rfl, rfl⟩
 simp only [settle]
 have u3 : Upd [ub] w2 (w2.setCells ub 0 s.cells.toList) := (Upd.refl [ub] w2).setCells (.inl (by simp)) _ _
 exact ⟨_, hres _ (u3.get hf2 (by simp; omega)) (u3.get hk2 (by simp; omega)) (Ybh s hu2 hc), hR _ ((hU.mono (by simp)).trans u3 (fun _ h => h) (fun x hx => .inl (by simp at hx; simp [hx])))⟩
structure DoS (w : World) (s : St) (i : Ins) (w1 : World) : Prop where
 zs : w1.heap[w.heap.size]? = some (.cells s.cells 28 (0, 0))
 zi : w1.heap[w.heap.size + 1]? = some (.cells i.cells 41 (0, 0))
 zo : w1.heap[w.heap.size + 1 + 1]? = some (.cells St.zero.cells 28 (0, 0))
 zf : w1.heap[w.heap.size + 1 + 1 + 1]? = some (.cells #[.int .i64 0, .int .u32 0, .int .u32 0, .int .i64 0] 35 (0, 0))
 zk : w1.heap[w.heap.size + 1 + 1 + 1 + 1]? = some (.cells #[.bool false] 4 (0, 0))
theorem DoS.keep {w w1 w2 : World} {s : St} {i : Ins} {S : List Nat} (h : DoS w s i w1) (u : Upd S w1 w2) (hS : ∀ x, x ∈ S → x < w.heap.size ∨ w.heap.size + 4 < x) : DoS w s i w2 := by
 have n : ∀ k, k ≤ 4 → w.heap.size + k ∉ S := fun k hk hh => by have := hS _ hh; omega
 exact ⟨u.get h.zs (n 0 (by decide)), u.get h.zi (n 1 (by decide)), u.get h.zo (n 2 (by decide)), u.get h.zf (n 3 (by decide)), u.get h.zk (n 4 (by decide))⟩
def doW (w : World) (s : St) (i : Ins) : World := ((((w.alloc (.cells s.cells 28)).alloc (.cells i.cells 41)).alloc (.cells St.zero.cells 28)).alloc (.cells #[.int .i64 0, .int .u32 0, .int .u32 0, .int .i64 0] 35)).alloc (.cells #[.bool false] 4)
theorem doW_up (w : World) (s : St) (i : Ins) : Upd [] w (doW w s i) := (((((Upd.refl [] w).alloc _).alloc _).alloc _).alloc _).alloc _
theorem DoS.start (w : World) (s : St) (i : Ins) : DoS w s i (doW w s i) := by
 have h2 := heap_alloc_new ((w.alloc (.cells s.cells 28)).alloc (.cells i.cells 41)) (.cells St.zero.cells 28)
 have h3 := heap_alloc_new (((w.alloc (.cells s.cells 28)).alloc (.cells i.cells 41)).alloc (.cells St.zero.cells 28)) (.cells #[.int .i64 0, .int .u32 0, .int .u32 0, .int .i64 0] 35)
 have h4 := heap_alloc_new ((((w.alloc (.cells s.cells 28)).alloc (.cells i.cells 41)).alloc (.cells St.zero.cells 28)).alloc (.cells #[.int .i64 0, .int .u32 0, .int .u32 0, .int .i64 0] 35)) (.cells #[.bool false] 4)
 rw [show ((w.alloc (.cells s.cells 28)).alloc (.cells i.cells 41)).heap.size = w.heap.size + 1 + 1 from by simp] at h2
 rw [show (((w.alloc (.cells s.cells 28)).alloc (.cells i.cells 41)).alloc (.cells St.zero.cells 28)).heap.size = w.heap.size + 1 + 1 + 1 from by simp] at h3
 rw [show ((((w.alloc (.cells s.cells 28)).alloc (.cells i.cells 41)).alloc (.cells St.zero.cells 28)).alloc (.cells #[.int .i64 0, .int .u32 0, .int .u32 0, .int .i64 0] 35)).heap.size = w.heap.size + 1 + 1 + 1 + 1 from by simp] at h4
 exact ⟨Yk _ (Yk _ (Yk _ (heap_alloc2_old _ _ _))), Yk _ (Yk _ (Yk _ (heap_alloc2_new _ _ _))), Yk _ (Yk _ h2), Yk _ h3, h4⟩
theorem Yfq {tmps : Array Value} {w : World} (a : Tmp) (b : Nat) (s : St) (ha : tmps.getD a undef = .pointer (some ⟨b, 0, none⟩)) (hb : w.heap[b]? = some (.cells s.cells 28 (0, 0))) :
  (Ybo tmps (.cell a 28)).run Tryz.prog w = .ok (.agg s.cells) w :=
 Ybe a 28 b _ _ ha hb Tryz.underlying28 rfl Ybi
theorem Yle {w : World} {a pb : Nat} {s : St} {i : Ins} {M : Mem} (hM : Ym w a pb M) (hs : s.Ok) (hi : i.Ok) : Yr ((doW w s i).alloc (.cells (Ybq a s i) 86)).drew (w.heap.size + 1 + 1 + 1 + 1 + 1) a pb s i M ∧ DoS w s i ((doW w s i).alloc (.cells (Ybq a s i) 86)).drew ∧ Upd [pb] w ((doW w s i).alloc (.cells (Ybq a s i) 86)).drew := by
 have u1 := ((Upd.refl [] (doW w s i)).alloc (.cells (Ybq a s i) 86)).drew
 have u := (doW_up w s i).also u1 (by simp)
 have ha : a < w.heap.size := by obtain ⟨C, _, hc⟩ := hM.hd; exact Yi hc
 have hp : pb < w.heap.size := by obtain ⟨C, _, hc⟩ := hM.pg; exact Yi hc
 have hn := heap_alloc_new (doW w s i) (.cells (Ybq a s i) 86)
 rw [show (doW w s i).heap.size = (w.heap.size + 1 + 1 + 1 + 1 + 1) from by simp [doW]] at hn
 exact ⟨⟨((Upd.refl [] _).drew).get hn (by simp), hM.keep u (by simp) (by simp), hs, hi, by omega, by omega⟩, (DoS.start w s i).keep u1 (by simp), u.mono (by simp)⟩
theorem Do_ok (a pb : Nat) (s s2 : St) (i : Ins) (M M2 : Mem) (w : World) (hM : Ym w a pb M) (hs : s.Ok) (hi : i.Ok)
  (hd : ∀ d w1, w.heap.size ≤ d → Yr w1 d a pb (s.goOn i.len) i M → Calls Tryz.prog 32 #[.pointer (some ⟨d, 0, none⟩)] w1 fun e w' => e = .returned (.tuple #[]) ∧ Yr w' d a pb s2 i M2 ∧ Upd [d, pb] w1 w') :
  Calls Tryz.prog 15 #[.pointer (some ⟨a, 0, none⟩), .agg s.cells, .agg i.cells] w fun e w' => e = .returned (.tuple #[.agg s2.cells, Flt.zero.val, .bool true]) ∧ Ym w' a pb M2 ∧ Upd [pb] w w' := by
 have HM := Yh_ (And.intro hM (And.intro hs hi))
 have HD := Yh_ hd
 have hpc : s.cells[8]? = some (.int .u32 s.pc) := rfl
 have HS := Yh_ (DoS.start w s i)
 have HB0 := Yh_ (Yle hM hs hi)
 have HP := Yh_ (show pb < w.heap.size by obtain ⟨C, _, hc⟩ := hM.pg; exact Yi hc)
 clear hM hs hi hd
 have tokL : True := trivial
 have tokI : True := trivial
 go_enter_defers Tryz.func15, Tryz.ntmps15
 go_wp2_with (first | (have _t := tokL; clear _t tokL; refine Yaq 28 rfl ?_; refine Yac s w.heap.size rfl _ rfl rfl HS.out.zs ?_) | (have _t := tokI; clear _t tokI; refine Yaq 41 rfl ?_; refine Yat i (w.heap.size + 1) rfl _ rfl rfl HS.out.zi ?_) | (refine Yfu rfl a s i _ _ _ rfl rfl rfl rfl ?_))
 refine Yam 12 (fun w1 => Yr w1 (w.heap.size + 1 + 1 + 1 + 1 + 1) a pb s i M ∧ DoS w s i w1 ∧ Upd [pb] w w1) (fun _ _ => False) (by kernel_rfl) (by decide +kernel) HB0.out (fun _ _ _ h => h.elim) ?_
 simp only [List.take_succ_cons, List.take_zero, List.drop_succ_cons, List.drop_zero]
 iterate 12
  apply Yv rfl rfl
  ·intro K hK w5 hB1
   have c9 : w5.cell? ⟨(w.heap.size + 1 + 1 + 1 + 1 + 1), 9, none⟩ = some (.int .u32 s.pc) := hB1.1.cell 9
   have c15 : w5.cell? ⟨w.heap.size + 1, 15, none⟩ = some (.int .i64 i.len) := Ya hB1.2.1.zi 15
   have HB := Yh_ hB1
   clear hB1
   go_wp2_with fail
   first
   |exact hK _ HB.out
   |exact HB.out
  ·exact ⟨_, rfl⟩
 refine Yad (fun _ w5 hB1 => ?_)
 have c5 : w5.cell? ⟨(w.heap.size + 1 + 1 + 1 + 1 + 1), 9, none⟩ = some (.int .u32 s.pc) := hB1.1.cell 9
 have f5 := hB1.1.free
 have H5 := Yh_ (And.intro hB1.1 (And.intro hB1.2.1 (And.intro HP.out hB1.2.2)))
 clear hB1
 have tok6 : True := trivial
 have tok7 : True := trivial
 go_wp2_with (first | (have _t := H5; clear _t; go_at_call 32; refine (HD.out (w.heap.size + 1 + 1 + 1 + 1 + 1) _ (by simp [Nat.add_assoc]) (H5.out.1.set (s' := s.goOn i.len) (o := 9) rfl (St.goOn_ok HM.out.2.1 i.len))).mono ?_; rintro e w6 ⟨rfl, hd6, hu6⟩; have hpb := H5.out.2.2.1; have u6 := ((Upd.refl [(w.heap.size + 1 + 1 + 1 + 1 + 1), pb] w5).setCell (p := ⟨(w.heap.size + 1 + 1 + 1 + 1 + 1), 9, none⟩) (.inl (by simp)) (.int .u32 ((s.pc + i.len) % 4294967296))).also hu6 (fun x hx => .inl hx); have H6 := Yh_ (And.intro hd6 (And.intro (H5.out.2.1.keep u6 (by simp only [List.mem_cons, List.not_mem_nil, or_false]; intro x hx; omega)) (H5.out.2.2.2.also (S' := [(w.heap.size + 1 + 1 + 1 + 1 + 1), pb]) u6 (by simp only [List.mem_cons, List.not_mem_nil, or_false]; intro x hx; omega)))); clear hd6 hu6 u6 hpb H5 c5 f5) | (have _t := H6; have _t2 := tok6; clear _t _t2 tok6; refine Yaq 28 rfl ?_; refine wpList_load_mid rfl 28 _ rfl (w.heap.size + 1 + 1 + 1 + 1 + 1) 1 rfl s2.cells.toList _ H6.out.1.rs Tryz.underlying28 rfl (by rw [Array.length_toList, St.size]; exact Ybi) ?_; rw [Array.toArray_toList]) | (have _t := H6; clear _t; refine Ye 28 rfl ?_; refine Yaz s2 (w.heap.size + 1 + 1) rfl _ _ rfl rfl rfl H6.out.2.1.zo rfl ?_; intro w7 hw; have u7 : Upd [w.heap.size + 1 + 1] w6 w7 := hw ▸ (Upd.refl [w.heap.size + 1 + 1] w6).setCells (.inl (by simp)) _ _; have ho : w7.heap[w.heap.size + 1 + 1]? = some (.cells s2.cells 28 (0, 0)) := hw ▸ Ybh s2 H6.out.2.1.zo rfl; have hf7 := u7.get H6.out.2.1.zf (by simp); have hk7 := u7.get H6.out.2.1.zk (by simp <;> omega); have cf := Ya hf7; have ff := Yl hf7; have ck := Ya hk7; have fk := Yl hk7; have H7 := Yh_ (And.intro ho (And.intro hf7 (And.intro hk7 (And.intro (H6.out.1.m.keep u7 (by have := H6.out.1.na; obtain ⟨C, _, hc⟩ := HM.out.1.hd; have := Yi hc; simp; omega) (by have := HP.out; simp; omega)) (H6.out.2.2.also u7 (by simp <;> omega)))))); clear hw u7 ho hf7 hk7 H6))
 have u4 := Yav (S := [w.heap.size + 1 + 1 + 1]) (b := w.heap.size + 1 + 1 + 1) (Upd.refl _ w7) (.inl (by simp)) (.int .i64 0) (.int .u32 0) (.int .u32 0) (.int .i64 0)
 have hF := Yh (a := ⟨w.heap.size + 1 + 1 + 1 + 1, 0, none⟩) (.bool true) (by simp) (Ycp H7.out.2.1 (.int .i64 0) (.int .u32 0) (.int .u32 0) (.int .i64 0))
 have hK := Yg (u4.get H7.out.2.2.1 (by simp)) 0 (.bool true)
 have u5 := (Yav (S := [w.heap.size + 1 + 1 + 1, w.heap.size + 1 + 1 + 1 + 1]) (b := w.heap.size + 1 + 1 + 1) (Upd.refl _ w7) (.inl (by simp)) (.int .i64 0) (.int .u32 0) (.int .u32 0) (.int .i64 0)).setCell (p := ⟨w.heap.size + 1 + 1 + 1 + 1, 0, none⟩) (.inl (by simp)) (.bool true)
 have ha : a < w.heap.size := by obtain ⟨C, _, hc⟩ := HM.out.1.hd; exact Yi hc
 have hp := HP.out
 refine Yn6 (.tuple #[.agg s2.cells, Flt.zero.val, .bool true]) hK ?_ ⟨rfl, H7.out.2.2.2.1.keep u5 (by simp <;> omega) (by simp <;> omega), H7.out.2.2.2.2.also u5 (by simp <;> omega)⟩
 exact Yan rfl (Yfq 6 (w.heap.size + 1 + 1) s2 rfl (u5.get H7.out.1 (by simp <;> omega))) (Yc8 7 (w.heap.size + 1 + 1 + 1) Flt.zero rfl hF) (Yek 8 (w.heap.size + 1 + 1 + 1 + 1) true rfl hK)
theorem Do_bad (a pb : Nat) (s : St) (i : Ins) (M M2 : Mem) (F : Flt) (w : World) (hM : Ym w a pb M) (hs : s.Ok) (hi : i.Ok)
  (hd : ∀ d w1, w.heap.size ≤ d → Yr w1 d a pb (s.goOn i.len) i M → Calls Tryz.prog 32 #[.pointer (some ⟨d, 0, none⟩)] w1 fun e w' => e = .panicked [{ v := .iface 35 F.val, recovered := false }] ∧ Ym w' a pb M2 ∧ Upd [d, pb] w1 w') :
  Calls Tryz.prog 15 #[.pointer (some ⟨a, 0, none⟩), .agg s.cells, .agg i.cells] w fun e w' => e = .returned (.tuple #[.agg s.cells, ({ F with pc := s.pc } : Flt).val, .bool false]) ∧ Ym w' a pb M2 ∧ Upd [pb] w w' := by
 have HM := Yh_ (And.intro hM (And.intro hs hi))
 have HD := Yh_ hd
 have hpc : s.cells[8]? = some (.int .u32 s.pc) := rfl
 have HS := Yh_ (DoS.start w s i)
 have HB0 := Yh_ (Yle hM hs hi)
 have HP := Yh_ (show pb < w.heap.size by obtain ⟨C, _, hc⟩ := hM.pg; exact Yi hc)
 clear hM hs hi hd
 have tokL : True := trivial
 have tokI : True := trivial
 go_enter_defers Tryz.func15, Tryz.ntmps15
 go_wp2_with (first | (have _t := tokL; clear _t tokL; refine Yaq 28 rfl ?_; refine Yac s w.heap.size rfl _ rfl rfl HS.out.zs ?_) | (have _t := tokI; clear _t tokI; refine Yaq 41 rfl ?_; refine Yat i (w.heap.size + 1) rfl _ rfl rfl HS.out.zi ?_) | (refine Yfu rfl a s i _ _ _ rfl rfl rfl rfl ?_))
 refine Yam 12 (fun w1 => Yr w1 (w.heap.size + 1 + 1 + 1 + 1 + 1) a pb s i M ∧ DoS w s i w1 ∧ Upd [pb] w w1) (fun _ _ => False) (by kernel_rfl) (by decide +kernel) HB0.out (fun _ _ _ h => h.elim) ?_
 simp only [List.take_succ_cons, List.take_zero, List.drop_succ_cons, List.drop_zero]
 iterate 12
  apply Yv rfl rfl
  ·intro K hK w5 hB1
   have c9 : w5.cell? ⟨(w.heap.size + 1 + 1 + 1 + 1 + 1), 9, none⟩ = some (.int .u32 s.pc) := hB1.1.cell 9
   have c15 : w5.cell? ⟨w.heap.size + 1, 15, none⟩ = some (.int .i64 i.len) := Ya hB1.2.1.zi 15
   have HB := Yh_ hB1
   clear hB1
   go_wp2_with fail
   first
   |exact hK _ HB.out
   |exact HB.out
  ·exact ⟨_, rfl⟩
 refine Yad (fun _ w5 hB1 => ?_)
 have c5 : w5.cell? ⟨(w.heap.size + 1 + 1 + 1 + 1 + 1), 9, none⟩ = some (.int .u32 s.pc) := hB1.1.cell 9
 have f5 := hB1.1.free
 have H5 := Yh_ (And.intro hB1.1 (And.intro hB1.2.1 (And.intro HP.out hB1.2.2)))
 clear hB1
 have tok6 : True := trivial
 have tok7 : True := trivial
 go_wp2_with (first | (have _t := H5; clear _t; go_at_call 32; refine (HD.out (w.heap.size + 1 + 1 + 1 + 1 + 1) _ (by simp [Nat.add_assoc]) (H5.out.1.set (s' := s.goOn i.len) (o := 9) rfl (St.goOn_ok HM.out.2.1 i.len))).mono ?_; rintro e w6 ⟨rfl, hd6, hu6⟩; have hpb := H5.out.2.2.1; have u6 := ((Upd.refl [(w.heap.size + 1 + 1 + 1 + 1 + 1), pb] w5).setCell (p := ⟨(w.heap.size + 1 + 1 + 1 + 1 + 1), 9, none⟩) (.inl (by simp)) (.int .u32 ((s.pc + i.len) % 4294967296))).also hu6 (fun x hx => .inl hx); have H6 := Yh_ (And.intro hd6 (And.intro (H5.out.2.1.keep u6 (by simp only [List.mem_cons, List.not_mem_nil, or_false]; intro x hx; omega)) (H5.out.2.2.2.also (S' := [(w.heap.size + 1 + 1 + 1 + 1 + 1), pb]) u6 (by simp only [List.mem_cons, List.not_mem_nil, or_false]; intro x hx; omega)))); clear hd6 hu6 u6 hpb H5 c5 f5))
 have hp := HP.out
 have ha : a < w.heap.size := by obtain ⟨C, _, hc⟩ := HM.out.1.hd; exact Yi hc
 refine Yjp F (.tuple #[.agg s.cells, ({ F with pc := s.pc } : Flt).val, .bool false]) H6.out.2.1.zf H6.out.2.1.zk H6.out.2.1.zs H6.out.2.1.zo rfl (by omega) (fun w2 hf hk hu => ?_) (fun w2 hU => ⟨rfl, H6.out.1.keep hU (by simp <;> omega) (by simp <;> omega), H6.out.2.2.also hU (by simp <;> omega)⟩)
 exact Yan rfl (Yfq 6 (w.heap.size + 1 + 1) s rfl hu) (Yc8 7 (w.heap.size + 1 + 1 + 1) { F with pc := s.pc } rfl hf) (Yek 8 (w.heap.size + 1 + 1 + 1 + 1) false rfl hk)
section
structure DrC (w : World) (d a pb : Nat) (s : St) (i : Ins) (M : Mem) (dn : Nat → Bool) (r : Nat → Value) (w1 : World) : Prop where
 b : Yr w1 d a pb s i M
 u : Upd [] w w1
 x : dn 7 = true → ∃ g Z, r 7 = .pointer (some ⟨g, 0, none⟩) ∧ w.heap.size ≤ g ∧ w1.heap[g]? = some (.cells Z 41 (0, 0)) ∧ Z.size = 16 ∧ (dn 8 = true → Z = i.cells)
 xo : dn 8 = true → dn 7 = true
section
variable {w w1 w2 : World} {d a pb : Nat} {s : St} {i : Ins} {M : Mem} {dn : Nat → Bool} {r : Nat → Value}
theorem DrC.start (h : Yr w d a pb s i M) (r : Nat → Value) : DrC w d a pb s i M (fun _ => false) r w.drew :=
 ⟨h.keep (Upd.refl [] _).drew (by simp) (by simp) (by simp), (Upd.refl [] w).drew, fun h => (by cases h), fun h => (by cases h)⟩
theorem DrC.same (h : DrC w d a pb s i M dn r w1) (m : Nat) (h1 : 7 ≠ m) (h2 : 8 ≠ m) : DrC w d a pb s i M (Yaf dn m) r w1 := by
 refine ⟨h.b, h.u, fun hx => ?_, fun hx => ?_⟩
 ·rw [Yo h1] at hx
  obtain ⟨g, Z, e1, e2, e3, e4, e5⟩ := h.x hx
  exact ⟨g, Z, e1, e2, e3, e4, fun hk => e5 (by rwa [Yo h2] at hk)⟩
 ·rw [Yo h2] at hx; rw [Yo h1]; exact h.xo hx
theorem DrC.lay (h : DrC w d a pb s i M dn r w1) (hd : dn 7 = false) : DrC w d a pb s i M (Yaf dn 7) (Ycu r 7 (.pointer (some ⟨w1.heap.size, 0, none⟩))) (w1.alloc (.cells Ins.zero.cells 41)) := by
 have u := (Upd.refl [] w1).alloc (.cells Ins.zero.cells 41)
 refine ⟨h.b.keep u (by simp) (by simp) (by simp), h.u.also u (by simp), fun _ => ⟨_, _, Yfn, h.u.size, heap_alloc_new _ _, rfl, fun hk => ?_⟩, fun _ => Yc0⟩
 rw [Yo (by decide)] at hk
 rw [h.xo hk] at hd; cases hd
theorem DrC.put (h : DrC w d a pb s i M dn r w1) {g : Nat} {Z : Array Value} (hg : r 7 = .pointer (some ⟨g, 0, none⟩)) (hl : w.heap.size ≤ g) (hdl : d < w.heap.size ∧ a < w.heap.size ∧ pb < w.heap.size) (hb : w1.heap[g]? = some (.cells Z 41 (0, 0))) (hZ : Z.size = 16) (hd : dn 7 = true) : DrC w d a pb s i M (Yaf dn 8) r (w1.setCells g 0 i.cells.toList) := by
 obtain ⟨z1, z2⟩ := Ya2 (S := [g]) (w0 := w1) (w' := w1.setCells g 0 i.cells.toList) rfl hb hZ (Upd.refl _ _) (.inl (by simp))
 exact ⟨h.b.keep z2 (by simp; omega) (by simp; omega) (by simp; omega), h.u.also z2 (by simp; omega), fun _ => ⟨g, i.cells, hg, hl, z1, rfl, fun _ => rfl⟩, fun _ => by rw [Yo (by decide)]; exact hd⟩
end
theorem moves_43 (d a pb : Nat) (s : St) (i : Ins) (M : Mem) (w : World) (h : Yr w d a pb s i M) (hop : i.op = 43) :
  Calls Tryz.prog 54 #[.pointer (some ⟨d, 0, none⟩)] w fun e w' => e = .returned (.tuple #[]) ∧ Yr w' d a pb s i M ∧ Upd [d, pb] w w' := by
 have hlt : d < w.heap.size ∧ a < w.heap.size ∧ pb < w.heap.size := ⟨h.lt, by obtain ⟨C, _, hc⟩ := h.m.hd; exact Yi hc, by obtain ⟨C, _, hc⟩ := h.m.pg; exact Yi hc⟩
 have HD := Yh_ (And.intro h hlt)
 clear h hlt
 go_enter Tryz.func54, Tryz.ntmps54
 go_wp2_with fail
 refine Yar 9 (DrC w d a pb s i M) (fun _ _ => False) (by kernel_rfl) (by decide +kernel) (fun r0 => DrC.start HD.out.1 r0) (fun _ _ _ h => h.elim) ?_
 simp only [List.take_succ_cons, List.take_zero, List.drop_succ_cons, List.drop_zero]
 iterate 3
  apply Yc rfl rfl
  ·intro dn r0 K hd hdep hK w5 hB1
   have HB := Yh_ hB1
   clear hB1 hdep
   go_wp2_with fail
   first
   |exact hK _ (HB.out.same _ (by decide) (by decide))
   |exact HB.out.same _ (by decide) (by decide)
  ·exact ⟨_, rfl⟩
 apply Yc rfl rfl
 ·intro dn r0 K hd hdep hK w5 hB1
  refine wp_load_mid 41 _ rfl d 18 rfl i.cells.toList _ hB1.b.ri Tryz.underlying41 rfl (by rw [Array.length_toList, Ins.size]; exact Ybb) ?_
  rw [Array.toArray_toList]
  exact hK _ (hB1.same _ (by decide) (by decide))
 ·exact ⟨_, rfl⟩
 iterate 3
  apply Yc rfl rfl
  ·intro dn r0 K hd hdep hK w5 hB1
   have HB := Yh_ hB1
   clear hB1 hdep
   go_wp2_with fail
   first
   |exact hK _ (HB.out.same _ (by decide) (by decide))
   |exact HB.out.same _ (by decide) (by decide)
  ·exact ⟨_, rfl⟩
 refine Yy rfl (fun _ => rfl) 2 rfl (by simp [Act.put]) ?_ ?_
 ·intro dn r0 K hd w5 hB1 hK
  have HB := Yh_ hB1
  clear hB1
  simp only [Yn]
  go_wp2_with fail
  first
  |exact hK (.pointer (some ⟨w5.heap.size, 0, none⟩)) _ (HB.out.lay hd)
  |exact HB.out.lay hd
 apply Yab rfl (fun _ => rfl)
 ·intro dn r0 K hd hdep hK w5 hB1
  have h8 : dn 7 = true := hdep ⟨7, .data⟩ (by simp) rfl
  obtain ⟨g, Z, e1, e2, e3, e4, _⟩ := hB1.x h8
  refine Yb5 i g _ _ rfl (by show r0 7 = _; exact e1) rfl e3 e4 ?_
  intro w6 hw
  rw [← hw]
  exact hK _ (hB1.put e1 e2 HD.out.2 e3 e4 h8)
 ·exact ⟨_, fun _ => rfl, rfl⟩
 refine Yak (fun _ r0 w5 dn hall hB1 => ?_)
 obtain ⟨g, Z, e1, e2, e3, _, e5⟩ := hB1.x (hall 7 (by decide))
 rw [e5 (hall 8 (by decide))] at e3
 have ci := Ya e3
 unfold Ins.cells at ci
 have H3 := Yh_ (And.intro hB1.b (And.intro e3 (hB1.u.mono (T := [d, pb]) (by simp))))
 clear hB1 hall e2 e3 e5
 show wpList _ _ _ _ (Act.put (Yn _ _ [] _) (some 2) (r0 7)) _
 rw [e1]
 simp only [Yn]
 clear e1
 go_wp2_with fail
 go_end0
 exact ⟨rfl, H3.out.1, H3.out.2.2⟩
theorem does_43 (d a pb : Nat) (s : St) (i : Ins) (M : Mem) (w : World) (h : Yr w d a pb s i M) (hop : i.op = 43) :
  Calls Tryz.prog 32 #[.pointer (some ⟨d, 0, none⟩)] w fun e w' => e = .returned (.tuple #[]) ∧ Yr w' d a pb s i M ∧ Upd [d, pb] w w' := by
 have HD := Yh_ h
 have tokL : True := trivial
 have tokS : True := trivial
 have HO := Yh_ hop
 clear h
 go_enter Tryz.func32, Tryz.ntmps32
 go_wp2_with (first | (have _t := tokL; clear _t tokL; refine Yaq 41 rfl ?_; refine wpList_load_mid rfl 41 _ rfl d 18 rfl i.cells.toList _ HD.out.ri Tryz.underlying41 rfl (by rw [Array.length_toList, Ins.size]; exact Ybb) ?_; rw [Array.toArray_toList]) | (have _t := tokS; clear _t tokS; refine Ye 41 rfl ?_; refine Yd i w.heap.size rfl _ _ rfl rfl rfl (heap_alloc_new w (.cells Ins.zero.cells 41)) rfl ?_; intro w3 hw; have h3 := Yej HD.out hw; have ci := Ya h3.2.1; unfold Ins.cells at ci; have H3 := Yh_ h3; clear hw h3) | (have _t := H3; clear _t; go_at_call 54; refine (moves_43 d a pb s i M _ H3.out.1 HO.out).mono ?_; rintro e w5 ⟨rfl, hd, hu⟩; have H5 := Yh_ (And.intro hd (H3.out.2.2.also hu (fun x hx => .inl hx))); clear hd hu H3 ci))
 go_end0
 exact ⟨rfl, H5.out.1, H5.out.2⟩
end
section
structure Out where
 k : Bool
 s : St
 M : Mem
 F : Flt
def okO (s : St) (M : Mem) : Out := ⟨true, s, M, Flt.zero⟩
def badO (F : Flt) (M : Mem) : Out := ⟨false, St.zero, M, F⟩
def Yck (d a pb : Nat) (i : Ins) (O : Out) (w : World) (e : Ending) (w' : World) : Prop :=
 (O.k = true → e = .returned (.tuple #[]) ∧ Yr w' d a pb O.s i O.M) ∧ (O.k = false → e = .panicked [{ v := .iface 35 O.F.val, recovered := false }] ∧ Ym w' a pb O.M) ∧ Upd [d, pb] w w'
section
variable {d a pb : Nat} {i : Ins} {w w' : World} {e : Ending} {s2 : St} {M2 : Mem} {F : Flt}
theorem Yck.ok (h : e = .returned (.tuple #[]) ∧ Yr w' d a pb s2 i M2 ∧ Upd [d, pb] w w') : Yck d a pb i (okO s2 M2) w e w' := ⟨fun _ => ⟨h.1, h.2.1⟩, fun h => (by cases h), h.2.2⟩
theorem Yck.bad (h : e = .panicked [{ v := .iface 35 F.val, recovered := false }] ∧ Ym w' a pb M2 ∧ Upd [d, pb] w w') : Yck d a pb i (badO F M2) w e w' := ⟨fun h => (by cases h), fun _ => ⟨h.1, h.2.1⟩, h.2.2⟩
end
def jccO (M : Mem) (s : St) (i : Ins) : Out :=
 if Ybg s.fl i.cond = true then if tgK M s i = true then okO { s with pc := (tgV M s i) } M else badO (opF M s i.a 4) M else okO s M
theorem jcc_all (d a pb : Nat) (s : St) (i : Ins) (M : Mem) (w : World) (h : Yr w d a pb s i M) (hop : i.op = 33) : Calls Tryz.prog 32 #[.pointer (some ⟨d, 0, none⟩)] w (Yck d a pb i (jccO M s i) w) := by
 unfold jccO
 by_cases hc : Ybg s.fl i.cond = true
 ·rw [if_pos hc]
  by_cases ha : tgK M s i = true
  ·rw [if_pos ha]
   exact (Yfd d a pb s _ i M _ w h (by omega) fun w1 h1 => Yo2 d a pb s i M w1 h1 hop hc ha).mono fun e w' hh => Yck.ok hh
  ·rw [if_neg ha]; rw [Bool.not_eq_true] at ha
   exact (Ygo d a pb s i M _ _ w h (by omega) fun w1 h1 => Yl3 d a pb s i M w1 h1 hop hc ha).mono fun e w' hh => Yck.bad hh
 ·rw [if_neg hc]; rw [Bool.not_eq_true] at hc
  exact (Yfd d a pb s _ i M _ w h (by omega) fun w1 h1 => Yof d a pb s i M w1 h1 hop hc).mono fun e w' hh => Yck.ok hh
def setO (M : Mem) (s : St) (i : Ins) : Out :=
 if Ybg s.fl i.cond = true then if Yb6 M s i.a 1 = true then okO (opS s i.a 1 1) (opM M s i.a 1 1) else badO (Ych M s i.a 1) (opM M s i.a 1 1) else if Yb6 M s i.a 1 = true then okO (opS s i.a 1 0) (opM M s i.a 1 0) else badO (Ych M s i.a 1) (opM M s i.a 1 0)
theorem set_all (d a pb : Nat) (s : St) (i : Ins) (M : Mem) (w : World) (h : Yr w d a pb s i M) (hop : i.op = 34) : Calls Tryz.prog 32 #[.pointer (some ⟨d, 0, none⟩)] w (Yck d a pb i (setO M s i) w) := by
 unfold setO
 by_cases hc : Ybg s.fl i.cond = true
 ·rw [if_pos hc]
  by_cases hw : Yb6 M s i.a 1 = true
  ·rw [if_pos hw]
   exact (Yeq d a pb s i M w h (by omega) _ _ fun w1 h1 => Yhq d a pb s i M w1 h1 hop hc hw).mono fun e w' hh => Yck.ok hh
  ·rw [if_neg hw]; rw [Bool.not_eq_true] at hw
   exact (Yed d a pb s i M w h (by omega) _ _ fun w1 h1 => Yhe d a pb s i M w1 h1 hop hc hw).mono fun e w' hh => Yck.bad hh
 ·rw [if_neg hc]; rw [Bool.not_eq_true] at hc
  by_cases hw : Yb6 M s i.a 1 = true
  ·rw [if_pos hw]
   exact (Yeq d a pb s i M w h (by omega) _ _ fun w1 h1 => Yhf d a pb s i M w1 h1 hop hc hw).mono fun e w' hh => Yck.ok hh
  ·rw [if_neg hw]; rw [Bool.not_eq_true] at hw
   exact (Yed d a pb s i M w h (by omega) _ _ fun w1 h1 => Yg5 d a pb s i M w1 h1 hop hc hw).mono fun e w' hh => Yck.bad hh
def cmovO (M : Mem) (s : St) (i : Ins) : Out :=
 if opK M s i.b 4 = true then if Ybg s.fl i.cond = true then if Yb6 M s i.a 4 = true then okO (opS s i.a 4 (opV M s i.b 4)) (opM M s i.a 4 (opV M s i.b 4)) else badO (Ych M s i.a 4) (opM M s i.a 4 (opV M s i.b 4)) else okO s M else badO (opF M s i.b 4) M
theorem cmov_all (d a pb : Nat) (s : St) (i : Ins) (M : Mem) (w : World) (h : Yr w d a pb s i M) (hop : i.op = 35) : Calls Tryz.prog 32 #[.pointer (some ⟨d, 0, none⟩)] w (Yck d a pb i (cmovO M s i) w) := by
 unfold cmovO
 by_cases hb : opK M s i.b 4 = true
 ·rw [if_pos hb]
  by_cases hc : Ybg s.fl i.cond = true
  ·rw [if_pos hc]
   by_cases hw : Yb6 M s i.a 4 = true
   ·rw [if_pos hw]
    exact (Yeq d a pb s i M w h (by omega) _ _ fun w1 h1 => Ym7 d a pb s i M w1 h1 hop hb hc hw).mono fun e w' hh => Yck.ok hh
   ·rw [if_neg hw]; rw [Bool.not_eq_true] at hw
    exact (Yed d a pb s i M w h (by omega) _ _ fun w1 h1 => Yjq d a pb s i M w1 h1 hop hb hc hw).mono fun e w' hh => Yck.bad hh
  ·rw [if_neg hc]; rw [Bool.not_eq_true] at hc
   exact (Yeq d a pb s i M w h (by omega) _ _ fun w1 h1 => Yk9 d a pb s i M w1 h1 hop hb hc).mono fun e w' hh => Yck.ok hh
 ·rw [if_neg hb]; rw [Bool.not_eq_true] at hb
  exact (Yed d a pb s i M w h (by omega) _ _ fun w1 h1 => Yjk d a pb s i M w1 h1 hop hb).mono fun e w' hh => Yck.bad hh
end
section
theorem Do_of (a pb : Nat) (s s2 : St) (i : Ins) (M M2 : Mem) (O : Out) (w : World) (hM : Ym w a pb M) (hs : s.Ok) (hi : i.Ok)
  (hd : ∀ d w1, Yr w1 d a pb (s.goOn i.len) i M → Calls Tryz.prog 32 #[.pointer (some ⟨d, 0, none⟩)] w1 (Yck d a pb i O w1)) (hO : O = okO s2 M2) :
  Calls Tryz.prog 15 #[.pointer (some ⟨a, 0, none⟩), .agg s.cells, .agg i.cells] w fun e w' => e = .returned (.tuple #[.agg s2.cells, Flt.zero.val, .bool true]) ∧ Ym w' a pb M2 ∧ Upd [pb] w w' := by
 subst hO
 exact Do_ok a pb s s2 i M M2 w hM hs hi fun d w1 _ h1 => (hd d w1 h1).mono fun e w' hh => ⟨(hh.1 rfl).1, (hh.1 rfl).2, hh.2.2⟩
section
variable {M : Mem} {s : St} {i : Ins}
end
end
section
open Go.WideShapes Go.ChangeShapes
theorem BOk.app {L M : List Int} (h : BOk L) (k : BOk M) : BOk (L ++ M) := by
 intro i
 rw [List.getD_eq_getElem?_getD]
 by_cases hi : i < L.length
 ·rw [List.getElem?_append_left hi, ← List.getD_eq_getElem?_getD]; exact h i
 ·rw [List.getElem?_append_right (by omega), ← List.getD_eq_getElem?_getD]; exact k _
theorem BOk.take {L : List Int} (h : BOk L) (n : Nat) : BOk (L.take n) := by
 intro i
 rw [List.getD_eq_getElem?_getD, List.getElem?_take]
 split
 ·rw [← List.getD_eq_getElem?_getD]; exact h i
 ·simp
theorem BArg.keep {w w' : World} {v : Value} {L : List Int} {g : Nat} (h : BArg w v L g) (u : Upd [] w w') : BArg w' v L g :=
 ⟨h.b.keep u (by simp), h.n, h.r, h.c, Nat.le_trans h.g u.size⟩
def Own (w : World) (base : Nat) (v : Value) (L : List Int) : Prop := w.ownsRow base 5 1 v L.length (L.map (Value.int .u8))
theorem own_nil (w : World) (base : Nat) : Own w base (.slice none 0 0) [] := ⟨rfl, .inl ⟨rfl, rfl⟩⟩
theorem own_lit (w : World) (base : Nat) (L : List Int) (C : Array Value) (hC : C.toList = L.map (.int .u8)) (hb : base ≤ w.heap.size) (hn : L.length ≤ maxLen) :
  Own (w.alloc (.cells C 5)) base (.slice (some ⟨w.heap.size, 0, none⟩) L.length L.length) L := by
 have hs : C.size = L.length := by rw [← Array.length_toList, hC, List.length_map]
 refine ⟨by simp, .inr ⟨w.heap.size, L.length, C, rfl, hb, heap_alloc_new w _, Nat.le_refl _, hn, by omega, ?_⟩⟩
 rw [hC, Nat.mul_one, List.take_of_length_le (by simp)]
theorem Own.barg {w : World} {base : Nat} {v : Value} {L : List Int} (h : Own w base v L) (hr : BOk L) (hn : L.length ≤ maxLen) : ∃ g, BArg w v L g ∧ (v.ownBlock = none ∨ (v.ownBlock = some g ∧ base ≤ g ∧ g < w.heap.size)) := by
 rcases h.2 with ⟨rfl, h0⟩ | ⟨g, cap, cur, rfl, hb, hg, hnc, hcm, hs, ht⟩
 ·have : L = [] := List.eq_nil_of_length_eq_zero h0
  subst this
  exact ⟨0, ⟨.inl ⟨rfl, rfl⟩, Nat.zero_le _, hr, fun b n c e => by injection e; omega, Nat.zero_le _⟩, .inl rfl⟩
 ·refine ⟨g, ⟨.inr ⟨0, cap, cur, _, _, rfl, hg, fun i hi => ?_⟩, hn, hr, fun b n c e => by injection e; omega, Nat.le_of_lt (Yi hg)⟩, .inr ⟨rfl, hb, Yi hg⟩⟩
  have e : (cur.toList.take (L.length * 1))[i]? = some (.int .u8 (L.getD i 0)) := by
   rw [ht, List.getElem?_map, List.getD_eq_getElem?_getD, List.getElem?_eq_getElem hi]; rfl
  rw [Nat.mul_one, List.getElem?_take, if_pos hi, Array.getElem?_toList] at e
  rw [Nat.zero_add]; exact e
theorem Own.keep {w w' : World} {base : Nat} {v : Value} {L : List Int} {S : List Nat} (h : Own w base v L) (u : Upd S w w') (hS : ∀ g, v.ownBlock = some g → g ∉ S) : Own w' base v L := by
 refine ⟨h.1, ?_⟩
 rcases h.2 with h0 | ⟨g, cap, cur, rfl, hb, hg, hr⟩
 ·exact .inl h0
 ·exact .inr ⟨g, cap, cur, rfl, hb, u.get hg (hS g rfl), hr⟩
theorem Own.block {w : World} {base : Nat} {v : Value} {L : List Int} (h : Own w base v L) : ∀ g, v.ownBlock = some g → base ≤ g ∧ g < w.heap.size := by
 intro g e
 rcases h.2 with ⟨rfl, _⟩ | ⟨g', cap, cur, rfl, hb, hg, hr⟩
 ·cases e
 ·simp only [Value.ownBlock, Option.some.injEq] at e
  subst e
  exact ⟨hb, Yi hg⟩
theorem Yjd {w : World} {base : Nat} {v : Value} {L : List Int} (h : Own w base v L) {b : Nat} {c : Array Value} {t : TypeId} {f : Nat × Nat} (hb : w.heap[b]? = some (.cells c t f)) (ht : t ≠ 5) : v.ownBlock ≠ some b := by
 intro e
 rcases h.2 with ⟨rfl, _⟩ | ⟨g', cap, cur, rfl, _, hg, hr⟩
 ·cases e
 ·simp only [Value.ownBlock, Option.some.injEq] at e
  subst e
  rw [hb] at hg
  injection hg with hg
  injection hg with _ h1
  exact ht h1
structure Grew (w : World) (base : Nat) (v : Value) (L : List Int) (v' : Value) (w' : World) : Prop where
 o : Own w' base v' L
 u : Upd v.ownBlock.toList w w'
 b : v'.ownBlock = v.ownBlock ∨ v'.ownBlock = some w.heap.size
theorem Yjl (w : World) (base : Nat) (ty : TypeId) (v : Value) (L : List Int) (hown : Own w base v L) (vb : Value) (M : List Int) (g : Nat) (hb : Yeg w vb M g) (hn : L.length + M.length ≤ 10000) (hbase : base ≤ w.heap.size) :
  ∃ v' w', (Builtin.append_ #[57, 57] ty #[v, vb]).run Tryz.prog w = .ok v' w' ∧ Grew w base v (L ++ M) v' w' := by
 obtain ⟨i, hi, hz0, hz1, hz2⟩ := info_parts info_u8
 have key : ∀ (a : Addr) (m c : Nat), M.length = m → (∀ j u, (M.map (Value.int .u8))[j]? = some u → w.cell? (a.add j) = some u) → ∃ v' w', (Builtin.append_ #[57, 57] ty #[v, .slice (some a) m c]).run Tryz.prog w = .ok v' w' ∧ Grew w base v (L ++ M) v' w' := by
  intro a m c hm hc
  subst hm
  obtain ⟨v', w', h1, h2, h3, _, h5⟩ := run_append_own_at (P := Tryz.prog) w base 57 ty 5 i _ 1 1 Tryz.underlying57 hi hz0 hz1 hz2 rfl (by decide) v L.length _ hown a M.length c (M.map (Value.int .u8)) (by simp) hc
   (by intro u hu; simp only [List.mem_map] at hu; obtain ⟨z, _, rfl⟩ := hu; rfl) (by unfold maxLen; omega) (by omega) hbase
  refine ⟨v', w', h1, ?_, Upd.of_grown h3, h5⟩
  unfold Own
  rw [List.length_append, List.map_append]
  exact h2
 rcases hb with ⟨rfl, rfl⟩ | ⟨o, c, C, T, f, rfl, hg, hc⟩
 ·refine ⟨v, w, ?_, ?_, Upd.refl _ _, .inl rfl⟩
  ·rcases hown.2 with ⟨rfl, h0⟩ | ⟨g, cap, cur, rfl, _, _, hnc, _⟩
   ·simp [Builtin.append_, run_underlying Tryz.underlying57, sizeOf, typeInfo, hi, Builtin.lenOf, Builtin.firstCells]
   ·simp [Builtin.append_, run_underlying Tryz.underlying57, sizeOf, typeInfo, hi, Builtin.lenOf, Builtin.firstCells, hnc, storeCells]
  ·rw [List.append_nil]; exact hown
 ·refine key _ _ _ rfl fun j u hu => ?_
  have hj : j < M.length := by
   have := (List.getElem?_eq_some_iff.1 hu).1
   simpa using this
  rw [Addr.add_lit, Ya hg, hc j hj]
  rw [List.getElem?_map, List.getElem?_eq_getElem hj] at hu
  simp only [Option.map_some, Option.some.injEq] at hu
  rw [List.getD_eq_getElem?_getD, List.getElem?_eq_getElem hj, Option.getD_some, hu]
theorem Yh0 {ops : Array Oper} {rest : List Oper} {o : Oper} {a : Act} {w : World} {Q : Exit → Act → World → Prop} (hgd : o.guard = none) (s x : Operand)
  (ho : o.op = .call { callee := .builtin .append, args := #[s, x], argTypes := #[57, 57] })
  (base : Nat) (v : Value) (L : List Int) (hs : a.eval s = v) (hown : Own w base v L) (vb : Value) (M : List Int) (g : Nat) (hx : a.eval x = vb) (hb : Yeg w vb M g) (hn : L.length + M.length ≤ 10000) (hbase : base ≤ w.heap.size)
  (h : ∀ v' w', Grew w base v (L ++ M) v' w' → wpList Tryz.prog ops Q rest (a.put o.dst v') w') : wpList Tryz.prog ops Q (o :: rest) a w := by
 refine wpList_plain hgd fun _ hK => ?_
 obtain ⟨v', w', hr, h2⟩ := Yjl w base o.type v L hown vb M g hb hn hbase
 unfold Oper.wp execOp
 simp only [ho, resolve, invoke, builtin, Sem.run_bind, Sem.run_pure, Result.andThen_ok, List.map_toArray, List.map_cons, List.map_nil, hs, hx, hr]
 exact hK _ _ (h v' w' h2)
end
theorem Ycx {P : Program} {w : World} {d : Nat} {xs ys : Array Value} {f : Field} {fs : List Field} {u v : Value} {b c : Bool} (hne : (f.name ≠ "_") = True)
  (hx : (part f.type xs f.offset).run P w = .ok u w) (hy : (part f.type ys f.offset).run P w = .ok v w) (he : (Op.equalIn d f.type u v).run P w = .ok b w) (hr : (Op.eqFields d xs ys fs).run P w = .ok c w) :
  (Op.eqFields d xs ys (f :: fs)).run P w = .ok (b && c) w := by
 simp only [Op.eqFields, hne, if_true]
 rw [Sem.run_bind, hx, Result.andThen_ok, Sem.run_bind, hy, Result.andThen_ok, Sem.run_bind, he, Result.andThen_ok]
 cases b
 ·rfl
 ·simp only [Bool.not_true, Bool.false_eq_true, if_false]
  rw [hr]; rfl
theorem Yld {P : Program} {w : World} {d : Nat} {xs ys : Array Value} : (Op.eqFields d xs ys []).run P w = .ok true w := rfl
theorem Yhj {P : Program} (w : World) (d : Nat) {e : TypeId} {k : IntKind} (he : P.underlying e = some (.int k)) (xs ys : Array Value) (f g : Nat → Int) :
  ∀ is : List Nat, (∀ i, i ∈ is → xs[i]? = some (.int k (f i)) ∧ ys[i]? = some (.int k (g i))) → (Op.eqItems (d + 1) e 1 xs ys is).run P w = .ok (is.all fun i => f i == g i) w
 |[], _ => by simp [Op.eqItems]
 |i :: is, h => by
  have h1 := h i (by simp)
  have ih := Yhj w d he xs ys f g is (fun j hj => h j (by simp [hj]))
  have hp : P.plainKey e = true := by simp [Program.plainKey, he]
  simp only [Op.eqItems, Nat.mul_one, Sem.run_bind, run_part_plain w hp h1.1, run_part_plain w hp h1.2, Result.andThen_ok, run_equalIn_int w d e k k _ _ he, List.all_cons]
  cases hb : f i == g i
  ·simp
  ·simpa using ih
def Opd.eqB (a b : Opd) : Bool := ((a.k == b.k) && ((a.r == b.r) && ((a.imm == b.imm) && ((a.b == b.b) && ((a.x == b.x) && ((a.sc == b.sc) && true))))))
def Ins.eqB (i j : Ins) : Bool := ((i.op == j.op) && ((i.cond == j.cond) && (i.a.eqB j.a && (i.b.eqB j.b && ((i.rep == j.rep) && ((i.len == j.len) && true))))))
theorem Opd.eqB_self (a : Opd) : a.eqB a = true := by simp [Opd.eqB]
theorem Ins.eqB_self (i : Ins) : i.eqB i = true := by simp [Ins.eqB, Opd.eqB_self]
theorem Opd.eqB_iff (a b : Opd) : a.eqB b = true ↔ a = b := by
 constructor
 ·intro h
  simp only [Opd.eqB, Bool.and_eq_true, beq_iff_eq, and_true] at h
  exact Opd.ext' h.1 h.2.1 h.2.2.1 h.2.2.2.1 h.2.2.2.2.1 h.2.2.2.2.2
 ·rintro rfl; exact a.eqB_self
theorem Ins.eqB_iff (i j : Ins) : i.eqB j = true ↔ i = j := by
 constructor
 ·intro h
  simp only [Ins.eqB, Bool.and_eq_true, beq_iff_eq, and_true, Opd.eqB_iff] at h
  obtain ⟨h1, h2, h3, h4, h5, h6⟩ := h
  cases i; cases j; simp_all
 ·rintro rfl; exact i.eqB_self
end Go.Proofs.YthakgjpejhjaoaaGreat
