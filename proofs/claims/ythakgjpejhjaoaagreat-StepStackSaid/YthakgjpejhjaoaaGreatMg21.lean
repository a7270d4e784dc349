/-
  Parts of the proof (their names shortened by a program). No condition.
-/
import Derived.Test.YthakgjpejhjaoaaGreatMg01
import Derived.Test.YthakgjpejhjaoaaGreatMg17
import Derived.Test.YthakgjpejhjaoaaGreatMg18
import Derived.Test.YthakgjpejhjaoaaGreatMg08
import Derived.Test.YthakgjpejhjaoaaGreatMg05
import Derived.Test.YthakgjpejhjaoaaGreatProg
import Derived.Laws.FloatArith
import Derived.Laws.Externs
import Derived.Test.YthakgjpejhjaoaaGreatMg04
import Derived.Test.YthakgjpejhjaoaaGreatMg06
import Derived.Test.YthakgjpejhjaoaaGreatMg19
import Derived.Test.YthakgjpejhjaoaaGreatMg20
namespace Go.Proofs.YthakgjpejhjaoaaGreat
open Go Go.RowKit
set_option linter.unusedVariables false
set_option linter.unusedSimpArgs false
set_option maxRecDepth 100000
set_option maxHeartbeats 16000000
section
structure Dq (w : World) (d a pb : Nat) (s : St) (i : Ins) (M : Mem) (L : List (Nat × Obj)) (w1 : World) : Prop where
 b : Yy w1 d a pb s i M
 o : ∀ p ∈ L, w1.heap[p.1]? = some p.2
 u : Upd [d, pb] w w1
 n : ∀ p ∈ L, p.1 ≠ d ∧ p.1 ≠ pb
section
variable {w w1 w2 : World} {d a pb : Nat} {s s2 : St} {i : Ins} {M M2 : Mem} {L : List (Nat × Obj)}
theorem Dq.quiet (h : Dq w d a pb s i M L w1) (u : Upd [] w1 w2) : Dq w d a pb s i M L w2 :=
 ⟨h.b.keep u (by simp) (by simp) (by simp), fun p hp => u.get (h.o p hp) (by simp), h.u.also u (by simp), h.n⟩
theorem Dq.drew (h : Dq w d a pb s i M L w1) : Dq w d a pb s i M L w1.drew := h.quiet (Upd.refl [] w1).drew
theorem Dq.next (h : Dq w d a pb s i M L w1) (hd : Yy w2 d a pb s2 i M2) (u : Upd [d, pb] w1 w2) : Dq w d a pb s2 i M2 L w2 :=
 ⟨hd, fun p hp => u.get (h.o p hp) (by have := h.n p hp; simp; exact ⟨this.1, this.2⟩), h.u.also u (fun x hx => .inl hx), h.n⟩
theorem Dq.of (h : Yy w d a pb s i M) : Dq w d a pb s i M [] w := ⟨h, by simp, Upd.refl _ _, by simp⟩
theorem Dq.one {b : Nat} {c : Array Value} {t : TypeId} {f : Nat × Nat} (h : Dq w d a pb s i M ((b, .cells c t f) :: L) w1) : w1.heap[b]? = some (.cells c t f) := h.o (b, .cells c t f) (by simp)
theorem Dq.ins {g : Nat} (h : Dq w d a pb s i M ((g, .cells i.cells 41 (0, 0)) :: L) w1) : ∀ o, w1.cell? ⟨g, o, none⟩ = i.cells[o]? := Ya h.one
theorem Dq.lts (h : Dq w d a pb s i M L w1) : d < w1.heap.size ∧ a < w1.heap.size ∧ pb < w1.heap.size ∧ ∀ p ∈ L, p.1 < w1.heap.size :=
 ⟨h.b.lt, by obtain ⟨C, _, hc⟩ := h.b.m.hd; exact Yi hc, by obtain ⟨C, _, hc⟩ := h.b.m.pg; exact Yi hc, fun p hp => Yi (h.o p hp)⟩
theorem Dq.lay (h : Dq w d a pb s i M L w1) (c : Array Value) (t : TypeId) : Dq w d a pb s i M ((w1.heap.size, .cells c t (0, 0)) :: L) (w1.alloc (.cells c t)) := by
 have h' := h.quiet ((Upd.refl [] w1).alloc (.cells c t))
 refine ⟨h'.b, fun p hp => ?_, h'.u, fun p hp => ?_⟩
 ·rcases List.mem_cons.1 hp with rfl | hp
  ·exact heap_alloc_new w1 _
  ·exact h'.o p hp
 ·rcases List.mem_cons.1 hp with rfl | hp
  ·have := h.lts; exact ⟨by dsimp only; omega, by dsimp only; omega⟩
  ·exact h.n p hp
theorem Dq.add (h : Dq w d a pb s i M L w1) {g : Nat} {o : Obj} (hg : w1.heap[g]? = some o) (h1 : g ≠ d) (h2 : g ≠ pb) : Dq w d a pb s i M ((g, o) :: L) w1 := by
 refine ⟨h.b, fun p hp => ?_, h.u, fun p hp => ?_⟩
 ·rcases List.mem_cons.1 hp with rfl | hp
  ·exact hg
  ·exact h.o p hp
 ·rcases List.mem_cons.1 hp with rfl | hp
  ·exact ⟨h1, h2⟩
  ·exact h.n p hp
theorem Dq.put {b : Nat} {c v : Array Value} {t : TypeId} (h : Dq w d a pb s i M ((b, .cells c t (0, 0)) :: L) w1) (hb : w.heap.size ≤ b) (hba : b ≠ a) (hL : ∀ p ∈ L, p.1 ≠ b) (hv : wr c 0 v.toList = v) (hw : w1.setCells b 0 v.toList = w2) : Dq w d a pb s i M ((b, .cells v t (0, 0)) :: L) w2 := by
 subst hw
 have u := (Upd.refl [b] w1).setCells (q := b) (.inl (by simp)) v.toList 0
 have hn := h.n (b, .cells c t (0, 0)) (by simp)
 refine ⟨h.b.keep u (by simpa using fun e => hn.1 e.symm) (by simpa using fun e => hba e.symm) (by simpa using fun e => hn.2 e.symm), fun p hp => ?_, h.u.also u (fun x hx => .inr (by rw [List.mem_singleton.1 hx]; exact hb)), fun p hp => ?_⟩
 ·rcases List.mem_cons.1 hp with rfl | hp
  ·rw [Yaj _ _ _ _ h.one, hv]
  ·exact u.get (h.o p (by simp [hp])) (by simpa using hL p hp)
 ·rcases List.mem_cons.1 hp with rfl | hp
  ·exact hn
  ·exact h.n p (by simp [hp])
theorem Dq.tail {p : Nat × Obj} (h : Dq w d a pb s i M (p :: L) w1) : Dq w d a pb s i M L w1 := ⟨h.b, fun q hq => h.o q (by simp [hq]), h.u, fun q hq => h.n q (by simp [hq])⟩
end
structure Dg (w : World) (d a pb : Nat) (s : St) (i : Ins) (M : Mem) (L : List (Nat × Obj)) (n0 k m : Nat) (T : TypeId) (Z V : Array Value) (dn : Nat → Bool) (r : Nat → Value) (w1 : World) : Prop where
 q : Dq w d a pb s i M L w1
 b : n0 ≤ w1.heap.size
 lt : (d < n0 ∧ a < n0 ∧ pb < n0 ∧ ∀ p ∈ L, p.1 < n0) ∧ w.heap.size ≤ n0
 x : dn k = true → ∃ g, r k = .pointer (some ⟨g, 0, none⟩) ∧ n0 ≤ g ∧ w1.heap[g]? = some (.cells (if dn m then V else Z) T (0, 0))
 xo : dn m = true → dn k = true
section
variable {w w1 w2 : World} {d a pb n0 k m : Nat} {s s2 : St} {i : Ins} {M M2 : Mem} {L : List (Nat × Obj)} {T : TypeId} {Z V : Array Value} {dn : Nat → Bool} {r : Nat → Value}
theorem Dg.start (h : Dq w d a pb s i M L w1) (k m : Nat) (T : TypeId) (Z V : Array Value) (r : Nat → Value) : Dg w d a pb s i M L w1.heap.size k m T Z V (fun _ => false) r w1.drew :=
 ⟨h.drew, ((Upd.refl [] w1).drew).size, ⟨h.lts, h.u.size⟩, fun h => (by cases h), fun h => (by cases h)⟩
theorem Dg.quiet (h : Dg w d a pb s i M L n0 k m T Z V dn r w1) (u : Upd [] w1 w2) (j : Nat) (h1 : k ≠ j) (h2 : m ≠ j) : Dg w d a pb s i M L n0 k m T Z V (Yah dn j) r w2 := by
 refine ⟨h.q.quiet u, Nat.le_trans h.b u.size, h.lt, fun hx => ?_, fun hx => ?_⟩
 ·rw [Yaa h1] at hx
  obtain ⟨g, e1, e2, e3⟩ := h.x hx
  exact ⟨g, e1, e2, by rw [Yaa h2]; exact u.get e3 (by simp)⟩
 ·rw [Yaa h2] at hx; rw [Yaa h1]; exact h.xo hx
theorem Dg.same (h : Dg w d a pb s i M L n0 k m T Z V dn r w1) (j : Nat) (h1 : k ≠ j) (h2 : m ≠ j) : Dg w d a pb s i M L n0 k m T Z V (Yah dn j) r w1 := h.quiet (Upd.refl [] w1) j h1 h2
theorem Dg.lay (h : Dg w d a pb s i M L n0 k m T Z V dn r w1) (hd : dn k = false) (hkm : m ≠ k) : Dg w d a pb s i M L n0 k m T Z V (Yah dn k) (Ycw r k (.pointer (some ⟨w1.heap.size, 0, none⟩))) (w1.alloc (.cells Z T)) := by
 have hdm : dn m = false := by
  cases e : dn m with
  |false => rfl
  |true => rw [h.xo e] at hd; cases hd
 have u := (Upd.refl [] w1).alloc (.cells Z T)
 refine ⟨h.q.quiet u, Nat.le_trans h.b u.size, h.lt, fun _ => ⟨_, Yg6, h.b, ?_⟩, fun _ => Yds⟩
 rw [Yaa hkm, hdm]
 exact heap_alloc_new _ _
theorem Dg.put (h : Dg w d a pb s i M L n0 k m T Z V dn r w1) (hd : dn k = true) {g : Nat} (e1 : r k = .pointer (some ⟨g, 0, none⟩)) (hv : ∀ c, (c = V ∨ c = Z) → wr c 0 V.toList = V) (hkm : k ≠ m) : Dg w d a pb s i M L n0 k m T Z V (Yah dn m) r (w1.setCells g 0 V.toList) := by
 obtain ⟨g', e1', e2, e3⟩ := h.x hd
 obtain rfl : g' = g := by rw [e1] at e1'; injection e1' with e; injection e with e; injection e with e; exact e.symm
 have u := (Upd.refl [g'] w1).setCells (q := g') (.inl (by simp)) V.toList 0
 have hl := h.lt.1
 refine ⟨⟨h.q.b.keep u (by simp; omega) (by simp; omega) (by simp; omega), fun p hp => u.get (h.q.o p hp) (by have := hl.2.2.2 p hp; simp; omega), h.q.u.also u (fun x hx => .inr (by rw [List.mem_singleton.1 hx]; exact Nat.le_trans h.lt.2 e2)), h.q.n⟩, Nat.le_trans h.b u.size, h.lt, fun _ => ⟨g', e1, e2, ?_⟩, fun _ => by rw [Yaa hkm]; exact hd⟩
 rw [Yds, if_pos rfl, Yaj _ _ _ _ e3, hv _ (by split <;> simp)]
theorem Dg.fin (h : Dg w d a pb s i M L n0 k m T Z V dn r w1) (hk : dn k = true) : ∃ g, r k = .pointer (some ⟨g, 0, none⟩) ∧ Dq w d a pb s i M ((g, .cells (if dn m then V else Z) T (0, 0)) :: L) w1 ∧ (w.heap.size ≤ g ∧ g ≠ a ∧ ∀ p ∈ L, p.1 ≠ g) := by
 obtain ⟨g, e1, e2, e3⟩ := h.x hk
 have hl := h.lt
 exact ⟨g, e1, h.q.add e3 (by omega) (by omega), by omega, by omega, fun p hp => by have := hl.1.2.2.2 p hp; omega⟩
end
end
section
structure AlW (w : World) (f g : Fl) (w1 : World) : Prop where
 z7 : w1.heap[w.heap.size]? = some (.cells f.cells 25 (0, 0))
 z9 : w1.heap[w.heap.size + 1]? = some (.cells Fl.zero.cells 25 (0, 0))
 z10 : w1.heap[w.heap.size + 1 + 1]? = some (.cells g.cells 25 (0, 0))
 u : Upd [] w w1
section
variable {w w1 w2 : World} {f g : Fl}
theorem AlW.of (w : World) (f g : Fl) : AlW w f g (((w.alloc (.cells f.cells 25)).alloc (.cells Fl.zero.cells 25)).alloc (.cells g.cells 25)) := by
 have h2 := heap_alloc_new ((w.alloc (.cells f.cells 25)).alloc (.cells Fl.zero.cells 25)) (.cells g.cells 25)
 rw [show ((w.alloc (.cells f.cells 25)).alloc (.cells Fl.zero.cells 25)).heap.size = w.heap.size + 1 + 1 from by simp] at h2
 exact ⟨Yk _ (heap_alloc2_old _ _ _), Yk _ (heap_alloc2_new _ _ _), h2, (((Upd.refl [] w).alloc _).alloc _).alloc _⟩
theorem AlW.drew (h : AlW w f g w1) : AlW w f g w1.drew := by
 have u := (Upd.refl [] w1).drew
 exact ⟨u.get h.z7 (by simp), u.get h.z9 (by simp), u.get h.z10 (by simp), h.u.drew⟩
theorem AlW.quiet (h : AlW w f g w1) (u : Upd [] w1 w2) : AlW w f g w2 := ⟨u.get h.z7 (by simp), u.get h.z9 (by simp), u.get h.z10 (by simp), h.u.also u (by simp)⟩
theorem AlW.put (h : AlW w f g w1) (k : Nat) (x : Bool) (f' : Fl) (he : f.cells.setIfInBounds k (.bool x) = f'.cells) : AlW w f' g (w1.setCell ⟨w.heap.size, k, none⟩ (.bool x)) := by
 have u := (Upd.refl [w.heap.size] w1).setCell (p := ⟨w.heap.size, k, none⟩) (.inl (by simp)) (.bool x)
 exact ⟨by rw [← he]; exact Yf h.z7 k (.bool x), u.get h.z9 (by simp), u.get h.z10 (by simp <;> omega), h.u.setCell (p := ⟨w.heap.size, k, none⟩) (.inr (Nat.le_refl _)) _⟩
theorem AlW.st (h : AlW w f g w1) (x0 x1 x2 x3 x4 x5 : Bool) : AlW w ⟨x0, x1, x2, x3, x4, x5⟩ g ((((((w1.setCell ⟨w.heap.size, 0, none⟩ (.bool x0)).setCell ⟨w.heap.size, 1, none⟩ (.bool x1)).setCell ⟨w.heap.size, 2, none⟩ (.bool x2)).setCell ⟨w.heap.size, 3, none⟩ (.bool x3)).setCell ⟨w.heap.size, 4, none⟩ (.bool x4)).setCell ⟨w.heap.size, 5, none⟩ (.bool x5)) := by
 have u := Ya5 (S := [w.heap.size]) (b := w.heap.size) (Upd.refl _ w1) (.inl (by simp)) (.bool x0) (.bool x1) (.bool x2) (.bool x3) (.bool x4) (.bool x5)
 exact ⟨Yca h.z7 _ _ _ _ _ _, u.get h.z9 (by simp), u.get h.z10 (by simp <;> omega), Ya5 h.u (.inr (Nat.le_refl _)) _ _ _ _ _ _⟩
end
end
theorem Dq.putFl {w w1 : World} {d a pb : Nat} {s : St} {i : Ins} {M : Mem} {L : List (Nat × Obj)} (h : Dq w d a pb s i M L w1) (F : Fl) : Dq w d a pb (s.setFl F) i M L (w1.setCells d 10 F.cells.toList) :=
 h.next (h.b.putFl F) ((Upd.refl [d, pb] w1).setCells (.inl (by simp)) _ _)
section
def mS (s : St) (x y : Int) (b1 b2 : Bool) : St := let t := if b1 = true then s.setR 0 x else s; if b2 = true then t.setR 2 y else t
theorem mS_comm (s : St) (x y : Int) : (s.setR 2 y).setR 0 x = (s.setR 0 x).setR 2 y := by
 unfold St.setR
 dsimp only
 congr 1
 funext j
 by_cases h0 : j = 0
 ·simp [h0]
 ·simp [h0]
theorem mS_first (s : St) (x y : Int) (b : Bool) : (mS s x y false b).setR 0 x = mS s x y true b := by
 cases b
 ·rfl
 ·exact mS_comm s x y
theorem mS_R0 (s : St) (x y : Int) (b2 : Bool) : (mS s x y false b2).R 0 = s.R 0 := by cases b2 <;> rfl
structure D9 (w : World) (d a pb : Nat) (s : St) (i : Ins) (M : Mem) (x y : Int) (dn : Nat → Bool) (w1 : World) : Prop where
 i1 : dn 18 = true → dn 11 = true
 i2 : dn 19 = true → dn 18 = true
 i3 : dn 20 = true → dn 19 = true
 i4 : dn 25 = true → dn 11 = true
 q : Dq w d a pb (mS s x y (dn 25) (dn 28)) i M [] w1
theorem Ye6 {dn : Nat → Bool} {p q : Nat} (h : dn p = true → dn q = true) (j : Nat) (hj : p ≠ j) : Yah dn j p = true → Yah dn j q = true := by
 rw [Yaa hj]
 intro hp
 by_cases e : q = j
 ·rw [e]; exact Yds
 ·rw [Yaa e]; exact h hp
theorem imp_at {dn : Nat → Bool} {p q : Nat} (h : dn q = true) : Yah dn p p = true → Yah dn p q = true := by
 intro _
 by_cases e : q = p
 ·rw [e]; exact Yds
 ·rw [Yaa e]; exact h
section
variable {w w1 w2 : World} {d a pb : Nat} {s : St} {i : Ins} {M : Mem} {x y : Int} {dn : Nat → Bool}
theorem D9.start (h : Dq w d a pb s i M [] w1) : D9 w d a pb s i M x y (fun _ => false) w1.drew :=
 ⟨fun h => (by cases h), fun h => (by cases h), fun h => (by cases h), fun h => (by cases h), h.drew⟩
theorem D9.same (h : D9 w d a pb s i M x y dn w1) (u : Upd [] w1 w2) (j : Nat) (h1 : 18 ≠ j) (h2 : 19 ≠ j) (h3 : 20 ≠ j) (h4 : 25 ≠ j) (h5 : 28 ≠ j) : D9 w d a pb s i M x y (Yah dn j) w2 :=
 ⟨Ye6 h.i1 j h1, Ye6 h.i2 j h2, Ye6 h.i3 j h3, Ye6 h.i4 j h4, by rw [Yaa h4, Yaa h5]; exact h.q.quiet u⟩
theorem D9.call (h : D9 w d a pb s i M x y dn w1) (u : Upd [] w1 w2) (hd : dn 11 = true) : D9 w d a pb s i M x y (Yah dn 18) w2 :=
 ⟨imp_at hd, Ye6 h.i2 18 (by decide), Ye6 h.i3 18 (by decide), Ye6 h.i4 18 (by decide), by rw [Yaa (by decide), Yaa (by decide)]; exact h.q.quiet u⟩
theorem D9.c1 (h : D9 w d a pb s i M x y dn w1) (hd : dn 11 = false) : w1.cell? ⟨d, 1, none⟩ = some (.int .u32 (s.R 0)) := by
 have h0 : dn 25 = false := by
  cases e : dn 25 with
  |false => rfl
  |true => rw [h.i4 e] at hd; cases hd
 have := h.q.b.cR 0 (by decide)
 rw [h0, mS_R0] at this
 exact this
structure D6 (w : World) (d a pb : Nat) (s : St) (i : Ins) (M : Mem) (x : Int) (dn : Nat → Bool) (w1 : World) : Prop where
 q : Dq w d a pb (mS s x 0 (dn 6) false) i M [] w1
theorem D6.start (h : Dq w d a pb s i M [] w1) : D6 w d a pb s i M x (fun _ => false) w1.drew := ⟨h.drew⟩
theorem D6.same (h : D6 w d a pb s i M x dn w1) (j : Nat) (hj : 6 ≠ j) : D6 w d a pb s i M x (Yah dn j) w1 := ⟨by rw [Yaa hj]; exact h.q⟩
theorem D6.put (h : D6 w d a pb s i M x dn w1) (h0 : dn 6 = false) (hx : 0 ≤ x ∧ x < 4294967296) : D6 w d a pb s i M x (Yah dn 6) (w1.setCell ⟨d, 1, none⟩ (.int .u32 x)) := by
 have hq := h.q
 rw [h0] at hq
 refine ⟨?_⟩
 rw [Yds, ← mS_first]
 exact hq.next (hq.b.setR 0 (by decide) x hx) ((Upd.refl [d, pb] w1).setCell (p := ⟨d, 1, none⟩) (.inl (by simp)) _)
end
end
structure Hs where
 x : Nat → Int
 mem : Value
 pc : Int
 why : Int
def Hs.at_ (H : Hs) (k : Nat) : Value := if k < 32 then .int .u32 (H.x k) else if k = 32 then H.mem else if k = 33 then .int .u32 H.pc else .int .u32 H.why
def Hs.cells (H : Hs) : Array Value := (Array.range 35).map H.at_
def Hs.set (H : Hs) (i : Nat) (v : Int) : Hs := { H with x := fun j => if j = i then v else H.x j }
def Hs.get (H : Hs) (i : Int) : Int := if i < 1 ∨ 32 ≤ i then 0 else H.x i.toNat
def Hs.put (H : Hs) (i v : Int) : Hs := if i < 1 ∨ 32 ≤ i then H else H.set i.toNat v
theorem Hs.cell (H : Hs) (k : Nat) (h : k < 35) : H.cells[k]? = some (H.at_ k) := by simp [Hs.cells, h]
theorem Hs.size (H : Hs) : H.cells.size = 35 := by simp [Hs.cells]
def Hs.zero (m : Nat) : Hs := ⟨fun _ => 0, .slice (some ⟨m, 0, none⟩) 32768 32768, 1024, 0⟩
def Hs.two (H : Hs) (i : Int) : Int := H.get (10 + i) + H.get (11 + i) * 4294967296
section
def cS (s : St) (z p : Bool) (b1 b2 : Bool) : St := { s with zf := cond b1 z s.zf, pf := cond b2 p s.pf }
structure D21 (w : World) (d a pb : Nat) (s : St) (i : Ins) (M : Mem) (z p : Bool) (dn : Nat → Bool) (w1 : World) : Prop where
 q : Dq w d a pb (cS s z p (dn 17) (dn 21)) i M [] w1
def mM (M M2 : Mem) (b : Bool) : Mem := cond b M2 M
structure D5 (w : World) (d a pb : Nat) (s : St) (i : Ins) (M M2 : Mem) (n0 : Nat) (V : Array Value) (dn : Nat → Bool) (r : Nat → Value) (w1 : World) : Prop where
 q : Dq w d a pb s i (mM M M2 (dn 17)) [] w1
 b : n0 ≤ w1.heap.size
 lt : (d < n0 ∧ a < n0 ∧ pb < n0) ∧ w.heap.size ≤ n0
 x : dn 21 = true → ∃ g, r 21 = .pointer (some ⟨g, 0, none⟩) ∧ n0 ≤ g ∧ w1.heap[g]? = some (.cells (if dn 22 = true then V else Yt Flt.zero) 35 (0, 0))
 xo : dn 22 = true → dn 21 = true
section
variable {w w1 w2 : World} {d a pb n0 : Nat} {s : St} {i : Ins} {M M2 : Mem} {z p : Bool} {V : Array Value} {dn : Nat → Bool} {r : Nat → Value}
theorem D21.start (h : Dq w d a pb s i M [] w1) : D21 w d a pb s i M z p (fun _ => false) w1.drew := ⟨h.drew⟩
theorem D21.quiet (h : D21 w d a pb s i M z p dn w1) (u : Upd [] w1 w2) (j : Nat) (h1 : 17 ≠ j) (h2 : 21 ≠ j) : D21 w d a pb s i M z p (Yah dn j) w2 := ⟨by rw [Yaa h1, Yaa h2]; exact h.q.quiet u⟩
theorem D21.next (h : D21 w d a pb s i M z p dn w1) (hd : Yy w2 d a pb (cS s z p (dn 17) (dn 21)) i M) (u : Upd [d, pb] w1 w2) (j : Nat) (h1 : 17 ≠ j) (h2 : 21 ≠ j) : D21 w d a pb s i M z p (Yah dn j) w2 := ⟨by rw [Yaa h1, Yaa h2]; exact h.q.next hd u⟩
theorem D5.start (h : Dq w d a pb s i M [] w1) (M2 : Mem) (V : Array Value) (r : Nat → Value) : D5 w d a pb s i M M2 w1.heap.size V (fun _ => false) r w1.drew :=
 ⟨h.drew, ((Upd.refl [] w1).drew).size, ⟨⟨h.lts.1, h.lts.2.1, h.lts.2.2.1⟩, h.u.size⟩, fun h => (by cases h), fun h => (by cases h)⟩
theorem D5.quiet (h : D5 w d a pb s i M M2 n0 V dn r w1) (u : Upd [] w1 w2) (j : Nat) (h0 : 17 ≠ j) (h1 : 21 ≠ j) (h2 : 22 ≠ j) : D5 w d a pb s i M M2 n0 V (Yah dn j) r w2 := by
 refine ⟨by rw [Yaa h0]; exact h.q.quiet u, Nat.le_trans h.b u.size, h.lt, fun hx => ?_, fun hx => ?_⟩
 ·rw [Yaa h1] at hx
  obtain ⟨g, e1, e2, e3⟩ := h.x hx
  exact ⟨g, e1, e2, by rw [Yaa h2]; exact u.get e3 (by simp)⟩
 ·rw [Yaa h2] at hx; rw [Yaa h1]; exact h.xo hx
theorem D5.same (h : D5 w d a pb s i M M2 n0 V dn r w1) (j : Nat) (h0 : 17 ≠ j) (h1 : 21 ≠ j) (h2 : 22 ≠ j) : D5 w d a pb s i M M2 n0 V (Yah dn j) r w1 := h.quiet (Upd.refl [] w1) j h0 h1 h2
theorem D5.call (h : D5 w d a pb s i M M2 n0 V dn r w1) (hm : Yl w2 a pb M2) (u : Upd [pb] w1 w2) : D5 w d a pb s i M M2 n0 V (Yah dn 17) r w2 := by
 have hl := h.lt
 refine ⟨by rw [Yds]; exact h.q.next (h.q.b.mem u hm) (u.mono (by simp)), Nat.le_trans h.b u.size, h.lt, fun hx => ?_, fun hx => ?_⟩
 ·rw [Yaa (by decide)] at hx
  obtain ⟨g, e1, e2, e3⟩ := h.x hx
  exact ⟨g, e1, e2, by rw [Yaa (by decide)]; exact u.get e3 (by simp; omega)⟩
 ·rw [Yaa (by decide)] at hx; rw [Yaa (by decide)]; exact h.xo hx
theorem D5.lay (h : D5 w d a pb s i M M2 n0 V dn r w1) (hd : dn 21 = false) : D5 w d a pb s i M M2 n0 V (Yah dn 21) (Ycw r 21 (.pointer (some ⟨w1.heap.size, 0, none⟩))) (w1.alloc (.cells (Yt Flt.zero) 35)) := by
 have hdm : dn 22 = false := by
  cases e : dn 22 with
  |false => rfl
  |true => rw [h.xo e] at hd; cases hd
 have u := (Upd.refl [] w1).alloc (.cells (Yt Flt.zero) 35)
 refine ⟨by rw [Yaa (by decide)]; exact h.q.quiet u, Nat.le_trans h.b u.size, h.lt, fun _ => ⟨_, Yg6, h.b, ?_⟩, fun _ => Yds⟩
 rw [Yaa (by decide), hdm]
 exact heap_alloc_new _ _
theorem D5.put (h : D5 w d a pb s i M M2 n0 V dn r w1) (hd : dn 21 = true) {g : Nat} (e1 : r 21 = .pointer (some ⟨g, 0, none⟩)) (hv : ∀ c, (c = V ∨ c = Yt Flt.zero) → wr c 0 V.toList = V) : D5 w d a pb s i M M2 n0 V (Yah dn 22) r (w1.setCells g 0 V.toList) := by
 obtain ⟨g', e1', e2, e3⟩ := h.x hd
 obtain rfl : g' = g := by rw [e1] at e1'; injection e1' with e; injection e with e; injection e with e; exact e.symm
 have u := (Upd.refl [g'] w1).setCells (q := g') (.inl (by simp)) V.toList 0
 have hl := h.lt.1
 refine ⟨by rw [Yaa (by decide)]; exact ⟨h.q.b.keep u (by simp; omega) (by simp; omega) (by simp; omega), by simp, h.q.u.also u (fun x hx => .inr (by rw [List.mem_singleton.1 hx]; exact Nat.le_trans h.lt.2 e2)), by simp⟩, Nat.le_trans h.b u.size, h.lt, fun _ => ⟨g', e1, e2, ?_⟩, fun _ => by rw [Yaa (by decide)]; exact hd⟩
 rw [Yds, if_pos rfl, Yaj _ _ _ _ e3, hv _ (by split <;> simp)]
end
end
section
structure Out where
 k : Bool
 s : St
 M : Mem
 F : Flt
def okO (s : St) (M : Mem) : Out := ⟨true, s, M, Flt.zero⟩
def badO (F : Flt) (M : Mem) : Out := ⟨false, St.zero, M, F⟩
def DoesP (d a pb : Nat) (i : Ins) (O : Out) (w : World) (e : Ending) (w' : World) : Prop :=
 (O.k = true → e = .returned (.tuple #[]) ∧ Yy w' d a pb O.s i O.M) ∧ (O.k = false → e = .panicked [{ v := .iface 35 O.F.val, recovered := false }] ∧ Yl w' a pb O.M) ∧ Upd [d, pb] w w'
section
variable {d a pb : Nat} {i : Ins} {w w' : World} {e : Ending} {s2 : St} {M2 : Mem} {F : Flt}
theorem DoesP.ok (h : e = .returned (.tuple #[]) ∧ Yy w' d a pb s2 i M2 ∧ Upd [d, pb] w w') : DoesP d a pb i (okO s2 M2) w e w' := ⟨fun _ => ⟨h.1, h.2.1⟩, fun h => (by cases h), h.2.2⟩
theorem DoesP.bad (h : e = .panicked [{ v := .iface 35 F.val, recovered := false }] ∧ Yl w' a pb M2 ∧ Upd [d, pb] w w') : DoesP d a pb i (badO F M2) w e w' := ⟨fun h => (by cases h), fun _ => ⟨h.1, h.2.1⟩, h.2.2⟩
end
end
section
open Go.WideShapes Go.ChangeShapes
theorem wf_u64 {n : Int} (h : (Lit.int .u64 n).wf = true) : 0 ≤ n ∧ n < 18446744073709551616 := by
 simp [Lit.wf, IntKind.min, IntKind.max, IntKind.signed, IntKind.bits] at h; omega
theorem Yni {H : Type} {enc : TypeId × Value → H} {w : World} {base : Nat} {spare : Nat → Bool} {held : Bool} {r : Reach} {b0 : Nat} {v : Value} {d : DataW H} {p : List MemPlace}
  (hv : Value.okWide Tryz.prog w r b0 28 v) (h : DataW.Trod enc Tryz.prog w base spare held 28 v d p) : ∃ s : St, v = .agg s.cells ∧ s.Ok := by
 obtain ⟨cs, rfl, hs, hc⟩ := Yly (t := 28) (by kernel_rfl) hv h
 have hs : cs.size = 17 := hs.trans (by kernel_rfl)
 obtain ⟨_, e0, z0, rfl, w0⟩ := hc 8 0 (.int .u32) (by kernel_rfl)
 obtain ⟨_, e1, z1, rfl, w1⟩ := hc 8 1 (.int .u32) (by kernel_rfl)
 obtain ⟨_, e2, z2, rfl, w2⟩ := hc 8 2 (.int .u32) (by kernel_rfl)
 obtain ⟨_, e3, z3, rfl, w3⟩ := hc 8 3 (.int .u32) (by kernel_rfl)
 obtain ⟨_, e4, z4, rfl, w4⟩ := hc 8 4 (.int .u32) (by kernel_rfl)
 obtain ⟨_, e5, z5, rfl, w5⟩ := hc 8 5 (.int .u32) (by kernel_rfl)
 obtain ⟨_, e6, z6, rfl, w6⟩ := hc 8 6 (.int .u32) (by kernel_rfl)
 obtain ⟨_, e7, z7, rfl, w7⟩ := hc 8 7 (.int .u32) (by kernel_rfl)
 obtain ⟨_, e8, z8, rfl, w8⟩ := hc 8 8 (.int .u32) (by kernel_rfl)
 obtain ⟨_, e9, z9, rfl⟩ := hc 8 9 .bool (by kernel_rfl)
 obtain ⟨_, e10, z10, rfl⟩ := hc 8 10 .bool (by kernel_rfl)
 obtain ⟨_, e11, z11, rfl⟩ := hc 8 11 .bool (by kernel_rfl)
 obtain ⟨_, e12, z12, rfl⟩ := hc 8 12 .bool (by kernel_rfl)
 obtain ⟨_, e13, z13, rfl⟩ := hc 8 13 .bool (by kernel_rfl)
 obtain ⟨_, e14, z14, rfl⟩ := hc 8 14 .bool (by kernel_rfl)
 obtain ⟨_, e15, z15, rfl⟩ := hc 8 15 .bool (by kernel_rfl)
 obtain ⟨_, e16, z16, rfl, w16⟩ := hc 8 16 (.int .u64) (by kernel_rfl)
 have w0 := Yd8 w0
 have w1 := Yd8 w1
 have w2 := Yd8 w2
 have w3 := Yd8 w3
 have w4 := Yd8 w4
 have w5 := Yd8 w5
 have w6 := Yd8 w6
 have w7 := Yd8 w7
 have w8 := Yd8 w8
 have w16 := wf_u64 w16
 refine ⟨⟨fun i => if i = 0 then z0 else if i = 1 then z1 else if i = 2 then z2 else if i = 3 then z3 else if i = 4 then z4 else if i = 5 then z5 else if i = 6 then z6 else if i = 7 then z7 else 0, z8, z9, z10, z11, z12, z13, z14, z15, z16⟩, ?_, ?_, ?_, ?_⟩
 ·congr 1
  apply Array.ext_getElem?
  intro j
  by_cases hj : j < 17
  ·match j, hj with
   |0, _ => exact e0
   |1, _ => exact e1
   |2, _ => exact e2
   |3, _ => exact e3
   |4, _ => exact e4
   |5, _ => exact e5
   |6, _ => exact e6
   |7, _ => exact e7
   |8, _ => exact e8
   |9, _ => exact e9
   |10, _ => exact e10
   |11, _ => exact e11
   |12, _ => exact e12
   |13, _ => exact e13
   |14, _ => exact e14
   |15, _ => exact e15
   |16, _ => exact e16
   |j + 17, h => omega
  ·rw [Array.getElem?_eq_none (by omega), Array.getElem?_eq_none (by rw [St.size]; omega)]
 ·intro i
  simp only
  repeat' split
  all_goals omega
 ·exact w8
 ·exact w16
end
section
section
variable {w w0 w1 w2 : World} {a pb : Nat} {M M2 : Mem} {L : List (Nat × Obj)} {T s' : St} {b : Nat}
theorem Kn.start1 {c : Array Value} {t : TypeId} (hu0 : Upd [] (w.alloc (.cells c t)) w0) (ha : w0.heap.size ≤ a) (hp : w0.heap.size ≤ pb) (hM : Yl w1 a pb M) (hu1 : Upd [] w0 w1) : Kn w a pb M [(w.heap.size, .cells c t (0, 0))] w1 := by
 have u := ((Upd.refl [] w).alloc (.cells c t)).also hu0 (by simp)
 have h0 := hu0.get (heap_alloc_new w (.cells c t)) (by simp)
 have hl := Yi h0
 have hs := hu1.size
 refine ⟨hM, u.also hu1 (by simp), fun p hp => ?_, List.pairwise_singleton _ _, fun p hp => ?_, Nat.le_trans u.size hp, fun p hp => ?_⟩
 ·rw [List.mem_singleton.1 hp]; exact hu1.get h0 (by simp)
 ·rw [List.mem_singleton.1 hp]; dsimp only; omega
 ·rw [List.mem_singleton.1 hp]; exact Nat.le_refl _
theorem Kn.putR (h : Kn w a pb M L w1) (n : Nat) (hn : L[n]? = some (b, .cells T.cells 28 (0, 0))) (k : Nat) (hk : k < 8) (v : Int) : Kn w a pb M (L.set n (b, .cells (T.setR k v).cells 28 (0, 0))) (w1.setCell ⟨b, k, none⟩ (.int .u32 v)) :=
 h.put n hn ((Upd.refl [b] w1).setCell (p := ⟨b, k, none⟩) (.inl (by simp)) _) (by rw [← St.cells_setR T k v hk]; exact Yf (h.get n hn) k _)
theorem Kn.putC (h : Kn w a pb M L w1) (n : Nat) (hn : L[n]? = some (b, .cells T.cells 28 (0, 0))) (k : Nat) (v : Value) (hc : T.cells.setIfInBounds k v = s'.cells) : Kn w a pb M (L.set n (b, .cells s'.cells 28 (0, 0))) (w1.setCell ⟨b, k, none⟩ v) :=
 h.put n hn ((Upd.refl [b] w1).setCell (p := ⟨b, k, none⟩) (.inl (by simp)) _) (by rw [← hc]; exact Yf (h.get n hn) k _)
end
end
def St.eqB (s t : St) : Bool := (((List.range 8).all fun i => s.R i == t.R i) && ((s.pc == t.pc) && ((((s.cf == t.cf) && ((s.pf == t.pf) && ((s.af == t.af) && ((s.zf == t.zf) && ((s.sf == t.sf) && ((s.of_ == t.of_) && true))))))) && ((s.df == t.df) && ((s.f == t.f) && true)))))
theorem St.eqB_self (s : St) : s.eqB s = true := by simp [St.eqB]
theorem St.eqB_iff (s t : St) : s.eqB t = true ↔ (∀ i, i < 8 → s.R i = t.R i) ∧ s.pc = t.pc ∧ s.cf = t.cf ∧ s.pf = t.pf ∧ s.af = t.af ∧ s.zf = t.zf ∧ s.sf = t.sf ∧ s.of_ = t.of_ ∧ s.df = t.df ∧ s.f = t.f := by
 simp only [St.eqB, Bool.and_eq_true, List.all_eq_true, List.mem_range, beq_iff_eq, and_true]
 constructor
 ·rintro ⟨h1, h2, ⟨h3, h4, h5, h6, h7, h8⟩, h9, h10⟩; exact ⟨h1, h2, h3, h4, h5, h6, h7, h8, h9, h10⟩
 ·rintro ⟨h1, h2, h3, h4, h5, h6, h7, h8, h9, h10⟩; exact ⟨h1, h2, ⟨h3, h4, h5, h6, h7, h8⟩, h9, h10⟩
def Ygy (s : St) : Array Value := #[.bool s.cf, .bool s.pf, .bool s.af, .bool s.zf, .bool s.sf, .bool s.of_]
theorem Yg9 (s t : St) (w : World) (d : Nat) : (Op.equalIn (d + 1 + 1) 25 (.agg (Ygy s)) (.agg (Ygy t))).run Tryz.prog w = .ok ((s.cf == t.cf) && ((s.pf == t.pf) && ((s.af == t.af) && ((s.zf == t.zf) && ((s.sf == t.sf) && ((s.of_ == t.of_) && true)))))) w := by
 have hf : Tryz.prog.fieldsOf 25 = #[{ name := "CF", type := 4, offset := 0, embedded := false, tag := "", pkgPath := "", byteOffset := 0 }, { name := "PF", type := 4, offset := 1, embedded := false, tag := "", pkgPath := "", byteOffset := 1 },
  { name := "AF", type := 4, offset := 2, embedded := false, tag := "", pkgPath := "", byteOffset := 2 }, { name := "ZF", type := 4, offset := 3, embedded := false, tag := "", pkgPath := "", byteOffset := 3 },
  { name := "SF", type := 4, offset := 4, embedded := false, tag := "", pkgPath := "", byteOffset := 4 }, { name := "OF", type := 4, offset := 5, embedded := false, tag := "", pkgPath := "", byteOffset := 5 }] := by kernel_rfl
 have hu : Tryz.prog.underlying 25 = some (.struct (Tryz.prog.fieldsOf 25)) := by kernel_rfl
 have hp : Tryz.prog.plainKey 4 = true := by kernel_rfl
 have hb := fun (a b : Bool) => run_equalIn_bool (P := Tryz.prog) w d 4 a b Tryz.underlying4
 rw [run_equalIn_struct w _ 25 _ _ hu (Tryz.stoodInHeld25), hf]
 exact Ybl (by decide) (run_part_plain w hp rfl) (run_part_plain w hp rfl) (hb _ _) (Ybl (by decide) (run_part_plain w hp rfl) (run_part_plain w hp rfl) (hb _ _) (Ybl (by decide) (run_part_plain w hp rfl) (run_part_plain w hp rfl) (hb _ _) (Ybl (by decide) (run_part_plain w hp rfl) (run_part_plain w hp rfl) (hb _ _) (Ybl (by decide) (run_part_plain w hp rfl) (run_part_plain w hp rfl) (hb _ _) (Ybl (by decide) (run_part_plain w hp rfl) (run_part_plain w hp rfl) (hb _ _) Ygv)))))
theorem Yha (s t : St) (w : World) (d : Nat) : (Op.equalIn (d + 1 + 1 + 1) 28 (.agg s.cells) (.agg t.cells)).run Tryz.prog w = .ok (s.eqB t) w := by
 have hf : Tryz.prog.fieldsOf 28 = #[{ name := "R", type := 23, offset := 0, embedded := false, tag := "", pkgPath := "", byteOffset := 0 }, { name := "PC", type := 22, offset := 8, embedded := false, tag := "", pkgPath := "", byteOffset := 32 },
  { name := "Fl", type := 25, offset := 9, embedded := false, tag := "", pkgPath := "", byteOffset := 36 }, { name := "DF", type := 4, offset := 15, embedded := false, tag := "", pkgPath := "", byteOffset := 42 }, { name := "F", type := 26, offset := 16, embedded := false, tag := "", pkgPath := "", byteOffset := 48 }] := by kernel_rfl
 have hu : Tryz.prog.underlying 28 = some (.struct (Tryz.prog.fieldsOf 28)) := by kernel_rfl
 have hpB : Tryz.prog.plainKey 4 = true := by kernel_rfl
 have hp32 : Tryz.prog.plainKey 22 = true := by kernel_rfl
 have hp64 : Tryz.prog.plainKey 26 = true := by kernel_rfl
 have hc : Tryz.prog.cellsOf 22 = 1 := by kernel_rfl
 have hpR := fun xs : Array Value => Yie (P := Tryz.prog) (xs := xs) (t := 23) (i := Tryz.t23) (n := 8) (off := 0) w (Tryz.isAgg23 w) (by kernel_rfl) (by kernel_rfl)
 have hpF := fun xs : Array Value => Yie (P := Tryz.prog) (xs := xs) (t := 25) (i := Tryz.t25) (n := 6) (off := 9) w (Tryz.isAgg25 w) (by kernel_rfl) (by kernel_rfl)
 have eF : ∀ s : St, s.cells.extract 9 (9 + 6) = Ygy s := fun s => by simp [St.cells, Ygy]
 have hR : (Op.equalIn (d + 1 + 1) 23 (.agg (s.cells.extract 0 (0 + 8))) (.agg (t.cells.extract 0 (0 + 8)))).run Tryz.prog w = .ok ((List.range 8).all fun i => s.R i == t.R i) w := by
  rw [run_equalIn_array w (d + 1) (i := Tryz.t22) _ _ Tryz.underlying23 (by kernel_rfl), hc]
  have e : ∀ (s : St) i, i < 8 → (s.cells.extract 0 (0 + 8))[i]? = some (.int .u32 (s.R i)) := fun s i hi => by
   rw [Array.getElem?_extract, if_pos (by rw [St.size]; omega), Nat.zero_add, St.cR s i hi]
  exact Yhf w d Tryz.underlying22 _ _ _ _ _ (fun i hi => ⟨e s i (List.mem_range.1 hi), e t i (List.mem_range.1 hi)⟩)
 have hF := Yg9 s t w d
 rw [← eF s, ← eF t] at hF
 rw [run_equalIn_struct w _ 28 _ _ hu (Tryz.stoodInHeld28), hf]
 exact Ybl (by decide) (hpR _) (hpR _) hR (Ybl (by decide) (run_part_plain w hp32 rfl) (run_part_plain w hp32 rfl) (run_equalIn_int w _ 22 .u32 .u32 _ _ Tryz.underlying22)
  (Ybl (by decide) (hpF _) (hpF _) hF (Ybl (by decide) (run_part_plain w hpB rfl) (run_part_plain w hpB rfl) (run_equalIn_bool w _ 4 _ _ Tryz.underlying4)
  (Ybl (by decide) (run_part_plain w hp64 rfl) (run_part_plain w hp64 rfl) (run_equalIn_int w _ 26 .u64 .u64 _ _ Tryz.underlying26) Ygv))))
theorem Yi9 (s t : St) (w : World) : (binOp .eql 28 (.agg s.cells) (.agg t.cells)).run Tryz.prog w = .ok (.bool (s.eqB t)) w := by
 have h := Yha s t w 9997
 rw [run_eql_struct]
 rw [show (10000 : Nat) = 9997 + 1 + 1 + 1 from rfl, h, Result.andThen_ok]
section
def ssT (s : St) (n : Nat) : St := { s.setR 4 ((600 + n : Nat) : Int) with pc := 16 }
def ssA (s : St) (n : Nat) : St := { s.setR 4 ((596 + n : Nat) : Int) with pc := 17 }
def ssW (s : St) (n j : Nat) (v : Int) : St := { (ssT s n).setR j v with pc := 18 }
def ssC (s : St) (n : Nat) : St := { s.setR 4 ((596 + n : Nat) : Int) with pc := 61 }
def ssD (s : St) (n : Nat) : St := { s.setR 4 ((600 + n : Nat) : Int) with pc := 21 }
theorem St.mk_eq {s t : St} (hR : ∀ j, s.R j = t.R j) (h1 : s.pc = t.pc) (h2 : s.cf = t.cf) (h3 : s.pf = t.pf) (h4 : s.af = t.af) (h5 : s.zf = t.zf) (h6 : s.sf = t.sf) (h7 : s.of_ = t.of_) (h8 : s.df = t.df) (h9 : s.f = t.f) : s = t := by
 obtain ⟨R, pc, a, b, c, d, e, f, g, h⟩ := s
 obtain ⟨R', pc', a', b', c', d', e', f', g', h'⟩ := t
 have : R = R' := funext hR
 simp_all
section
variable {w : World} {a pb n : Nat} {s : St}
theorem ssT_ok (hs : s.Ok) (hn : n < 256) : (ssT s n).Ok := ⟨(St.setR_ok hs 4 (v := ((600 + n : Nat) : Int)) (by omega) (by omega)).R, by simp [ssT], hs.f⟩
theorem ssA_ok (hs : s.Ok) (hn : n < 256) : (ssA s n).Ok := ⟨(St.setR_ok hs 4 (v := ((596 + n : Nat) : Int)) (by omega) (by omega)).R, by simp [ssA], hs.f⟩
theorem ssC_ok (hs : s.Ok) (hn : n < 256) : (ssC s n).Ok := ⟨(St.setR_ok hs 4 (v := ((596 + n : Nat) : Int)) (by omega) (by omega)).R, by simp [ssC], hs.f⟩
theorem ssT_4 (hn : n < 256) : ((ssT s n).R 4 - 4) % 4294967296 = ((596 + n : Nat) : Int) := by
 show (((600 + n : Nat) : Int) - 4) % 4294967296 = _
 omega
theorem ss_push (hM : Yl w a pb stM) (hs : s.Ok) (hn : n < 256) (k : Nat) (hk : k < 8) (h4 : k ≠ 4) (z : Int) (hz : z = k) :
  Calls Tryz.prog 15 #[.pointer (some ⟨a, 0, none⟩), .agg (St.cells (ssT s n)), .agg (Ins.cells ⟨28, 0, ⟨1, z, 0, 0, 0, 0⟩, Opd.none, false, 1⟩)] w fun e w' =>
   e = .returned (.tuple #[.agg (St.cells (ssA s n)), Flt.zero.val, .bool true]) ∧ Yl w' a pb (stA n (s.R k)) ∧ Upd [pb] w w' := by
 subst hz
 have hx := ma_rw st_R (by decide) (596 + n) (by omega)
 have h := Do_push hM (ssT_ok hs hn) k (by rw [ssT_4 hn]; exact hx.2.2.1)
 rw [ssT_4 hn, hx.2.2.2] at h
 have e1 : ((ssT s n).goOn 1).setR 4 ((596 + n : Nat) : Int) = ssA s n := St.mk_eq (fun j => by
  by_cases e : j = 4 <;> simp [ssT, ssA, St.goOn, St.setR, e]) rfl rfl rfl rfl rfl rfl rfl rfl rfl
 have e2 : opV stM ((ssT s n).goOn 1) ⟨1, k, 0, 0, 0, 0⟩ 4 = s.R k := by
  show ((ssT s n).goOn 1).R (((k : Int) % 8).toNat) = _
  rw [show ((k : Int) % 8).toNat = k by omega]
  simp [ssT, St.goOn, St.setR, h4]
 rw [e1, e2] at h
 exact h
theorem ss_pop (v : Int) (hv : 0 ≤ v ∧ v < 4294967296) (hM : Yl w a pb (stA n v)) (hs : s.Ok) (hn : n < 256) (j : Nat) (hj : j < 8) (h4 : j ≠ 4) (z : Int) (hz : z = j) :
  Calls Tryz.prog 15 #[.pointer (some ⟨a, 0, none⟩), .agg (St.cells (ssA s n)), .agg (Ins.cells ⟨29, 0, ⟨1, z, 0, 0, 0, 0⟩, Opd.none, false, 1⟩)] w fun e w' =>
   e = .returned (.tuple #[.agg (St.cells (ssW s n j v)), Flt.zero.val, .bool true]) ∧ Yl w' a pb (stA n v) ∧ Upd [pb] w w' := by
 subst hz
 have hx := ma_rw (stA_R n v) (by decide) (596 + n) (by omega)
 have h := Do_pop hM (ssA_ok hs hn) j hx.1
 have hr : (stA n v).readV ((ssA s n).R 4) 4 1 = v := by
  show (stA n v).readV ((596 + n : Nat) : Int) 4 1 = v
  rw [hx.2.1]
  exact Yj3 stM (596 + n) v (by omega) hv.1 hv.2
 rw [hr] at h
 have e1 : opS (((ssA s n).goOn 1).setR 4 (((ssA s n).R 4 + 4) % 4294967296)) ⟨1, j, 0, 0, 0, 0⟩ 4 v = ssW s n j v := by
  show ((((ssA s n).goOn 1).setR 4 (((ssA s n).R 4 + 4) % 4294967296)).setR (((j : Int) % 8).toNat) v) = _
  rw [show ((j : Int) % 8).toNat = j by omega]
  refine St.mk_eq (fun q => ?_) rfl rfl rfl rfl rfl rfl rfl rfl rfl
  by_cases e : q = j
  ·simp [ssW, ssT, ssA, St.goOn, St.setR, e]
  ·by_cases e4 : q = 4
   ·subst e4
    simp [ssW, ssT, ssA, St.goOn, St.setR, e]
    omega
   ·simp [ssW, ssT, ssA, St.goOn, St.setR, e, e4]
 rw [e1] at h
 exact h
theorem ss_call (v : Int) (hM : Yl w a pb (stA n v)) (hs : s.Ok) (hn : n < 256) :
  Calls Tryz.prog 15 #[.pointer (some ⟨a, 0, none⟩), .agg (St.cells (ssT s n)), .agg (Ins.cells ⟨30, 0, ⟨2, 0, 40, 0, 0, 0⟩, Opd.none, false, 5⟩)] w fun e w' =>
   e = .returned (.tuple #[.agg (St.cells (ssC s n)), Flt.zero.val, .bool true]) ∧ Yl w' a pb ((stA n v).putN ((596 + n : Nat) : Int) 21 (Yai 4).toNat) ∧ Upd [pb] w w' := by
 have hx := ma_rw (stA_R n v) (by decide) (596 + n) (by omega)
 have h := Do_call hM (ssT_ok hs hn) (by rw [ssT_4 hn]; exact hx.2.2.1)
 rw [ssT_4 hn, hx.2.2.2] at h
 have e1 : ({ ((ssT s n).goOn 5).setR 4 ((596 + n : Nat) : Int) with pc := (((ssT s n).goOn 5).pc + 40) % 4294967296 } : St) = ssC s n := St.mk_eq (fun j => by
  by_cases e : j = 4 <;> simp [ssT, ssC, St.goOn, St.setR, e]) rfl rfl rfl rfl rfl rfl rfl rfl rfl
 rw [e1] at h
 exact h
theorem ss_ret (v : Int) (hM : Yl w a pb ((stA n v).putN ((596 + n : Nat) : Int) 21 (Yai 4).toNat)) (hs : s.Ok) (hn : n < 256) :
  Calls Tryz.prog 15 #[.pointer (some ⟨a, 0, none⟩), .agg (St.cells (ssC s n)), .agg (Ins.cells ⟨31, 0, Opd.none, Opd.none, false, 1⟩)] w fun e w' =>
   e = .returned (.tuple #[.agg (St.cells (ssD s n)), Flt.zero.val, .bool true]) ∧ Yl w' a pb ((stA n v).putN ((596 + n : Nat) : Int) 21 (Yai 4).toNat) ∧ Upd [pb] w w' := by
 have hR : ∀ p, p < 4 → ((stA n v).putN ((596 + n : Nat) : Int) 21 (Yai 4).toNat).R p = 7 := fun p hp => by rw [Mem.putN_R]; exact stA_R n v p hp
 have hx := ma_rw hR (by decide) (596 + n) (by omega)
 have h := Do_ret hM (ssC_ok hs hn) hx.1
 have hr : ((stA n v).putN ((596 + n : Nat) : Int) 21 (Yai 4).toNat).readV ((ssC s n).R 4) 4 1 = 21 := by
  show Mem.readV _ ((596 + n : Nat) : Int) 4 1 = 21
  rw [hx.2.1]
  exact Yj3 (stA n v) (596 + n) 21 (by omega) (by decide) (by decide)
 rw [hr] at h
 have e1 : ({ ((ssC s n).goOn 1).setR 4 (((ssC s n).R 4 + 4) % 4294967296) with pc := 21 } : St) = ssD s n := St.mk_eq (fun j => by
  by_cases e : j = 4
  ·subst e; simp [ssC, ssD, St.goOn, St.setR]; omega
  ·simp [ssC, ssD, St.goOn, St.setR, e]) rfl rfl rfl rfl rfl rfl rfl rfl rfl
 rw [e1] at h
 exact h
def ssU (s : St) (z : Int) : St := { s.setR 4 z with pc := 16 }
theorem ss_pushU (hM : Yl w a pb stM) (hs : s.Ok) (hn : n < 256) (k : Nat) (hk : k < 8) (h4 : k ≠ 4) (x : Int) (hx : x = k) (z : Int) (hz : z = ((600 + n : Nat) : Int)) :
  Calls Tryz.prog 15 #[.pointer (some ⟨a, 0, none⟩), .agg (St.cells (ssU s z)), .agg (Ins.cells ⟨28, 0, ⟨1, x, 0, 0, 0, 0⟩, Opd.none, false, 1⟩)] w fun e w' =>
   e = .returned (.tuple #[.agg (St.cells (ssA s n)), Flt.zero.val, .bool true]) ∧ Yl w' a pb (stA n (s.R k)) ∧ Upd [pb] w w' := by
 subst hz
 exact ss_push hM hs hn k hk h4 x hx
theorem ss_callU (v : Int) (hM : Yl w a pb (stA n v)) (hs : s.Ok) (hn : n < 256) (z : Int) (hz : z = ((600 + n : Nat) : Int)) :
  Calls Tryz.prog 15 #[.pointer (some ⟨a, 0, none⟩), .agg (St.cells (ssU s z)), .agg (Ins.cells ⟨30, 0, ⟨2, 0, 40, 0, 0, 0⟩, Opd.none, false, 5⟩)] w fun e w' =>
   e = .returned (.tuple #[.agg (St.cells (ssC s n)), Flt.zero.val, .bool true]) ∧ Yl w' a pb ((stA n v).putN ((596 + n : Nat) : Int) 21 (Yai 4).toNat) ∧ Upd [pb] w w' := by
 subst hz
 exact ss_call v hM hs hn
theorem ss_eqW (s : St) (n k j : Nat) (z : Int) (hz : z = ((600 + n : Nat) : Int)) (h4 : k ≠ 4) : ({ ((ssU s z)).setR j (((ssU s z)).R k) with pc := 18 } : St) = ssW s n j (s.R k) := by
 subst hz
 have : (ssU s ((600 + n : Nat) : Int)).R k = s.R k := by simp [ssU, St.setR, h4]
 rw [this]
 rfl
theorem ss_eqD (s : St) (n : Nat) (z : Int) (hz : z = ((600 + n : Nat) : Int)) : ({ (ssU s z) with pc := 21 } : St) = ssD s n := by
 subst hz; rfl
theorem ss_A4 (s : St) (n : Nat) (z : Int) (hz : z = ((600 + n : Nat) : Int)) (hn : n < 256) : (ssA s n).R 4 = (z - 4) % 4294967296 := by
 subst hz
 show ((596 + n : Nat) : Int) = _
 omega
end
theorem Yjo (S : St) (w : World) : (binOp .eql 28 (.agg S.cells) (.agg S.cells)).run Tryz.prog w = .ok (.bool true) w := by
 have := Yi9 S S w
 rw [St.eqB_self] at this
 exact this
end
theorem Ynn (s : St) (n0 reg : Int) (w : World) (hs : s.Ok) (h1 : 0 ≤ n0 ∧ n0 ≤ 255) (h2 : 0 ≤ reg ∧ reg ≤ 255) (hk : reg % 8 = 4) :
  Calls Tryz.prog 3 #[.agg s.cells, .int .u8 n0, .int .u8 reg] w fun e w' => e = .returned (.bool true) ∧ Upd [] w w' := by
 obtain ⟨n, rfl⟩ : ∃ n : Nat, n0 = n := ⟨n0.toNat, by omega⟩
 have e3 : reg.tmod 8 = reg % 8 := Int.tmod_eq_emod_of_nonneg h2.1
 have e4 : reg.tdiv 8 = reg / 8 := Int.tdiv_eq_ediv_of_nonneg h2.1
 obtain ⟨u, hu⟩ : ∃ u : Int, u = (n : Int) := ⟨_, rfl⟩
 obtain ⟨z, hz⟩ : ∃ z : Int, z = ((600 + n : Nat) : Int) := ⟨_, rfl⟩
 have e5 : (600 + u) % 4294967296 = z := by omega
 have HZ := Yh_ hz
 have e12 : u % 4294967296 = u := by omega
 rw [← hu]
 clear hz hu
 have e6 := hk
 clear hs h1 h2 hk
 have tok : True := trivial
 go_enter Tryz.func3, Tryz.ntmps3
 go_wp2_with (first | (have _t := tok; clear _t; go_at_call 12; refine (Yfp _).mono ?_; rintro e w0 ⟨rfl, hu0⟩; clear tok) | (have _t := hu0; clear _t; go_at_call 13; refine (Ygz _).mono ?_; rintro e w1 ⟨a, pb, rfl, ha, hp, hM1, hu1⟩; have K0 := Yh_ (show Kn w a pb Mem.zero [(w.heap.size, .cells (St.cells s) 28 (0, 0))] w1 from Kn.start1 hu0 ha hp hM1 hu1); clear hu0 hu1 ha hp hM1) | (have _t := K0; clear _t; go_at_call 14; refine (Yg8 Mem.zero a pb 0 4 7 _ K0.out.m (by decide)).mono ?_; rintro e w11 ⟨rfl, hm, hu⟩; rw [show Mem.zero.mapB 0 4 7 = true from Yjv, Ye1]; have K1 := Yh_ (show Kn w a pb stM [(w.heap.size, .cells (St.cells s) 28 (0, 0))] w11 from K0.out.step hm hu); clear hm hu K0 ; have c0_r4_1 : w11.cell? ⟨w.heap.size, 4, none⟩ = some (.int .u32 (((s) : St).R 4)) := (Ya (K1.out.get 0 rfl) 4).trans (St.cR _ 4 (by decide)); have c1_pc_1 : w11.cell? ⟨w.heap.size, 8, none⟩ = some (.int .u32 ((s : St).pc)) := Ya (K1.out.get 0 rfl) 8; have c2_free_1 := Yh (K1.out.get 0 rfl)))
 go_ret
 exact ⟨rfl, (K1.out.u.setCell (p := ⟨w.heap.size, 4, none⟩) (.inr (Nat.le_refl _)) _).setCell (p := ⟨w.heap.size, 8, none⟩) (.inr (Nat.le_refl _)) _⟩
theorem Ynu (s : St) (n0 reg : Int) (w : World) (hs : s.Ok) (h1 : 0 ≤ n0 ∧ n0 ≤ 255) (h2 : 0 ≤ reg ∧ reg ≤ 255) (hk : reg % 8 ≠ 4) (hj : reg / 8 % 8 = 4) :
  Calls Tryz.prog 3 #[.agg s.cells, .int .u8 n0, .int .u8 reg] w fun e w' => e = .returned (.bool true) ∧ Upd [] w w' := by
 obtain ⟨n, rfl⟩ : ∃ n : Nat, n0 = n := ⟨n0.toNat, by omega⟩
 have e3 : reg.tmod 8 = reg % 8 := Int.tmod_eq_emod_of_nonneg h2.1
 have e4 : reg.tdiv 8 = reg / 8 := Int.tdiv_eq_ediv_of_nonneg h2.1
 obtain ⟨u, hu⟩ : ∃ u : Int, u = (n : Int) := ⟨_, rfl⟩
 obtain ⟨z, hz⟩ : ∃ z : Int, z = ((600 + n : Nat) : Int) := ⟨_, rfl⟩
 have e5 : (600 + u) % 4294967296 = z := by omega
 have HZ := Yh_ hz
 have e12 : u % 4294967296 = u := by omega
 rw [← hu]
 clear hz hu
 have e6 := hj
 obtain ⟨q, hq⟩ : ∃ q, reg % 8 = q := ⟨_, rfl⟩
 have e7 : wrap64 q = q := by unfold wrap64; omega
 rw [hq] at hk
 have e8 : (q == 4) = false := by simpa using hk
 clear hs h1 h2 hk hj
 have tok : True := trivial
 go_enter Tryz.func3, Tryz.ntmps3
 go_wp2_with (first | (have _t := tok; clear _t; go_at_call 12; refine (Yfp _).mono ?_; rintro e w0 ⟨rfl, hu0⟩; clear tok) | (have _t := hu0; clear _t; go_at_call 13; refine (Ygz _).mono ?_; rintro e w1 ⟨a, pb, rfl, ha, hp, hM1, hu1⟩; have K0 := Yh_ (show Kn w a pb Mem.zero [(w.heap.size, .cells (St.cells s) 28 (0, 0))] w1 from Kn.start1 hu0 ha hp hM1 hu1); clear hu0 hu1 ha hp hM1) | (have _t := K0; clear _t; go_at_call 14; refine (Yg8 Mem.zero a pb 0 4 7 _ K0.out.m (by decide)).mono ?_; rintro e w11 ⟨rfl, hm, hu⟩; rw [show Mem.zero.mapB 0 4 7 = true from Yjv, Ye1]; have K1 := Yh_ (show Kn w a pb stM [(w.heap.size, .cells (St.cells s) 28 (0, 0))] w11 from K0.out.step hm hu); clear hm hu K0 ; have c0_r4_1 : w11.cell? ⟨w.heap.size, 4, none⟩ = some (.int .u32 (((s) : St).R 4)) := (Ya (K1.out.get 0 rfl) 4).trans (St.cR _ 4 (by decide)); have c1_pc_1 : w11.cell? ⟨w.heap.size, 8, none⟩ = some (.int .u32 ((s : St).pc)) := Ya (K1.out.get 0 rfl) 8; have c2_free_1 := Yh (K1.out.get 0 rfl)))
 go_ret
 exact ⟨rfl, (K1.out.u.setCell (p := ⟨w.heap.size, 4, none⟩) (.inr (Nat.le_refl _)) _).setCell (p := ⟨w.heap.size, 8, none⟩) (.inr (Nat.le_refl _)) _⟩
theorem ss_main (s : St) (n0 reg : Int) (w : World) (k j : Nat) (hs : s.Ok) (h1 : 0 ≤ n0 ∧ n0 ≤ 255) (h2 : 0 ≤ reg ∧ reg ≤ 255) (hk : reg % 8 = k) (hj : reg / 8 % 8 = j) (hk4 : k ≠ 4) (hj4 : j ≠ 4) :
  Calls Tryz.prog 3 #[.agg s.cells, .int .u8 n0, .int .u8 reg] w fun e w' => e = .returned (.bool true) ∧ Upd [] w w' := by
 obtain ⟨n, rfl⟩ : ∃ n : Nat, n0 = n := ⟨n0.toNat, by omega⟩
 have e3 : reg.tmod 8 = reg % 8 := Int.tmod_eq_emod_of_nonneg h2.1
 have e4 : reg.tdiv 8 = reg / 8 := Int.tdiv_eq_ediv_of_nonneg h2.1
 obtain ⟨u, hu⟩ : ∃ u : Int, u = (n : Int) := ⟨_, rfl⟩
 obtain ⟨z, hz⟩ : ∃ z : Int, z = ((600 + n : Nat) : Int) := ⟨_, rfl⟩
 have e5 : (600 + u) % 4294967296 = z := by omega
 have HZ := Yh_ hz
 have e12 : u % 4294967296 = u := by omega
 rw [← hu]
 clear hz hu
 have hkk : k < 8 := by omega
 have hjj : j < 8 := by omega
 have HS := Yh_ (And.intro hs (And.intro (show n < 256 by omega) (And.intro hkk hjj)))
 have HK := Yh_ (And.intro hk4 hj4)
 obtain ⟨x, hx⟩ : ∃ x : Int, x = (k : Int) := ⟨_, rfl⟩
 obtain ⟨y, hy⟩ : ∃ y : Int, y = (j : Int) := ⟨_, rfl⟩
 have HX := Yh_ (And.intro hx hy)
 rw [← hx] at hk
 rw [← hy] at hj
 have e6 : wrap64 x = x := by unfold wrap64; omega
 have e7 : wrap64 y = y := by unfold wrap64; omega
 have e8 : (x == 4) = false := by simp; omega
 have e9 : (y == 4) = false := by simp; omega
 have e10 : x.toNat = k := by omega
 have e11 : y.toNat = j := by omega
 have b1 : 0 ≤ x ∧ x < 8 := by omega
 have b2 : 0 ≤ y ∧ y < 8 := by omega
 clear hs h1 h2 hkk hjj hk4 hj4 hx hy
 have tok : True := trivial
 have tk1 : True := trivial
 have tk2 : True := trivial
 have tk3 : True := trivial
 have tk4 : True := trivial
 have tk5 : True := trivial
 have tk6 : True := trivial
 have tk7 : True := trivial
 have tk8 : True := trivial
 have tk9 : True := trivial
 have tk10 : True := trivial
 go_enter Tryz.func3, Tryz.ntmps3
 go_upto_region 11 with (first | (have _t := tok; clear _t; go_at_call 12; refine (Yfp _).mono ?_; rintro e w0 ⟨rfl, hu0⟩; clear tok) | (have _t := hu0; clear _t; go_at_call 13; refine (Ygz _).mono ?_; rintro e w1 ⟨a, pb, rfl, ha, hp, hM1, hu1⟩; have K0 := Yh_ (show Kn w a pb Mem.zero [(w.heap.size, .cells (St.cells s) 28 (0, 0))] w1 from Kn.start1 hu0 ha hp hM1 hu1); clear hu0 hu1 ha hp hM1) | (have _t := K0; clear _t; go_at_call 14; refine (Yg8 Mem.zero a pb 0 4 7 _ K0.out.m (by decide)).mono ?_; rintro e w11 ⟨rfl, hm, hu⟩; rw [show Mem.zero.mapB 0 4 7 = true from Yjv, Ye1]; have K1 := Yh_ (show Kn w a pb stM [(w.heap.size, .cells (St.cells s) 28 (0, 0))] w11 from K0.out.step hm hu); clear hm hu K0 ; have c0_r4_1 : w11.cell? ⟨w.heap.size, 4, none⟩ = some (.int .u32 (((s) : St).R 4)) := (Ya (K1.out.get 0 rfl) 4).trans (St.cR _ 4 (by decide)); have c1_pc_1 : w11.cell? ⟨w.heap.size, 8, none⟩ = some (.int .u32 ((s : St).pc)) := Ya (K1.out.get 0 rfl) 8; have c2_free_1 := Yh (K1.out.get 0 rfl)))
 go_upto_region 12 with (first | (have _t := tk1; have _t2 := K1; clear _t _t2; refine Yag 28 rfl ?_; clear tk1; have hk := ((((K1.out).putR 0 rfl 4 (by decide) (z))).putC 0 rfl (s' := (ssU s z)) 8 (.int .u32 16) rfl); dsimp only [List.set] at hk; have K2 := Yh_ hk; clear hk K1 c0_r4_1 c1_pc_1 c2_free_1; refine Yp ((ssU s z)) (w.heap.size) rfl _ rfl rfl (K2.out.get 0 rfl) ?_) | (have _t := K2; clear _t; go_at_call 15; refine (ss_pushU K2.out.m HS.out.1 HS.out.2.1 k HS.out.2.2.1 HK.out.1 x HX.out.1 z HZ.out).mono ?_; rintro e w12 ⟨rfl, hm, hu⟩; unfold Flt.val Flt.zero; have K3 := Yh_ (show Kn w a pb (stA n (s.R k)) [(w.heap.size, .cells (St.cells (ssU s z)) 28 (0, 0))] w12 from K2.out.step hm hu); clear hm hu K2 ) | (have _t := K3; clear _t; refine Yd 28 rfl ?_; refine Yad ((ssA s n)) w12.heap.size rfl _ _ rfl rfl rfl (heap_alloc2_old w12 (.cells St.zero.cells 28) (.cells #[.int .i64 0, .int .u32 0, .int .u32 0, .int .i64 0] 35)) rfl ?_; intro w13 hw; have h2 := Yeo hw; have h3 := K3.out.two (F := Flt.zero) h2; dsimp only [Flt.zero] at h3; have ct4 := Ya h2.2.1; have ft4 := Yh h2.2.1; have K4 := Yh_ h3; clear hw h2 h3 K3))
 go_upto_region 13 with (first | (have _t := tk2; have _t2 := K4; clear _t _t2; refine Yag 28 rfl ?_; clear tk2; refine Yp ((ssA s n)) (w12.heap.size) rfl _ rfl rfl (K4.out.get 1 rfl) ?_) | (have _t := K4; clear _t; go_at_call 15; refine (ss_pop (s.R k) (HS.out.1.R k) K4.out.m HS.out.1 HS.out.2.1 j HS.out.2.2.2 HK.out.2 y HX.out.2).mono ?_; rintro e w14 ⟨rfl, hm, hu⟩; unfold Flt.val Flt.zero; have K5 := Yh_ (show Kn w a pb (stA n (s.R k)) [((w12.heap.size + 1), .cells (Yt Flt.zero) 35 (0, 0)), (w12.heap.size, .cells (St.cells (ssA s n)) 28 (0, 0)), (w.heap.size, .cells (St.cells (ssU s z)) 28 (0, 0))] w14 from K4.out.step hm hu); clear hm hu K4 ct4 ft4) | (have _t := K5; clear _t; refine Yd 28 rfl ?_; refine Yad ((ssW s n j (s.R k))) w14.heap.size rfl _ _ rfl rfl rfl (heap_alloc2_old w14 (.cells St.zero.cells 28) (.cells #[.int .i64 0, .int .u32 0, .int .u32 0, .int .i64 0] 35)) rfl ?_; intro w15 hw; have h2 := Yeo hw; have h3 := K5.out.two (F := Flt.zero) h2; dsimp only [Flt.zero] at h3; have ct6 := Ya h2.2.1; have ft6 := Yh h2.2.1; have K6 := Yh_ h3; clear hw h2 h3 K5))
 go_upto_region 14 with (first | (have _t := tk3; have _t2 := K6; clear _t _t2; refine Yag 28 rfl ?_; clear tk3; refine Yp ((ssU s z)) (w.heap.size) rfl _ rfl rfl (K6.out.get 4 rfl) ?_) | (have _t := K6; clear _t; go_at_call 15; refine (ss_callU (s.R k) K6.out.m HS.out.1 HS.out.2.1 z HZ.out).mono ?_; rintro e w16 ⟨rfl, hm, hu⟩; unfold Flt.val Flt.zero; have K7 := Yh_ (show Kn w a pb ((stA n (s.R k)).putN ((596 + n : Nat) : Int) 21 (Yai 4).toNat) [((w14.heap.size + 1), .cells (Yt Flt.zero) 35 (0, 0)), (w14.heap.size, .cells (St.cells (ssW s n j (s.R k))) 28 (0, 0)), ((w12.heap.size + 1), .cells (Yt Flt.zero) 35 (0, 0)), (w12.heap.size, .cells (St.cells (ssA s n)) 28 (0, 0)), (w.heap.size, .cells (St.cells (ssU s z)) 28 (0, 0))] w16 from K6.out.step hm hu); clear hm hu K6 ct6 ft6) | (have _t := K7; clear _t; refine Yd 28 rfl ?_; refine Yad ((ssC s n)) w16.heap.size rfl _ _ rfl rfl rfl (heap_alloc2_old w16 (.cells St.zero.cells 28) (.cells #[.int .i64 0, .int .u32 0, .int .u32 0, .int .i64 0] 35)) rfl ?_; intro w17 hw; have h2 := Yeo hw; have h3 := K7.out.two (F := Flt.zero) h2; dsimp only [Flt.zero] at h3; have ct8 := Ya h2.2.1; have ft8 := Yh h2.2.1; have K8 := Yh_ h3; clear hw h2 h3 K7))
 go_upto_region 15 with (first | (have _t := tk4; have _t2 := K8; clear _t _t2; refine Yag 28 rfl ?_; clear tk4; refine Yp ((ssC s n)) (w16.heap.size) rfl _ rfl rfl (K8.out.get 1 rfl) ?_) | (have _t := K8; clear _t; go_at_call 15; refine (ss_ret (s.R k) K8.out.m HS.out.1 HS.out.2.1).mono ?_; rintro e w18 ⟨rfl, hm, hu⟩; unfold Flt.val Flt.zero; have K9 := Yh_ (show Kn w a pb ((stA n (s.R k)).putN ((596 + n : Nat) : Int) 21 (Yai 4).toNat) [((w16.heap.size + 1), .cells (Yt Flt.zero) 35 (0, 0)), (w16.heap.size, .cells (St.cells (ssC s n)) 28 (0, 0)), ((w14.heap.size + 1), .cells (Yt Flt.zero) 35 (0, 0)), (w14.heap.size, .cells (St.cells (ssW s n j (s.R k))) 28 (0, 0)), ((w12.heap.size + 1), .cells (Yt Flt.zero) 35 (0, 0)), (w12.heap.size, .cells (St.cells (ssA s n)) 28 (0, 0)), (w.heap.size, .cells (St.cells (ssU s z)) 28 (0, 0))] w18 from K8.out.step hm hu); clear hm hu K8 ct8 ft8) | (have _t := K9; clear _t; refine Yd 28 rfl ?_; refine Yad ((ssD s n)) w18.heap.size rfl _ _ rfl rfl rfl (heap_alloc2_old w18 (.cells St.zero.cells 28) (.cells #[.int .i64 0, .int .u32 0, .int .u32 0, .int .i64 0] 35)) rfl ?_; intro w19 hw; have h2 := Yeo hw; have h3 := K9.out.two (F := Flt.zero) h2; dsimp only [Flt.zero] at h3; have ct10 := Ya h2.2.1; have ft10 := Yh h2.2.1; have K10 := Yh_ h3; clear hw h2 h3 K9))
 go_upto_region 17 with (first | (have _t := tk5; have _t2 := K10; clear _t _t2; refine Yag 28 rfl ?_; clear tk5; refine Yp ((ssU s z)) (w.heap.size) rfl _ rfl rfl (K10.out.get 8 rfl) ?_) | (have _t := K10; clear _t; refine Yd 28 rfl ?_; have hsz : (((((w19.setCell ⟨w18.heap.size + 1, 0, none⟩ (.int .i64 0)).setCell ⟨w18.heap.size + 1, 1, none⟩ (.int .u32 0)).setCell ⟨w18.heap.size + 1, 2, none⟩ (.int .u32 0)).setCell ⟨w18.heap.size + 1, 3, none⟩ (.int .i64 0))).heap.size = w19.heap.size := (by simp); have hbz := heap_alloc_new (((((w19.setCell ⟨w18.heap.size + 1, 0, none⟩ (.int .i64 0)).setCell ⟨w18.heap.size + 1, 1, none⟩ (.int .u32 0)).setCell ⟨w18.heap.size + 1, 2, none⟩ (.int .u32 0)).setCell ⟨w18.heap.size + 1, 3, none⟩ (.int .i64 0))) (.cells St.zero.cells 28); rw [hsz] at hbz; refine Yad ((ssU s z)) w19.heap.size rfl _ _ rfl rfl rfl hbz rfl ?_; clear hbz; intro w20 hw; rw [← hsz] at hw; have h2 := one_st hw; rw [hsz] at h2; have h3 := K10.out.add h2.2 (Nat.le_of_eq hsz) h2.1; have K11 := Yh_ (show Kn w a pb ((stA n (s.R k)).putN ((596 + n : Nat) : Int) 21 (Yai 4).toNat) [(w19.heap.size, .cells (St.cells (ssU s z)) 28 (0, 0)), ((w18.heap.size + 1), .cells (Yt Flt.zero) 35 (0, 0)), (w18.heap.size, .cells (St.cells (ssD s n)) 28 (0, 0)), ((w16.heap.size + 1), .cells (Yt Flt.zero) 35 (0, 0)), (w16.heap.size, .cells (St.cells (ssC s n)) 28 (0, 0)), ((w14.heap.size + 1), .cells (Yt Flt.zero) 35 (0, 0)), (w14.heap.size, .cells (St.cells (ssW s n j (s.R k))) 28 (0, 0)), ((w12.heap.size + 1), .cells (Yt Flt.zero) 35 (0, 0)), (w12.heap.size, .cells (St.cells (ssA s n)) 28 (0, 0)), (w.heap.size, .cells (St.cells (ssU s z)) 28 (0, 0))] w20 from h3); clear hw h2 h3 hsz K10 ct10 ft10; have c0_rk_11 : w20.cell? ⟨w.heap.size, k, none⟩ = some (.int .u32 ((((ssU s z)) : St).R k)) := (Ya (K11.out.get 9 rfl) k).trans (St.cR _ k (by omega)); have c1_rj_11 : w20.cell? ⟨w19.heap.size, j, none⟩ = some (.int .u32 ((((ssU s z)) : St).R j)) := (Ya (K11.out.get 0 rfl) j).trans (St.cR _ j (by omega)); have c2_pc_11 : w20.cell? ⟨w19.heap.size, 8, none⟩ = some (.int .u32 (((ssU s z) : St).pc)) := Ya (K11.out.get 0 rfl) 8; have c3_free_11 := Yh (K11.out.get 0 rfl)))
 go_upto_region 19 with (first | (have _t := tk6; have _t2 := K11; clear _t _t2; refine Yag 28 rfl ?_; clear tk6; have hk := ((((K11.out).putR 0 rfl j (by omega) ((ssU s z).R k))).putC 0 rfl (s' := ({ (((ssU s z)).setR j (((ssU s z)).R k)) with pc := 18 } : St)) 8 (.int .u32 18) rfl); dsimp only [List.set] at hk; have K12 := Yh_ hk; clear hk K11 c0_rk_11 c1_rj_11 c2_pc_11 c3_free_11; refine Yp ((ssU s z)) (w.heap.size) rfl _ rfl rfl (K12.out.get 9 rfl) ?_) | (have _t := K12; clear _t; refine Yd 28 rfl ?_; have hsz : (((w20.setCell ⟨w19.heap.size, j, none⟩ (.int .u32 ((ssU s z).R k))).setCell ⟨w19.heap.size, 8, none⟩ (.int .u32 18))).heap.size = w20.heap.size := (by simp); have hbz := heap_alloc_new (((w20.setCell ⟨w19.heap.size, j, none⟩ (.int .u32 ((ssU s z).R k))).setCell ⟨w19.heap.size, 8, none⟩ (.int .u32 18))) (.cells St.zero.cells 28); rw [hsz] at hbz; refine Yad ((ssU s z)) w20.heap.size rfl _ _ rfl rfl rfl hbz rfl ?_; clear hbz; intro w21 hw; rw [← hsz] at hw; have h2 := one_st hw; rw [hsz] at h2; have h3 := K12.out.add h2.2 (Nat.le_of_eq hsz) h2.1; have K13 := Yh_ (show Kn w a pb ((stA n (s.R k)).putN ((596 + n : Nat) : Int) 21 (Yai 4).toNat) [(w20.heap.size, .cells (St.cells (ssU s z)) 28 (0, 0)), (w19.heap.size, .cells (St.cells ({ (((ssU s z)).setR j (((ssU s z)).R k)) with pc := 18 } : St)) 28 (0, 0)), ((w18.heap.size + 1), .cells (Yt Flt.zero) 35 (0, 0)), (w18.heap.size, .cells (St.cells (ssD s n)) 28 (0, 0)), ((w16.heap.size + 1), .cells (Yt Flt.zero) 35 (0, 0)), (w16.heap.size, .cells (St.cells (ssC s n)) 28 (0, 0)), ((w14.heap.size + 1), .cells (Yt Flt.zero) 35 (0, 0)), (w14.heap.size, .cells (St.cells (ssW s n j (s.R k))) 28 (0, 0)), ((w12.heap.size + 1), .cells (Yt Flt.zero) 35 (0, 0)), (w12.heap.size, .cells (St.cells (ssA s n)) 28 (0, 0)), (w.heap.size, .cells (St.cells (ssU s z)) 28 (0, 0))] w21 from h3); clear hw h2 h3 hsz K12 ; have c0_pc_13 : w21.cell? ⟨w20.heap.size, 8, none⟩ = some (.int .u32 (((ssU s z) : St).pc)) := Ya (K13.out.get 0 rfl) 8; have c1_free_13 := Yh (K13.out.get 0 rfl)))
 have hk := ((K13.out).putC 0 rfl (s' := ({ (ssU s z) with pc := 21 } : St)) 8 (.int .u32 21) rfl)
 dsimp only [List.set] at hk
 have hq1 : ({ (((ssU s z)).setR j (((ssU s z)).R k)) with pc := 18 } : St) = ssW s n j (s.R k) := ss_eqW s n k j z HZ.out HK.out.1
 have hq2 : ({ (ssU s z) with pc := 21 } : St) = ssD s n := ss_eqD s n z HZ.out
 rw [hq1, hq2] at hk
 have K14 := Yh_ (show Kn w a pb ((stA n (s.R k)).putN ((596 + n : Nat) : Int) 21 (Yai 4).toNat) [(w20.heap.size, .cells (St.cells (ssD s n)) 28 (0, 0)), (w19.heap.size, .cells (St.cells (ssW s n j (s.R k))) 28 (0, 0)), ((w18.heap.size + 1), .cells (Yt Flt.zero) 35 (0, 0)), (w18.heap.size, .cells (St.cells (ssD s n)) 28 (0, 0)), ((w16.heap.size + 1), .cells (Yt Flt.zero) 35 (0, 0)), (w16.heap.size, .cells (St.cells (ssC s n)) 28 (0, 0)), ((w14.heap.size + 1), .cells (Yt Flt.zero) 35 (0, 0)), (w14.heap.size, .cells (St.cells (ssW s n j (s.R k))) 28 (0, 0)), ((w12.heap.size + 1), .cells (Yt Flt.zero) 35 (0, 0)), (w12.heap.size, .cells (St.cells (ssA s n)) 28 (0, 0)), (w.heap.size, .cells (St.cells (ssU s z)) 28 (0, 0))] (w21.setCell ⟨w20.heap.size, 8, none⟩ (.int .u32 21)) from hk)
 clear hk hq1 hq2 K13 
 have d9 : (w21.setCell ⟨w20.heap.size, 8, none⟩ (.int .u32 21)).cell? ⟨w12.heap.size, 4, none⟩ = some (.int .u32 ((z - 4) % 4294967296)) := by rw [← ss_A4 s n z HZ.out HS.out.2.1]; exact (Ya (K14.out.get 9 rfl) 4).trans (St.cR _ 4 (by decide))
 have d10 : (w21.setCell ⟨w20.heap.size, 8, none⟩ (.int .u32 21)).cell? ⟨w.heap.size, 4, none⟩ = some (.int .u32 z) := (Ya (K14.out.get 10 rfl) 4).trans (St.cR _ 4 (by decide))
 have d5 : (w21.setCell ⟨w20.heap.size, 8, none⟩ (.int .u32 21)).cell? ⟨w16.heap.size, 8, none⟩ = some (.int .u32 61) := Ya (K14.out.get 5 rfl) 8
 have hE1 := Yjo (ssW s n j (s.R k))
 have hE2 := Yjo (ssD s n)
 go_wp2_with (first | (have _t := tk7; have _t2 := K14; clear _t _t2; refine Yag 28 rfl ?_; clear tk7; refine Ycm ((ssW s n j (s.R k))) (w14.heap.size) rfl _ rfl rfl (K14.out.get 7 rfl) ?_) | (have _t := tk8; have _t2 := K14; clear _t _t2; refine Yag 28 rfl ?_; clear tk8; refine Ycm ((ssW s n j (s.R k))) (w19.heap.size) rfl _ rfl rfl (K14.out.get 1 rfl) ?_) | (have _t := tk9; have _t2 := K14; clear _t _t2; refine Yag 28 rfl ?_; clear tk9; refine Ycm ((ssD s n)) (w18.heap.size) rfl _ rfl rfl (K14.out.get 3 rfl) ?_) | (have _t := tk10; have _t2 := K14; clear _t _t2; refine Yag 28 rfl ?_; clear tk10; refine Ycm ((ssD s n)) (w20.heap.size) rfl _ rfl rfl (K14.out.get 0 rfl) ?_))
 go_ret
 exact ⟨rfl, K14.out.u⟩
theorem Yik (s : St) (n0 reg : Int) (w : World) (hs : s.Ok) (h1 : 0 ≤ n0 ∧ n0 ≤ 255) (h2 : 0 ≤ reg ∧ reg ≤ 255) :
  Calls Tryz.prog 3 #[.agg s.cells, .int .u8 n0, .int .u8 reg] w fun e w' => e = .returned (.bool true) ∧ Upd [] w w' := by
 by_cases hk : reg % 8 = 4
 ·exact Ynn s n0 reg w hs h1 h2 hk
 ·by_cases hj : reg / 8 % 8 = 4
  ·exact Ynu s n0 reg w hs h1 h2 hk hj
  ·exact ss_main s n0 reg w (reg % 8).toNat (reg / 8 % 8).toNat hs h1 h2 (by omega) (by omega) (by omega) (by omega)
end Go.Proofs.YthakgjpejhjaoaaGreat
