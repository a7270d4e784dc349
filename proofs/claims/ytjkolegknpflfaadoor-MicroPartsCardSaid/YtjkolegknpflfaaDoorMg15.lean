/-
  Parts of the proof (their names shortened by a program). No condition.
-/
import Derived.Test.YtjkolegknpflfaaDoorMg01
import Derived.Test.YtjkolegknpflfaaDoorMg14
import Derived.Test.YtjkolegknpflfaaDoorMg08
import Derived.Test.YtjkolegknpflfaaDoorMg13
import Derived.Test.YtjkolegknpflfaaDoorMg03
import Derived.Test.YtjkolegknpflfaaDoorMg10
namespace Go.Proofs.YtjkolegknpflfaaDoor
open Go Go.RowKit
set_option linter.unusedVariables false
set_option linter.unusedSimpArgs false
set_option maxRecDepth 100000
set_option maxHeartbeats 16000000
section
structure Ka (w : World) (S : St) (F : Flt) (dn : Nat → Bool) (r : Nat → Value) (w1 : World) : Prop where
 u : Upd [] w w1
 m : dn 3 = false → dn 0 = true → ∃ ma pb, r 0 = .pointer (some ⟨ma, 0, none⟩) ∧ w.heap.size ≤ ma ∧ w.heap.size ≤ pb ∧ Yi w1 ma pb Mem.zero
 x : dn 9 = true → ∃ g, r 9 = .pointer (some ⟨g, 0, none⟩) ∧ w.heap.size ≤ g ∧ w1.heap[g]? = some (.cells (if dn 11 then S.cells else St.zero.cells) 28 (0, 0))
 y : dn 10 = true → ∃ g, r 10 = .pointer (some ⟨g, 0, none⟩) ∧ w.heap.size ≤ g ∧ w1.heap[g]? = some (.cells (if dn 12 then Yj F else Yj Flt.zero) 37 (0, 0))
 o3 : dn 3 = true → dn 0 = true
 o4 : dn 4 = true → dn 3 = true
 o5 : dn 5 = true → dn 3 = true
 o6 : dn 6 = true → dn 3 = true
 p : dn 11 = true → dn 9 = true ∧ dn 3 = true
 q : dn 12 = true → dn 10 = true ∧ dn 3 = true
section
variable {w w1 w2 : World} {S : St} {F : Flt} {dn : Nat → Bool} {r : Nat → Value}
theorem Ka.start (w : World) (S : St) (F : Flt) (r : Nat → Value) : Ka w S F (fun _ => false) r w.drew :=
 ⟨(Upd.refl [] w).drew, fun _ h => (by cases h), fun h => (by cases h), fun h => (by cases h), fun h => (by cases h), fun h => (by cases h), fun h => (by cases h), fun h => (by cases h), fun h => (by cases h), fun h => (by cases h)⟩
def Ka.free (j : Nat) : Prop := j ≠ 0 ∧ j ≠ 3 ∧ j ≠ 9 ∧ j ≠ 10 ∧ j ≠ 11 ∧ j ≠ 12
theorem Ka.same (h : Ka w S F dn r w1) (j : Nat) (hj : 0 ≠ j ∧ 3 ≠ j ∧ 9 ≠ j ∧ 10 ≠ j ∧ 11 ≠ j ∧ 12 ≠ j) (h4 : j = 4 ∨ j = 5 ∨ j = 6 → dn 3 = true) : Ka w S F (Yw dn j) r w1 := by
 obtain ⟨j0, j3, j9, j10, j11, j12⟩ := hj
 have t : ∀ i, (i = 4 ∨ i = 5 ∨ i = 6) → (dn i = true → dn 3 = true) → (Yw dn j i = true → Yw dn j 3 = true) := by
  intro i hi hh hd
  rw [Yb j3]
  by_cases e : i = j
  ·exact h4 (e ▸ hi)
  ·rw [Yb e] at hd; exact hh hd
 refine ⟨h.u, ?_, ?_, ?_, ?_, t 4 (by simp) h.o4, t 5 (by simp) h.o5, t 6 (by simp) h.o6, ?_, ?_⟩
 ·rw [Yb j3, Yb j0]; exact h.m
 ·rw [Yb j9, Yb j11]; exact h.x
 ·rw [Yb j10, Yb j12]; exact h.y
 ·rw [Yb j3, Yb j0]; exact h.o3
 ·rw [Yb j9, Yb j11, Yb j3]; exact h.p
 ·rw [Yb j10, Yb j12, Yb j3]; exact h.q
theorem Ka.new (h : Ka w S F dn r w1) (hd : dn 0 = false) {ma pb : Nat} (h1 : w1.heap.size ≤ ma) (h2 : w1.heap.size ≤ pb) (hm : Yi w2 ma pb Mem.zero) (u : Upd [] w1 w2) : Ka w S F (Yw dn 0) (Ybp r 0 (.pointer (some ⟨ma, 0, none⟩))) w2 := by
 have d3 : dn 3 = false := by
  cases e : dn 3 with
  |false => rfl
  |true => rw [h.o3 e] at hd; cases hd
 have hs := h.u.size
 refine ⟨h.u.also u (by simp), fun _ _ => ⟨ma, pb, Ycz, by omega, by omega, hm⟩, ?_, ?_, fun _ => Ya6, ?_, ?_, ?_, ?_, ?_⟩
 ·rw [Yb (by decide), Yb (by decide), Yba (by decide)]
  intro hx; obtain ⟨g, e1, e2, e3⟩ := h.x hx; exact ⟨g, e1, e2, u.get e3 (by simp)⟩
 ·rw [Yb (by decide), Yb (by decide), Yba (by decide)]
  intro hx; obtain ⟨g, e1, e2, e3⟩ := h.y hx; exact ⟨g, e1, e2, u.get e3 (by simp)⟩
 ·rw [Yb (by decide), Yb (by decide)]; exact h.o4
 ·rw [Yb (by decide), Yb (by decide)]; exact h.o5
 ·rw [Yb (by decide), Yb (by decide)]; exact h.o6
 ·rw [Yb (by decide), Yb (by decide), Yb (by decide)]; exact h.p
 ·rw [Yb (by decide), Yb (by decide), Yb (by decide)]; exact h.q
theorem pb_ne {w1 : World} {ma pb g : Nat} {M : Mem} {C : Array Value} {T : TypeId} (hm : Yi w1 ma pb M) (hg : w1.heap[g]? = some (.cells C T (0, 0))) (hT : T ≠ 132) : g ≠ pb := by
 rintro rfl
 obtain ⟨C', _, hc⟩ := hm.pg
 rw [hg] at hc
 injection hc with hc
 injection hc with _ h2
 exact hT h2
theorem Ka.run (h : Ka w S F dn r w1) (hd : dn 3 = false) {ma pb : Nat} (h2 : w.heap.size ≤ pb) (hm : Yi w1 ma pb Mem.zero) (h0 : dn 0 = true) (u : Upd [pb] w1 w2) : Ka w S F (Yw dn 3) r w2 := by
 refine ⟨h.u.also u (fun x hx => .inr (by rw [List.mem_singleton.1 hx]; exact h2)), fun hh => (by rw [Ya6] at hh; cases hh), ?_, ?_, fun _ => by rw [Yb (by decide)]; exact h0, fun _ => Ya6, fun _ => Ya6, fun _ => Ya6, fun hh => ?_, fun hh => ?_⟩
 ·rw [Yb (by decide), Yb (by decide)]
  intro hx; obtain ⟨g, e1, e2, e3⟩ := h.x hx
  exact ⟨g, e1, e2, u.get e3 (by simpa using pb_ne hm e3 (by decide))⟩
 ·rw [Yb (by decide), Yb (by decide)]
  intro hx; obtain ⟨g, e1, e2, e3⟩ := h.y hx
  exact ⟨g, e1, e2, u.get e3 (by simpa using pb_ne hm e3 (by decide))⟩
 ·rw [Yb (by decide)] at hh; rw [Yb (by decide)]; exact ⟨(h.p hh).1, Ya6⟩
 ·rw [Yb (by decide)] at hh; rw [Yb (by decide)]; exact ⟨(h.q hh).1, Ya6⟩
theorem Ka.layS (h : Ka w S F dn r w1) (hd : dn 9 = false) : Ka w S F (Yw dn 9) (Ybp r 9 (.pointer (some ⟨w1.heap.size, 0, none⟩))) (w1.alloc (.cells St.zero.cells 28)) := by
 have d11 : dn 11 = false := by
  cases e : dn 11 with
  |false => rfl
  |true => rw [(h.p e).1] at hd; cases hd
 have u := (Upd.refl [] w1).alloc (.cells St.zero.cells 28)
 refine ⟨h.u.also u (by simp), ?_, fun _ => ⟨_, Ycz, h.u.size, by rw [Yb (by decide), d11]; exact heap_alloc_new _ _⟩, ?_, ?_, ?_, ?_, ?_, fun hh => ?_, ?_⟩
 ·rw [Yb (by decide), Yb (by decide), Yba (by decide)]
  intro a b; obtain ⟨ma, pb, e1, e2, e3, e4⟩ := h.m a b; exact ⟨ma, pb, e1, e2, e3, e4.keep u (by simp) (by simp)⟩
 ·rw [Yb (by decide), Yb (by decide), Yba (by decide)]
  intro hx; obtain ⟨g, e1, e2, e3⟩ := h.y hx; exact ⟨g, e1, e2, u.get e3 (by simp)⟩
 ·rw [Yb (by decide), Yb (by decide)]; exact h.o3
 ·rw [Yb (by decide), Yb (by decide)]; exact h.o4
 ·rw [Yb (by decide), Yb (by decide)]; exact h.o5
 ·rw [Yb (by decide), Yb (by decide)]; exact h.o6
 ·rw [Yb (by decide)] at hh; rw [d11] at hh; cases hh
 ·rw [Yb (by decide), Yb (by decide), Yb (by decide)]; exact h.q
theorem Ka.layF (h : Ka w S F dn r w1) (hd : dn 10 = false) : Ka w S F (Yw dn 10) (Ybp r 10 (.pointer (some ⟨w1.heap.size, 0, none⟩))) (w1.alloc (.cells (Yj Flt.zero) 37)) := by
 have d12 : dn 12 = false := by
  cases e : dn 12 with
  |false => rfl
  |true => rw [(h.q e).1] at hd; cases hd
 have u := (Upd.refl [] w1).alloc (.cells (Yj Flt.zero) 37)
 refine ⟨h.u.also u (by simp), ?_, ?_, fun _ => ⟨_, Ycz, h.u.size, by rw [Yb (by decide), d12]; exact heap_alloc_new _ _⟩, ?_, ?_, ?_, ?_, ?_, fun hh => ?_⟩
 ·rw [Yb (by decide), Yb (by decide), Yba (by decide)]
  intro a b; obtain ⟨ma, pb, e1, e2, e3, e4⟩ := h.m a b; exact ⟨ma, pb, e1, e2, e3, e4.keep u (by simp) (by simp)⟩
 ·rw [Yb (by decide), Yb (by decide), Yba (by decide)]
  intro hx; obtain ⟨g, e1, e2, e3⟩ := h.x hx; exact ⟨g, e1, e2, u.get e3 (by simp)⟩
 ·rw [Yb (by decide), Yb (by decide)]; exact h.o3
 ·rw [Yb (by decide), Yb (by decide)]; exact h.o4
 ·rw [Yb (by decide), Yb (by decide)]; exact h.o5
 ·rw [Yb (by decide), Yb (by decide)]; exact h.o6
 ·rw [Yb (by decide), Yb (by decide), Yb (by decide)]; exact h.p
 ·rw [Yb (by decide)] at hh; rw [d12] at hh; cases hh
theorem Ka.putS (h : Ka w S F dn r w1) (hd : dn 11 = false) (h9 : dn 9 = true) (h3 : dn 3 = true) {g : Nat} (e1 : r 9 = .pointer (some ⟨g, 0, none⟩)) : Ka w S F (Yw dn 11) r (w1.setCells g 0 S.cells.toList) := by
 obtain ⟨g', e1', e2, e3⟩ := h.x h9
 obtain rfl : g' = g := by rw [e1] at e1'; injection e1' with e; injection e with e; injection e with e; exact e.symm
 have u := (Upd.refl [g'] w1).setCells (q := g') (.inl (by simp)) S.cells.toList 0
 rw [hd] at e3
 refine ⟨h.u.setCells (.inr e2) _ _, fun hh => ?_, fun _ => ⟨g', e1, e2, by rw [Ya6, if_pos rfl]; exact Ya7 S e3 rfl⟩, ?_, ?_, ?_, ?_, ?_, fun _ => ?_, ?_⟩
 ·rw [Yb (by decide), h3] at hh; cases hh
 ·rw [Yb (by decide), Yb (by decide)]
  intro hx; obtain ⟨g2, a1, a2, a3⟩ := h.y hx
  refine ⟨g2, a1, a2, u.get a3 ?_⟩
  rw [List.mem_singleton]
  rintro rfl
  rw [e3] at a3
  injection a3 with a3
  injection a3 with _ a3
  exact absurd a3 (by decide)
 ·rw [Yb (by decide), Yb (by decide)]; exact h.o3
 ·rw [Yb (by decide), Yb (by decide)]; exact h.o4
 ·rw [Yb (by decide), Yb (by decide)]; exact h.o5
 ·rw [Yb (by decide), Yb (by decide)]; exact h.o6
 ·rw [Yb (by decide), Yb (by decide)]; exact ⟨h9, h3⟩
 ·rw [Yb (by decide), Yb (by decide), Yb (by decide)]; exact h.q
theorem Ka.putF (h : Ka w S F dn r w1) (hd : dn 12 = false) (h10 : dn 10 = true) (h3 : dn 3 = true) {g : Nat} (e1 : r 10 = .pointer (some ⟨g, 0, none⟩)) : Ka w S F (Yw dn 12) r (w1.setCells g 0 (Yj F).toList) := by
 obtain ⟨g', e1', e2, e3⟩ := h.y h10
 obtain rfl : g' = g := by rw [e1] at e1'; injection e1' with e; injection e with e; injection e with e; exact e.symm
 have u := (Upd.refl [g'] w1).setCells (q := g') (.inl (by simp)) (Yj F).toList 0
 rw [hd] at e3
 refine ⟨h.u.setCells (.inr e2) _ _, fun hh => ?_, ?_, fun _ => ⟨g', e1, e2, by rw [Ya6, if_pos rfl, Yad _ _ _ _ e3]; rfl⟩, ?_, ?_, ?_, ?_, ?_, fun _ => ?_⟩
 ·rw [Yb (by decide), h3] at hh; cases hh
 ·rw [Yb (by decide), Yb (by decide)]
  intro hx; obtain ⟨g2, a1, a2, a3⟩ := h.x hx
  refine ⟨g2, a1, a2, u.get a3 ?_⟩
  rw [List.mem_singleton]
  rintro rfl
  rw [e3] at a3
  injection a3 with a3
  injection a3 with _ a3
  exact absurd a3 (by decide)
 ·rw [Yb (by decide), Yb (by decide)]; exact h.o3
 ·rw [Yb (by decide), Yb (by decide)]; exact h.o4
 ·rw [Yb (by decide), Yb (by decide)]; exact h.o5
 ·rw [Yb (by decide), Yb (by decide)]; exact h.o6
 ·rw [Yb (by decide), Yb (by decide), Yb (by decide)]; exact h.p
 ·rw [Yb (by decide), Yb (by decide)]; exact ⟨h10, h3⟩
end
end
def St.eqB (s t : St) : Bool := (((List.range 8).all fun i => s.R i == t.R i) && ((s.pc == t.pc) && ((((s.cf == t.cf) && ((s.pf == t.pf) && ((s.af == t.af) && ((s.zf == t.zf) && ((s.sf == t.sf) && ((s.of_ == t.of_) && true))))))) && ((s.df == t.df) && ((s.f == t.f) && true)))))
theorem St.eqB_self (s : St) : s.eqB s = true := by simp [St.eqB]
def Yf7 (s : St) : Array Value := #[.bool s.cf, .bool s.pf, .bool s.af, .bool s.zf, .bool s.sf, .bool s.of_]
theorem Ygd (s t : St) (w : World) (d : Nat) : (Op.equalIn (d + 1 + 1) 25 (.agg (Yf7 s)) (.agg (Yf7 t))).run Tryd.prog w = .ok ((s.cf == t.cf) && ((s.pf == t.pf) && ((s.af == t.af) && ((s.zf == t.zf) && ((s.sf == t.sf) && ((s.of_ == t.of_) && true)))))) w := by
 have hf : Tryd.prog.fieldsOf 25 = #[{ name := "CF", type := 4, offset := 0, embedded := false, tag := "", pkgPath := "", byteOffset := 0 }, { name := "PF", type := 4, offset := 1, embedded := false, tag := "", pkgPath := "", byteOffset := 1 },
  { name := "AF", type := 4, offset := 2, embedded := false, tag := "", pkgPath := "", byteOffset := 2 }, { name := "ZF", type := 4, offset := 3, embedded := false, tag := "", pkgPath := "", byteOffset := 3 },
  { name := "SF", type := 4, offset := 4, embedded := false, tag := "", pkgPath := "", byteOffset := 4 }, { name := "OF", type := 4, offset := 5, embedded := false, tag := "", pkgPath := "", byteOffset := 5 }] := by kernel_rfl
 have hu : Tryd.prog.underlying 25 = some (.struct (Tryd.prog.fieldsOf 25)) := by kernel_rfl
 have hp : Tryd.prog.plainKey 4 = true := by kernel_rfl
 have hb := fun (a b : Bool) => run_equalIn_bool (P := Tryd.prog) w d 4 a b Tryd.underlying4
 rw [run_equalIn_struct w _ 25 _ _ hu (Tryd.stoodInHeld25), hf]
 exact Yaj (by decide) (run_part_plain w hp rfl) (run_part_plain w hp rfl) (hb _ _) (Yaj (by decide) (run_part_plain w hp rfl) (run_part_plain w hp rfl) (hb _ _) (Yaj (by decide) (run_part_plain w hp rfl) (run_part_plain w hp rfl) (hb _ _) (Yaj (by decide) (run_part_plain w hp rfl) (run_part_plain w hp rfl) (hb _ _) (Yaj (by decide) (run_part_plain w hp rfl) (run_part_plain w hp rfl) (hb _ _) (Yaj (by decide) (run_part_plain w hp rfl) (run_part_plain w hp rfl) (hb _ _) Yed)))))
theorem Ygb (s t : St) (w : World) (d : Nat) : (Op.equalIn (d + 1 + 1 + 1) 28 (.agg s.cells) (.agg t.cells)).run Tryd.prog w = .ok (s.eqB t) w := by
 have hf : Tryd.prog.fieldsOf 28 = #[{ name := "R", type := 23, offset := 0, embedded := false, tag := "", pkgPath := "", byteOffset := 0 }, { name := "PC", type := 22, offset := 8, embedded := false, tag := "", pkgPath := "", byteOffset := 32 },
  { name := "Fl", type := 25, offset := 9, embedded := false, tag := "", pkgPath := "", byteOffset := 36 }, { name := "DF", type := 4, offset := 15, embedded := false, tag := "", pkgPath := "", byteOffset := 42 }, { name := "F", type := 26, offset := 16, embedded := false, tag := "", pkgPath := "", byteOffset := 48 }] := by kernel_rfl
 have hu : Tryd.prog.underlying 28 = some (.struct (Tryd.prog.fieldsOf 28)) := by kernel_rfl
 have hpB : Tryd.prog.plainKey 4 = true := by kernel_rfl
 have hp32 : Tryd.prog.plainKey 22 = true := by kernel_rfl
 have hp64 : Tryd.prog.plainKey 26 = true := by kernel_rfl
 have hc : Tryd.prog.cellsOf 22 = 1 := by kernel_rfl
 have hpR := fun xs : Array Value => Yhl (P := Tryd.prog) (xs := xs) (t := 23) (i := Tryd.t23) (n := 8) (off := 0) w (Tryd.isAgg23 w) (by kernel_rfl) (by kernel_rfl)
 have hpF := fun xs : Array Value => Yhl (P := Tryd.prog) (xs := xs) (t := 25) (i := Tryd.t25) (n := 6) (off := 9) w (Tryd.isAgg25 w) (by kernel_rfl) (by kernel_rfl)
 have eF : ∀ s : St, s.cells.extract 9 (9 + 6) = Yf7 s := fun s => by simp [St.cells, Yf7]
 have hR : (Op.equalIn (d + 1 + 1) 23 (.agg (s.cells.extract 0 (0 + 8))) (.agg (t.cells.extract 0 (0 + 8)))).run Tryd.prog w = .ok ((List.range 8).all fun i => s.R i == t.R i) w := by
  rw [run_equalIn_array w (d + 1) (i := Tryd.t22) _ _ Tryd.underlying23 (by kernel_rfl), hc]
  have e : ∀ (s : St) i, i < 8 → (s.cells.extract 0 (0 + 8))[i]? = some (.int .u32 (s.R i)) := fun s i hi => by
   rw [Array.getElem?_extract, if_pos (by rw [St.size]; omega), Nat.zero_add, St.cR s i hi]
  exact Ygj w d Tryd.underlying22 _ _ _ _ _ (fun i hi => ⟨e s i (List.mem_range.1 hi), e t i (List.mem_range.1 hi)⟩)
 have hF := Ygd s t w d
 rw [← eF s, ← eF t] at hF
 rw [run_equalIn_struct w _ 28 _ _ hu (Tryd.stoodInHeld28), hf]
 exact Yaj (by decide) (hpR _) (hpR _) hR (Yaj (by decide) (run_part_plain w hp32 rfl) (run_part_plain w hp32 rfl) (run_equalIn_int w _ 22 .u32 .u32 _ _ Tryd.underlying22)
  (Yaj (by decide) (hpF _) (hpF _) hF (Yaj (by decide) (run_part_plain w hpB rfl) (run_part_plain w hpB rfl) (run_equalIn_bool w _ 4 _ _ Tryd.underlying4)
  (Yaj (by decide) (run_part_plain w hp64 rfl) (run_part_plain w hp64 rfl) (run_equalIn_int w _ 26 .u64 .u64 _ _ Tryd.underlying26) Yed))))
theorem Yio (s t : St) (w : World) : (binOp .eql 28 (.agg s.cells) (.agg t.cells)).run Tryd.prog w = .ok (.bool (s.eqB t)) w := by
 have h := Ygb s t w 9997
 rw [run_eql_struct]
 rw [show (10000 : Nat) = 9997 + 1 + 1 + 1 from rfl, h, Result.andThen_ok]
section
theorem Ylq {n a b : Int} {f : Fl} (ha : 0 ≤ a ∧ a < 4294967296) (hb : 0 ≤ b ∧ b < 4294967296) : 0 ≤ maV n a b f ∧ maV n a b f < 4294967296 := by
 unfold maV
 split
 ·exact Yd9 n a b ha
 ·split
  ·exact Yc6 n a b
  ·exact Yfc n a b f ha hb
theorem rnalu_ok {r : Rn} (h : r.Ok) {n t a b : Int} {fl : Bool} (ha : 0 ≤ a ∧ a < 4294967296) (hb : 0 ≤ b ∧ b < 4294967296) : (r.alu n t a b fl).Ok := by
 have h1 := Rn.setT_ok h t.toNat (Ylq (n := n) (f := r.s.fl) ha hb)
 unfold Rn.alu
 dsimp only
 by_cases h2 : n = 16 ∨ n = 17
 ·rw [if_pos h2]
  have h3 := Rn.setT_ok h1 ((t + 1) % 64).toNat (Yc1 n a b)
  cases fl
  ·exact h3
  ·exact ⟨St.setFl_ok' h3.s _, h3.p, h3.T⟩
 ·rw [if_neg h2]
  cases fl
  ·exact h1
  ·exact ⟨St.setFl_ok' h1.s _, h1.p, h1.T⟩
theorem Yis {p : Prop} [Decidable p] {a b : MO} (ha : a.r.Ok) (hb : b.r.Ok) : (if p then a else b).r.Ok := by split; exact ha; exact hb
theorem Yij {x : Mi} {r : Rn} (hx : x.Ok) (h : r.Ok) : (Yh D1 x r).r.Ok := by
 have hn := hx.n
 have hT := h.T
 have hR := h.s.R
 have hsel : ∀ c a b, 0 ≤ selV r c a b ∧ selV r c a b < 4294967296 := fun c a b => by unfold selV; split; exact hT _; exact hT _
 by_cases h12 : x.k = 12
 ·have e : Yh D1 x r = if Yce x.n (r.s.R 0) (r.s.R 2) (r.T x.a.toNat) = true then ⟨0, { r with s := (r.s.setR 0 (Ybr x.n (r.s.R 0) (r.s.R 2) (r.T x.a.toNat))).setR 2 (Ybq x.n (r.s.R 0) (r.s.R 2) (r.T x.a.toNat)) }, Flt.zero⟩ else ⟨1, r, ⟨2, 0, 0, 0⟩⟩ := by
   unfold Yh D1
   rw [h12]; rfl
  rw [e]
  have q1 := Yg3 x.n _ _ _ (hR 0) (hR 2) (hT x.a.toNat)
  have q2 := Yg7 x.n _ _ _ (hR 0) (hR 2) (hT x.a.toNat)
  exact Yis ⟨St.setR_ok (St.setR_ok h.s 0 q1.1 q1.2) 2 q2.1 q2.2, h.p, h.T⟩ h
 ·unfold Yh D1
  rw [if_neg h12]
  repeat' refine Yis ?_ ?_
  all_goals first
   |exact h
   |exact Rn.setT_ok h _ hn
   |exact Rn.setT_ok h _ (hR _)
   |exact Rn.setT_ok h _ (Yfo _)
   |exact Rn.setT_ok h _ (hsel _ _ _)
   |exact ⟨St.setR_ok h.s _ (hT _).1 (hT _).2, h.p, h.T⟩
   |exact ⟨St.setPc_ok h.s (hT _), h.p, h.T⟩
   |exact ⟨St.setPc_ok h.s hn, h.p, h.T⟩
   |exact ⟨St.setPc_ok h.s hn, St.setPc_ok h.s hn, h.T⟩
   |exact ⟨St.setDf_ok h.s _, h.p, h.T⟩
   |exact rnalu_ok h (hT _) (hT _)
   |exact ⟨⟨h.s.R, h.s.pc, Ygf _⟩, h.p, h.T⟩
   |exact ⟨⟨h.s.R, h.s.pc, Ygi _⟩, h.p, h.T⟩
theorem Yja : ∀ (l : List Mi), (∀ x ∈ l, x.Ok) → ∀ r : Rn, r.Ok → (Yu (Yh D1) l r).r.Ok
 |[], _, r, h => h
 |x :: l, hl, r, h => by
  unfold Yu
  split
  ·exact Yja l (fun y hy => hl y (by simp [hy])) _ (Yij (hl x (by simp)) h)
  ·exact Yij (hl x (by simp)) h
theorem rn0_ok {s : St} (h : s.Ok) : (rn0 s).Ok := ⟨h, h, fun _ => by show (0 : Int) ≤ 0 ∧ (0 : Int) < 4294967296; decide⟩
theorem Yfi (ma pb g : Nat) (s : St) (v : Value) (l : List Mi) (w : World) (hM : Yi w ma pb Mem.zero) (hs : s.Ok) (hv : MSl w v l g) (hl : ∀ x ∈ l, x.is = true ∧ x.Ok) (h200 : l.length ≤ 200) (hg : g ≠ pb) :
  Calls Tryd.prog 10 #[.pointer (some ⟨ma, 0, none⟩), .agg s.cells, v] w fun e w' => e = .returned (.tuple #[.agg (Ybi (Yu (Yh D1) l (rn0 s))).cells, (Ycg (Yu (Yh D1) l (rn0 s))).val, .bool (Yb3 (Yu (Yh D1) l (rn0 s))), .bool (Ycd (Yu (Yh D1) l (rn0 s)))]) ∧ Yi w' ma pb Mem.zero ∧ Upd [pb] w w' :=
 Run_of (Yh D1) ma pb g s v l w hM hs hv (fun x hx => (hl x hx).2) (by unfold maxLen; omega) (fun k x hx _ => as_any (hl x (List.mem_of_getElem? hx)).1 (hl x (List.mem_of_getElem? hx)).2) (fun _ _ => doesD1_z) (Yga D1_3) hg (by
  unfold isL
  rw [decide_eq_true h200, Bool.and_true, List.all_eq_true]
  exact fun x hx => (hl x hx).1)
structure Kr (w : World) (ma pb : Nat) (L : List (Nat × Obj)) (w1 : World) : Prop where
 h : Hz [] w L w1
 m : Yi w1 ma pb Mem.zero
 f : w.heap.size ≤ pb ∧ w.heap.size ≤ ma
 d : ∀ p ∈ L, p.1 ≠ pb ∧ p.1 ≠ ma
section
variable {w w1 w2 : World} {ma pb x : Nat} {L : List (Nat × Obj)} {o o' : Obj} {S : St} {F : Flt}
theorem Kr.get (h : Kr w ma pb L w1) (n : Nat) (hn : L[n]? = some (x, o)) : w1.heap[x]? = some o := h.h.get n hn
theorem Kr.quiet (h : Kr w ma pb L w1) (u : Upd [] w1 w2) : Kr w ma pb L w2 := ⟨h.h.quiet u, h.m.keep u (by simp) (by simp), h.f, h.d⟩
theorem Kr.run (h : Kr w ma pb L w1) (hm : Yi w2 ma pb Mem.zero) (u : Upd [pb] w1 w2) : Kr w ma pb L w2 :=
 ⟨⟨h.h.u.also u (fun z hz => .inr (by rw [List.mem_singleton.1 hz]; exact h.f.1)), fun p hp => u.get (h.h.v p hp) (by simpa using (h.d p hp).1), h.h.s, h.h.t⟩, hm, h.f, h.d⟩
theorem Kr.add (h : Kr w ma pb L w1) (u : Upd [] w1 w2) {y : Nat} (hy : w1.heap.size ≤ y) (ho : w2.heap[y]? = some o) : Kr w ma pb ((y, o) :: L) w2 := by
 have h1 := h.m.al
 have h2 := h.m.pl
 refine ⟨h.h.add u hy ho, h.m.keep u (by simp) (by simp), h.f, fun p hp => ?_⟩
 rcases List.mem_cons.1 hp with rfl | hp
 ·dsimp only; omega
 ·exact h.d p hp
theorem Kr.put (h : Kr w ma pb L w1) (n : Nat) (hn : L[n]? = some (x, o)) (u : Upd [x] w1 w2) (ho : w2.heap[x]? = some o') : Kr w ma pb (L.set n (x, o')) w2 := by
 have hd := h.d _ (List.mem_of_getElem? hn)
 dsimp only at hd
 refine ⟨h.h.put n hn u ho, h.m.keep u (by simpa using fun e => hd.2 e.symm) (by simpa using fun e => hd.1 e.symm), h.f, fun p hp => ?_⟩
 obtain ⟨j, hj⟩ := List.mem_iff_getElem?.1 hp
 rw [List.getElem?_set] at hj
 by_cases e : n = j
 ·subst e
  have hl := (List.getElem?_eq_some_iff.1 hn).1
  simp only [if_true, hl] at hj
  rw [← Option.some.inj hj]; exact hd
 ·simp only [e, if_false] at hj
  exact h.d p (List.mem_of_getElem? hj)
theorem Kr.two (h : Kr w ma pb L w1) (hw : ((w1.alloc (.cells St.zero.cells 28)).alloc (.cells (Yj Flt.zero) 37)).setCells w1.heap.size 0 S.cells.toList = w2) :
  Kr w ma pb ((w1.heap.size + 1, .cells (Yj Flt.zero) 37 (0, 0)) :: (w1.heap.size, .cells S.cells 28 (0, 0)) :: L) w2 := by
 subst hw
 have h1 := h.add ((Upd.refl [] w1).alloc (.cells St.zero.cells 28)) (Nat.le_refl _) (heap_alloc_new w1 _)
 have h2 := h1.add ((Upd.refl [] _).alloc (.cells (Yj Flt.zero) 37)) (Nat.le_refl _) (heap_alloc_new _ _)
 have e : (w1.alloc (.cells St.zero.cells 28)).heap.size = w1.heap.size + 1 := by simp
 rw [e] at h2
 exact h2.put 1 rfl ((Upd.refl [w1.heap.size] _).setCells (q := w1.heap.size) (.inl (by simp)) _ _) (Ya7 S (h2.get 1 rfl) rfl)
theorem Kr.flt (h : Kr w ma pb ((x, .cells (Yj Flt.zero) 37 (0, 0)) :: L) w1) (F : Flt) : Kr w ma pb ((x, .cells (Yj F) 37 (0, 0)) :: L) (w1.setCells x 0 (Yj F).toList) :=
 h.put 0 rfl ((Upd.refl [x] w1).setCells (q := x) (.inl (by simp)) _ _) (by rw [Yad _ _ _ _ (h.get 0 rfl)]; rfl)
end
theorem Ykd (F : Flt) (w : World) : (binOp .eql 37 F.val F.val).run Tryd.prog w = .ok (.bool true) w := by
 unfold Flt.val
 rw [run_eql_struct]
 have hf : Tryd.prog.fieldsOf 37 = #[{ name := "Kind", type := 3, offset := 0, embedded := false, tag := "", pkgPath := "", byteOffset := 0 }, { name := "PC", type := 22, offset := 1, embedded := false, tag := "", pkgPath := "", byteOffset := 8 },
  { name := "Addr", type := 22, offset := 2, embedded := false, tag := "", pkgPath := "", byteOffset := 12 }, { name := "Want", type := 3, offset := 3, embedded := false, tag := "", pkgPath := "", byteOffset := 16 }] := by kernel_rfl
 have hu : Tryd.prog.underlying 37 = some (.struct (Tryd.prog.fieldsOf 37)) := by kernel_rfl
 have hp : Tryd.prog.plainKey 22 = true := by kernel_rfl
 have hpi : Tryd.prog.plainKey 3 = true := by kernel_rfl
 have e1 : ∀ a : Int, (a == a) = true := fun a => by simp
 have h1 : ∀ a : Int, (Op.equalIn (9998 + 1) 22 (.int .u32 a) (.int .u32 a)).run Tryd.prog w = .ok true w := fun a => by rw [run_equalIn_int (P := Tryd.prog) w 9998 22 .u32 .u32 a a Tryd.underlying22, e1]
 have h2 : ∀ a : Int, (Op.equalIn (9998 + 1) 3 (.int .i64 a) (.int .i64 a)).run Tryd.prog w = .ok true w := fun a => by rw [run_equalIn_int (P := Tryd.prog) w 9998 3 .i64 .i64 a a Tryd.underlying3, e1]
 have h : (Op.equalIn (9998 + 1 + 1) 37 (.agg #[.int .i64 F.k, .int .u32 F.pc, .int .u32 F.a, .int .i64 F.wt]) (.agg #[.int .i64 F.k, .int .u32 F.pc, .int .u32 F.a, .int .i64 F.wt])).run Tryd.prog w = .ok true w := by
  rw [run_equalIn_struct w _ 37 _ _ hu (by kernel_rfl), hf]
  show _ = Result.ok (true && (true && (true && (true && true)))) w
  exact Yaj (by decide) (run_part_plain w hpi rfl) (run_part_plain w hpi rfl) (h2 _) (Yaj (by decide) (run_part_plain w hp rfl) (run_part_plain w hp rfl) (h1 _) (Yaj (by decide) (run_part_plain w hp rfl) (run_part_plain w hp rfl) (h1 _) (Yaj (by decide) (run_part_plain w hpi rfl) (run_part_plain w hpi rfl) (h2 _) Yed)))
 rw [show (10000 : Nat) = 9998 + 1 + 1 from rfl, h, Result.andThen_ok]
end
section
theorem Yd7 {o : Oper} {a : Act} {w : World} {K : Act → World → Prop} {Q : Exit → Act → World → Prop} (s x : Operand)
  (ho : o.op = .call { callee := .builtin .append, args := #[s, x], argTypes := #[29, 29] })
  (base : Nat) (v : Value) (l : List Mi) (hs : a.eval s = v) (hown : Ybc w base v l) (vb : Value) (m : List Mi) (g : Nat) (hx : a.eval x = vb) (hb : MSl w vb m g) (hn : l.length + m.length ≤ 10000) (hbase : base ≤ w.heap.size)
  (hK : ∀ v' w', GrewM w base v (l ++ m) v' w' → K (a.put o.dst v') w') : o.wp Tryd.prog a w K Q := by
 obtain ⟨v', w', hr, h2⟩ := Yff w base o.type v l hown vb m g hb hn hbase
 unfold Oper.wp execOp
 simp only [ho, resolve, invoke, builtin, Sem.run_bind, Sem.run_pure, Result.andThen_ok, List.map_toArray, List.map_cons, List.map_nil, hs, hx, hr]
 exact hK _ _ h2
theorem Yeo {P : Program} {ops : Array Oper} {B : (Nat → Bool) → (Nat → Value) → World → Prop} {X : List PanicEntry → World → Prop} {n : Nat} {fin : List Nat → List Nat → Act → Prop} {dead free : List Nat} {i : Nat} {o : Oper} {rest : List Oper} {a : Act}
  (hd : Yac dead o = false) (hw : ∀ r, Region.wanted o (yielded ops (Yq ops r free a).tmps) = true) (t : Tmp) (ht : o.dst = some t) (hs : t < a.tmps.size)
  (h : ∀ (d : Nat → Bool) (r : Nat → Value) (K : Act → World → Prop), d i = false → (∀ e ∈ o.after, Region.binds .any e = true → d e.on = true) → ∀ w, B d r w → (∀ v w', B (Yw d i) (Ybp r i v) w' → K ((Yq ops r free a).put o.dst v) w') → o.wp P (Yq ops r free a) w K (PX X))
  (k : Yb2 P ops B X n fin dead (i :: free) (i + 1) rest a) : Yb2 P ops B X n fin dead free i (o :: rest) a :=
 .inr (.inr (.inr (.inr ⟨hd, hw, ⟨t, ht, hs⟩, fun d r w hdi hdep hB => h d r _ hdi hdep w hB (fun v w' hB' => ⟨v, rfl, hB'⟩), k⟩)))
theorem Ybc.ne {w : World} {base g : Nat} {v : Value} {l : List Mi} {C : Array Value} {T : TypeId} {f : Nat × Nat} (h : Ybc w base v l) (hg : w.heap[g]? = some (.cells C T f)) (hT : T ≠ 35) : ∀ x, v.ownBlock = some x → x ≠ g := by
 rintro x hx rfl
 rcases h.2 with ⟨rfl, _⟩ | ⟨g', cap, cur, rfl, hb, hg', hr⟩
 ·cases hx
 ·simp only [Value.ownBlock, Option.some.injEq] at hx
  subst hx
  rw [hg'] at hg
  injection hg with hg
  injection hg with _ h2
  exact hT h2.symm
structure Kb (w : World) (ma pb : Nat) (l cl k : List Mi) (S : St) (F : Flt) (dn : Nat → Bool) (r : Nat → Value) (w1 : World) : Prop where
 u : Upd [pb] w w1
 m : Yi w1 ma pb Mem.zero
 a3 : dn 5 = false → dn 3 = true → Ybc w1 w.heap.size (r 3) l
 a5 : dn 7 = false → dn 5 = true → Ybc w1 w.heap.size (r 5) (l ++ cl)
 a7 : dn 7 = true → Ybc w1 w.heap.size (r 7) ((l ++ cl) ++ k)
 x : dn 14 = true → ∃ g, r 14 = .pointer (some ⟨g, 0, none⟩) ∧ w.heap.size ≤ g ∧ w1.heap[g]? = some (.cells (if dn 16 = true then S.cells else St.zero.cells) 28 (0, 0))
 y : dn 15 = true → ∃ g, r 15 = .pointer (some ⟨g, 0, none⟩) ∧ w.heap.size ≤ g ∧ w1.heap[g]? = some (.cells (if dn 17 = true then Yj F else Yj Flt.zero) 37 (0, 0))
 o5 : dn 5 = true → dn 3 = true
 o7 : dn 7 = true → dn 5 = true
 p : dn 16 = true → dn 14 = true
 q : dn 17 = true → dn 15 = true
 lt : pb < w.heap.size ∧ ma < w.heap.size
section
variable {w w1 w2 : World} {ma pb : Nat} {l cl k : List Mi} {S : St} {F : Flt} {dn : Nat → Bool} {r : Nat → Value}
theorem Kb.start (hm : Yi w ma pb Mem.zero) (r : Nat → Value) : Kb w ma pb l cl k S F (fun _ => false) r w.drew :=
 ⟨(Upd.refl [pb] w).drew, hm.keep (Upd.refl [] w).drew (by simp) (by simp), fun _ h => (by cases h), fun _ h => (by cases h), fun h => (by cases h), fun h => (by cases h), fun h => (by cases h), fun h => (by cases h), fun h => (by cases h), fun h => (by cases h), fun h => (by cases h), hm.pl, hm.al⟩
theorem Kb.same (h : Kb w ma pb l cl k S F dn r w1) (j : Nat) (hj : 3 ≠ j ∧ 5 ≠ j ∧ 7 ≠ j ∧ 14 ≠ j ∧ 15 ≠ j ∧ 16 ≠ j ∧ 17 ≠ j) : Kb w ma pb l cl k S F (Yw dn j) r w1 := by
 obtain ⟨j3, j5, j7, j14, j15, j16, j17⟩ := hj
 refine ⟨h.u, h.m, ?_, ?_, ?_, ?_, ?_, ?_, ?_, ?_, ?_, h.lt⟩
 ·rw [Yb j5, Yb j3]; exact h.a3
 ·rw [Yb j7, Yb j5]; exact h.a5
 ·rw [Yb j7]; exact h.a7
 ·rw [Yb j14, Yb j16]; exact h.x
 ·rw [Yb j15, Yb j17]; exact h.y
 ·rw [Yb j5, Yb j3]; exact h.o5
 ·rw [Yb j7, Yb j5]; exact h.o7
 ·rw [Yb j16, Yb j14]; exact h.p
 ·rw [Yb j17, Yb j15]; exact h.q
theorem Kb.upd (h : Kb w ma pb l cl k S F dn r w1) {S' : List Nat} (u : Upd S' w1 w2) (hS : ∀ z ∈ S', z = pb ∨ w.heap.size ≤ z) (hm : Yi w2 ma pb Mem.zero)
  (ha3 : dn 5 = false → dn 3 = true → ∀ g, (r 3).ownBlock = some g → g ∉ S') (ha5 : dn 7 = false → dn 5 = true → ∀ g, (r 5).ownBlock = some g → g ∉ S') (ha7 : dn 7 = true → ∀ g, (r 7).ownBlock = some g → g ∉ S')
  (hx : ∀ g C, w.heap.size ≤ g → w1.heap[g]? = some (.cells C 28 (0, 0)) → g ∉ S') (hy : ∀ g C, w.heap.size ≤ g → w1.heap[g]? = some (.cells C 37 (0, 0)) → g ∉ S') : Kb w ma pb l cl k S F dn r w2 := by
 refine ⟨h.u.also u (fun z hz => ?_), hm, fun a b => (h.a3 a b).keep u (ha3 a b), fun a b => (h.a5 a b).keep u (ha5 a b), fun a => (h.a7 a).keep u (ha7 a), fun a => ?_, fun a => ?_, h.o5, h.o7, h.p, h.q, h.lt⟩
 ·rcases hS z hz with e | e
  ·exact .inl (by rw [e]; simp)
  ·exact .inr e
 ·obtain ⟨g, e1, e2, e3⟩ := h.x a; exact ⟨g, e1, e2, u.get e3 (hx g _ e2 e3)⟩
 ·obtain ⟨g, e1, e2, e3⟩ := h.y a; exact ⟨g, e1, e2, u.get e3 (hy g _ e2 e3)⟩
theorem Kb.quiet (h : Kb w ma pb l cl k S F dn r w1) (u : Upd [] w1 w2) : Kb w ma pb l cl k S F dn r w2 :=
 h.upd u (by simp) (h.m.keep u (by simp) (by simp)) (fun _ _ _ _ => by simp) (fun _ _ _ _ => by simp) (fun _ _ _ => by simp) (fun _ _ _ _ => by simp) (fun _ _ _ _ => by simp)
theorem Kb.run (h : Kb w ma pb l cl k S F dn r w1) (u : Upd [pb] w1 w2) (hm : Yi w2 ma pb Mem.zero) : Kb w ma pb l cl k S F dn r w2 := by
 have hl := h.lt.1
 refine h.upd u (fun z hz => .inl (List.mem_singleton.1 hz)) hm (fun a b g hg => ?_) (fun a b g hg => ?_) (fun a g hg => ?_) (fun g C hg _ => by simp; omega) (fun g C hg _ => by simp; omega)
 ·have := ((h.a3 a b).block g hg).1; simp; omega
 ·have := ((h.a5 a b).block g hg).1; simp; omega
 ·have := ((h.a7 a).block g hg).1; simp; omega
theorem Kb.no7 (h : Kb w ma pb l cl k S F dn r w1) (hd : dn 5 = false) : dn 7 = false := by
 cases e : dn 7 with
 |false => rfl
 |true => rw [h.o7 e] at hd; cases hd
theorem Kb.ap3 (h : Kb w ma pb l cl k S F dn r w1) (hd : dn 3 = false) {v : Value} (hv : Ybc w2 w.heap.size v l) (u : Upd [] w1 w2) : Kb w ma pb l cl k S F (Yw dn 3) (Ybp r 3 v) w2 := by
 have d5 : dn 5 = false := by
  cases e : dn 5 with
  |false => rfl
  |true => rw [h.o5 e] at hd; cases hd
 have d7 := h.no7 d5
 have h2 := h.quiet u
 refine ⟨h2.u, h2.m, fun _ _ => by rw [Ycz]; exact hv, ?_, ?_, ?_, ?_, ?_, ?_, ?_, ?_, h.lt⟩
 ·rw [Yb (by decide), Yb (by decide), Yba (by decide)]; exact h2.a5
 ·rw [Yb (by decide), Yba (by decide)]; exact h2.a7
 ·rw [Yb (by decide), Yb (by decide), Yba (by decide)]; exact h2.x
 ·rw [Yb (by decide), Yb (by decide), Yba (by decide)]; exact h2.y
 ·intro _; exact Ya6
 ·rw [Yb (by decide), Yb (by decide)]; exact h.o7
 ·rw [Yb (by decide), Yb (by decide)]; exact h.p
 ·rw [Yb (by decide), Yb (by decide)]; exact h.q
theorem Kb.ap5 (h : Kb w ma pb l cl k S F dn r w1) (hd : dn 5 = false) (h3 : dn 3 = true) {v : Value} (hv : Ybc w2 w.heap.size v (l ++ cl)) (u : Upd (r 3).ownBlock.toList w1 w2) : Kb w ma pb l cl k S F (Yw dn 5) (Ybp r 5 v) w2 := by
 have d7 := h.no7 hd
 have ho := h.a3 hd h3
 have hb := ho.block
 have hl := h.lt
 have hS : ∀ z ∈ (r 3).ownBlock.toList, w.heap.size ≤ z := fun z hz => (hb z (by simpa using hz)).1
 have hm : Yi w2 ma pb Mem.zero := h.m.keep u (fun hh => by have := hS _ hh; omega) (fun hh => by have := hS _ hh; omega)
 refine ⟨h.u.also u (fun z hz => .inr (hS z hz)), hm, fun a => ?_, fun _ _ => by rw [Ycz]; exact hv, ?_, ?_, ?_, fun _ => ?_, fun _ => ?_, ?_, ?_, h.lt⟩
 ·rw [Ya6] at a; cases a
 ·rw [Yb (by decide)]; intro a; rw [d7] at a; cases a
 ·rw [Yb (by decide), Yb (by decide), Yba (by decide)]
  intro a; obtain ⟨g, e1, e2, e3⟩ := h.x a; exact ⟨g, e1, e2, u.get e3 (fun hh => ho.ne e3 (by decide) g (by simpa using hh) rfl)⟩
 ·rw [Yb (by decide), Yb (by decide), Yba (by decide)]
  intro a; obtain ⟨g, e1, e2, e3⟩ := h.y a; exact ⟨g, e1, e2, u.get e3 (fun hh => ho.ne e3 (by decide) g (by simpa using hh) rfl)⟩
 ·rw [Yb (by decide)]; exact h3
 ·exact Ya6
 ·rw [Yb (by decide), Yb (by decide)]; exact h.p
 ·rw [Yb (by decide), Yb (by decide)]; exact h.q
theorem Kb.ap7 (h : Kb w ma pb l cl k S F dn r w1) (hd : dn 7 = false) (h5 : dn 5 = true) {v : Value} (hv : Ybc w2 w.heap.size v ((l ++ cl) ++ k)) (u : Upd (r 5).ownBlock.toList w1 w2) : Kb w ma pb l cl k S F (Yw dn 7) (Ybp r 7 v) w2 := by
 have ho := h.a5 hd h5
 have hb := ho.block
 have hl := h.lt
 have hS : ∀ z ∈ (r 5).ownBlock.toList, w.heap.size ≤ z := fun z hz => (hb z (by simpa using hz)).1
 have hm : Yi w2 ma pb Mem.zero := h.m.keep u (fun hh => by have := hS _ hh; omega) (fun hh => by have := hS _ hh; omega)
 refine ⟨h.u.also u (fun z hz => .inr (hS z hz)), hm, ?_, fun a => ?_, fun _ => by rw [Ycz]; exact hv, ?_, ?_, ?_, fun _ => ?_, ?_, ?_, h.lt⟩
 ·rw [Yb (by decide), h5]; intro a; cases a
 ·rw [Ya6] at a; cases a
 ·rw [Yb (by decide), Yb (by decide), Yba (by decide)]
  intro a; obtain ⟨g, e1, e2, e3⟩ := h.x a; exact ⟨g, e1, e2, u.get e3 (fun hh => ho.ne e3 (by decide) g (by simpa using hh) rfl)⟩
 ·rw [Yb (by decide), Yb (by decide), Yba (by decide)]
  intro a; obtain ⟨g, e1, e2, e3⟩ := h.y a; exact ⟨g, e1, e2, u.get e3 (fun hh => ho.ne e3 (by decide) g (by simpa using hh) rfl)⟩
 ·rw [Yb (by decide), Yb (by decide)]; exact h.o5
 ·rw [Yb (by decide)]; exact h5
 ·rw [Yb (by decide), Yb (by decide)]; exact h.p
 ·rw [Yb (by decide), Yb (by decide)]; exact h.q
theorem Kb.layS (h : Kb w ma pb l cl k S F dn r w1) (hd : dn 14 = false) : Kb w ma pb l cl k S F (Yw dn 14) (Ybp r 14 (.pointer (some ⟨w1.heap.size, 0, none⟩))) (w1.alloc (.cells St.zero.cells 28)) := by
 have d16 : dn 16 = false := by
  cases e : dn 16 with
  |false => rfl
  |true => rw [h.p e] at hd; cases hd
 have h2 := h.quiet ((Upd.refl [] w1).alloc (.cells St.zero.cells 28))
 refine ⟨h2.u, h2.m, ?_, ?_, ?_, fun _ => ⟨_, Ycz, h.u.size, by rw [Yb (by decide), d16]; exact heap_alloc_new _ _⟩, ?_, ?_, ?_, fun _ => Ya6, ?_, h.lt⟩
 ·rw [Yb (by decide), Yb (by decide), Yba (by decide)]; exact h2.a3
 ·rw [Yb (by decide), Yb (by decide), Yba (by decide)]; exact h2.a5
 ·rw [Yb (by decide), Yba (by decide)]; exact h2.a7
 ·rw [Yb (by decide), Yb (by decide), Yba (by decide)]; exact h2.y
 ·rw [Yb (by decide), Yb (by decide)]; exact h.o5
 ·rw [Yb (by decide), Yb (by decide)]; exact h.o7
 ·rw [Yb (by decide), Yb (by decide)]; exact h.q
theorem Kb.layF (h : Kb w ma pb l cl k S F dn r w1) (hd : dn 15 = false) : Kb w ma pb l cl k S F (Yw dn 15) (Ybp r 15 (.pointer (some ⟨w1.heap.size, 0, none⟩))) (w1.alloc (.cells (Yj Flt.zero) 37)) := by
 have d17 : dn 17 = false := by
  cases e : dn 17 with
  |false => rfl
  |true => rw [h.q e] at hd; cases hd
 have h2 := h.quiet ((Upd.refl [] w1).alloc (.cells (Yj Flt.zero) 37))
 refine ⟨h2.u, h2.m, ?_, ?_, ?_, ?_, fun _ => ⟨_, Ycz, h.u.size, by rw [Yb (by decide), d17]; exact heap_alloc_new _ _⟩, ?_, ?_, ?_, fun _ => Ya6, h.lt⟩
 ·rw [Yb (by decide), Yb (by decide), Yba (by decide)]; exact h2.a3
 ·rw [Yb (by decide), Yb (by decide), Yba (by decide)]; exact h2.a5
 ·rw [Yb (by decide), Yba (by decide)]; exact h2.a7
 ·rw [Yb (by decide), Yb (by decide), Yba (by decide)]; exact h2.x
 ·rw [Yb (by decide), Yb (by decide)]; exact h.o5
 ·rw [Yb (by decide), Yb (by decide)]; exact h.o7
 ·rw [Yb (by decide), Yb (by decide)]; exact h.p
theorem Kb.putS (h : Kb w ma pb l cl k S F dn r w1) (hd : dn 16 = false) (h14 : dn 14 = true) {g : Nat} (e1 : r 14 = .pointer (some ⟨g, 0, none⟩)) : Kb w ma pb l cl k S F (Yw dn 16) r (w1.setCells g 0 S.cells.toList) := by
 obtain ⟨g', e1', e2, e3⟩ := h.x h14
 obtain rfl : g' = g := by rw [e1] at e1'; injection e1' with e; injection e with e; injection e with e; exact e.symm
 have u := (Upd.refl [g'] w1).setCells (q := g') (.inl (by simp)) S.cells.toList 0
 rw [hd] at e3
 have hl := h.lt
 refine ⟨h.u.setCells (.inr e2) _ _, h.m.keep u (by simp; omega) (by simp; omega), ?_, ?_, ?_, fun _ => ⟨g', e1, e2, by rw [Ya6, if_pos rfl]; exact Ya7 S e3 rfl⟩, ?_, ?_, ?_, fun _ => ?_, ?_, h.lt⟩
 ·rw [Yb (by decide), Yb (by decide)]; intro a b; exact (h.a3 a b).keep u (fun z hz hh => (h.a3 a b).ne e3 (by decide) z hz (List.mem_singleton.1 hh))
 ·rw [Yb (by decide), Yb (by decide)]; intro a b; exact (h.a5 a b).keep u (fun z hz hh => (h.a5 a b).ne e3 (by decide) z hz (List.mem_singleton.1 hh))
 ·rw [Yb (by decide)]; intro a; exact (h.a7 a).keep u (fun z hz hh => (h.a7 a).ne e3 (by decide) z hz (List.mem_singleton.1 hh))
 ·rw [Yb (by decide), Yb (by decide)]
  intro hy; obtain ⟨g2, a1, a2, a3⟩ := h.y hy
  refine ⟨g2, a1, a2, u.get a3 ?_⟩
  rw [List.mem_singleton]
  rintro rfl
  rw [e3] at a3
  injection a3 with a3
  injection a3 with _ a3
  exact absurd a3 (by decide)
 ·rw [Yb (by decide), Yb (by decide)]; exact h.o5
 ·rw [Yb (by decide), Yb (by decide)]; exact h.o7
 ·rw [Yb (by decide)]; exact h14
 ·rw [Yb (by decide), Yb (by decide)]; exact h.q
theorem Kb.putF (h : Kb w ma pb l cl k S F dn r w1) (hd : dn 17 = false) (h15 : dn 15 = true) {g : Nat} (e1 : r 15 = .pointer (some ⟨g, 0, none⟩)) : Kb w ma pb l cl k S F (Yw dn 17) r (w1.setCells g 0 (Yj F).toList) := by
 obtain ⟨g', e1', e2, e3⟩ := h.y h15
 obtain rfl : g' = g := by rw [e1] at e1'; injection e1' with e; injection e with e; injection e with e; exact e.symm
 have u := (Upd.refl [g'] w1).setCells (q := g') (.inl (by simp)) (Yj F).toList 0
 rw [hd] at e3
 have hl := h.lt
 refine ⟨h.u.setCells (.inr e2) _ _, h.m.keep u (by simp; omega) (by simp; omega), ?_, ?_, ?_, ?_, fun _ => ⟨g', e1, e2, by rw [Ya6, if_pos rfl, Yad _ _ _ _ e3]; rfl⟩, ?_, ?_, ?_, fun _ => ?_, h.lt⟩
 ·rw [Yb (by decide), Yb (by decide)]; intro a b; exact (h.a3 a b).keep u (fun z hz hh => (h.a3 a b).ne e3 (by decide) z hz (List.mem_singleton.1 hh))
 ·rw [Yb (by decide), Yb (by decide)]; intro a b; exact (h.a5 a b).keep u (fun z hz hh => (h.a5 a b).ne e3 (by decide) z hz (List.mem_singleton.1 hh))
 ·rw [Yb (by decide)]; intro a; exact (h.a7 a).keep u (fun z hz hh => (h.a7 a).ne e3 (by decide) z hz (List.mem_singleton.1 hh))
 ·rw [Yb (by decide), Yb (by decide)]
  intro hx; obtain ⟨g2, a1, a2, a3⟩ := h.x hx
  refine ⟨g2, a1, a2, u.get a3 ?_⟩
  rw [List.mem_singleton]
  rintro rfl
  rw [e3] at a3
  injection a3 with a3
  injection a3 with _ a3
  exact absurd a3 (by decide)
 ·rw [Yb (by decide), Yb (by decide)]; exact h.o5
 ·rw [Yb (by decide), Yb (by decide)]; exact h.o7
 ·rw [Yb (by decide), Yb (by decide)]; exact h.p
 ·rw [Yb (by decide)]; exact h15
end
end
end Go.Proofs.YtjkolegknpflfaaDoor
