/-
  Parts of the proof (their names shortened by a program). No condition.
-/
import Derived.Test.YthakgjpejhjaoaaGreatMg01
import Derived.Test.YthakgjpejhjaoaaGreatMg06
import Derived.Test.YthakgjpejhjaoaaGreatMg16
import Derived.Test.YthakgjpejhjaoaaGreatMg08
namespace Go.Proofs.YthakgjpejhjaoaaGreat
open Go Go.RowKit
set_option linter.unusedVariables false
set_option linter.unusedSimpArgs false
set_option maxRecDepth 100000
set_option maxHeartbeats 16000000
section
def Ybu (a : Nat) (s : St) (i : Ins) : Array Value := #[.pointer (some ⟨a, 0, none⟩),
 .int .u32 (s.R 0), .int .u32 (s.R 1), .int .u32 (s.R 2), .int .u32 (s.R 3), .int .u32 (s.R 4), .int .u32 (s.R 5), .int .u32 (s.R 6), .int .u32 (s.R 7), .int .u32 s.pc,
 .bool s.cf, .bool s.pf, .bool s.af, .bool s.zf, .bool s.sf, .bool s.of_, .bool s.df, .int .u64 s.f,
 .int .i64 i.op, .int .i64 i.cond,
 .int .i64 i.a.k, .int .i64 i.a.r, .int .u32 i.a.imm, .int .i64 i.a.b, .int .i64 i.a.x, .int .u32 i.a.sc,
 .int .i64 i.b.k, .int .i64 i.b.r, .int .u32 i.b.imm, .int .i64 i.b.b, .int .i64 i.b.x, .int .u32 i.b.sc,
 .bool i.rep, .int .i64 i.len]
structure Ins.Ok (i : Ins) : Prop where
 a : i.a.Ok
 b : i.b.Ok
structure Yq (w : World) (d a pb : Nat) (s : St) (i : Ins) (M : Mem) : Prop where
 h : w.heap[d]? = some (.cells (Ybu a s i) 86 (0, 0))
 m : Yk w a pb M
 ok : s.Ok
 io : i.Ok
 na : d ≠ a
 np : d ≠ pb
theorem Yof {α : Type} (l m : List α) (off n : Nat) (h : ∀ j : Fin n, l[off + j.val]? = m[j.val]?) (hm : m.length = n) : ∀ j u, m[j]? = some u → l[off + j]? = some u := by
 intro j u hu
 have := (List.getElem?_eq_some_iff.1 hu).1
 rw [h ⟨j, by omega⟩]
 exact hu
theorem Yjg (a : Nat) (s : St) (i : Ins) : ∀ j u, s.cells.toList[j]? = some u → (Ybu a s i)[1 + j]? = some u := by
 intro j u hu
 have := Yof (Ybu a s i).toList s.cells.toList 1 17 (fun ⟨j, hj⟩ => match j, hj with | 0, _ => rfl | 1, _ => rfl | 2, _ => rfl | 3, _ => rfl | 4, _ => rfl | 5, _ => rfl | 6, _ => rfl | 7, _ => rfl | 8, _ => rfl | 9, _ => rfl | 10, _ => rfl | 11, _ => rfl | 12, _ => rfl | 13, _ => rfl | 14, _ => rfl | 15, _ => rfl | 16, _ => rfl | k + 17, h => absurd h (by omega)) rfl j u hu
 rwa [Array.getElem?_toList] at this
theorem Ypv (a : Nat) (s : St) (i : Ins) : ∀ j u, i.cells.toList[j]? = some u → (Ybu a s i)[18 + j]? = some u := by
 intro j u hu
 have := Yof (Ybu a s i).toList i.cells.toList 18 16 (fun ⟨j, hj⟩ => match j, hj with | 0, _ => rfl | 1, _ => rfl | 2, _ => rfl | 3, _ => rfl | 4, _ => rfl | 5, _ => rfl | 6, _ => rfl | 7, _ => rfl | 8, _ => rfl | 9, _ => rfl | 10, _ => rfl | 11, _ => rfl | 12, _ => rfl | 13, _ => rfl | 14, _ => rfl | 15, _ => rfl | k + 16, h => absurd h (by omega)) rfl j u hu
 rwa [Array.getElem?_toList] at this
theorem Yog (a : Nat) (s : St) (i : Ins) : (Ybu a s i).size = 34 := rfl
theorem dr_set (a : Nat) (s s' : St) (i : Ins) : wr (Ybu a s i) 1 s'.cells.toList = Ybu a s' i := by kernel_rfl
section
variable {w w' : World} {d a pb : Nat} {s : St} {i : Ins} {M : Mem}
theorem Yq.keep {S : List Nat} (h : Yq w d a pb s i M) (u : Upd S w w') (hd : d ∉ S) (ha : a ∉ S) (hp : pb ∉ S) : Yq w' d a pb s i M :=
 ⟨u.get h.h hd, h.m.keep u ha hp, h.ok, h.io, h.na, h.np⟩
theorem Yq.cell (h : Yq w d a pb s i M) (o : Nat) : w.cell? ⟨d, o, none⟩ = (Ybu a s i)[o]? := Ya h.h o
theorem Yq.free (h : Yq w d a pb s i M) (o : Nat) : w.frozen? ⟨d, o, none⟩ = false := Yn h.h o
theorem Yq.rs (h : Yq w d a pb s i M) : w.rangeAt d 1 s.cells.toList := fun j u hu => by rw [h.cell]; exact Yjg a s i j u hu
theorem Yq.ri (h : Yq w d a pb s i M) : w.rangeAt d 18 i.cells.toList := fun j u hu => by rw [h.cell]; exact Ypv a s i j u hu
theorem Yq.lt (h : Yq w d a pb s i M) : d < w.heap.size := Yj h.h
theorem Yq.mem {M' : Mem} (h : Yq w d a pb s i M) (u : Upd [pb] w w') (hm : Yk w' a pb M') : Yq w' d a pb s i M' :=
 ⟨u.get h.h (by simpa using h.np), hm, h.ok, h.io, h.na, h.np⟩
theorem Yq.put {s' : St} (h : Yq w d a pb s i M) (ho : s'.Ok) : Yq (w.setCells d 1 s'.cells.toList) d a pb s' i M := by
 refine ⟨?_, h.m.keep ((Upd.refl [d] w).setCells (.inl (by simp)) _ _) (by simpa using fun e => h.na e.symm) (by simpa using fun e => h.np e.symm), ho, h.io, h.na, h.np⟩
 rw [Yag _ _ _ _ h.h, dr_set]
end
end
section
def Yay (o : Opd) : Array Value := #[.int .i64 o.k, .int .i64 o.r, .int .u32 o.imm, .int .i64 o.b, .int .i64 o.x, .int .u32 o.sc]
def Yo (F : Flt) : Array Value := #[.int .i64 F.k, .int .u32 F.pc, .int .u32 F.a, .int .i64 F.wt]
theorem Yp {d : Nat → Bool} {m i : Nat} (h : i ≠ m) : Yah d m i = d i := by simp [Yah, h]
theorem Yc4 {d : Nat → Bool} {m : Nat} : Yah d m m = true := by simp [Yah]
theorem vq_ne {r : Nat → Value} {m i : Nat} {v : Value} (h : i ≠ m) : Ycw r m v i = r i := by simp [Ycw, h]
theorem Yf9 {r : Nat → Value} {m : Nat} {v : Value} : Ycw r m v m = v := by simp [Ycw]
theorem Yav {op : Oper} {A : Act} {w : World} {K : Act → World → Prop} {Q : Exit → Act → World → Prop} (F Z : Flt) (g : Nat) (x y : Operand) (ho : op.op = .store 35 x y) (hx : A.eval x = .pointer (some ⟨g, 0, none⟩)) (hy : A.eval y = F.val)
  (hb : w.heap[g]? = some (.cells (Yo Z) 35 (0, 0))) (hK : K (A.put op.dst undef) (w.setCells g 0 (Yo F).toList)) : op.wp Tryz.prog A w K Q :=
 wp_store_mid 35 x y ho g 0 (Yo F) hx hy (Yd8 hb 0 4 (by simp [Yo])) Ybx (by simp [Yo, Value.oneCell']) hK
structure DrI (w : World) (d a pb ob : Nat) (s : St) (i : Ins) (M M' : Mem) (o : Opd) (S : St) (F : Flt) (c e f p q : Nat) (T : List Nat) (dn : Nat → Bool) (r : Nat → Value) (w1 : World) : Prop where
 b : Yq w1 d a pb s i (if dn c = true then M' else M)
 o : w1.heap[ob]? = some (.cells (Yay o) 39 (0, 0))
 u : Upd T w w1
 x : dn e = true → ∃ g Z, r e = .pointer (some ⟨g, 0, none⟩) ∧ ob < g ∧ w1.heap[g]? = some (.cells Z 28 (0, 0)) ∧ Z.size = 17 ∧ (dn p = true → Z = S.cells)
 y : dn f = true → ∃ g G, r f = .pointer (some ⟨g, 0, none⟩) ∧ ob < g ∧ w1.heap[g]? = some (.cells (Yo G) 35 (0, 0)) ∧ (dn q = true → G = F)
 xo : dn p = true → dn e = true
 yo : dn q = true → dn f = true
 ne : (c ≠ e ∧ c ≠ f ∧ c ≠ p ∧ c ≠ q) ∧ (e ≠ f ∧ e ≠ p ∧ e ≠ q) ∧ (f ≠ p ∧ f ≠ q) ∧ p ≠ q
 lt : d < ob ∧ a < ob ∧ pb < ob ∧ w.heap.size ≤ ob
 ht : ∀ x, x ∈ T → x = pb
section
variable {w w1 w2 : World} {d a pb ob : Nat} {s : St} {i : Ins} {M M' : Mem} {o : Opd} {S : St} {F : Flt} {c e f p q : Nat} {T : List Nat} {dn : Nat → Bool} {r : Nat → Value}
theorem DrI.start (h : Yq w1 d a pb s i M) (ho : w1.heap[ob]? = some (.cells (Yay o) 39 (0, 0))) (u : Upd T w w1) (ne : (c ≠ e ∧ c ≠ f ∧ c ≠ p ∧ c ≠ q) ∧ (e ≠ f ∧ e ≠ p ∧ e ≠ q) ∧ (f ≠ p ∧ f ≠ q) ∧ p ≠ q) (lt : d < ob ∧ a < ob ∧ pb < ob ∧ w.heap.size ≤ ob) (ht : ∀ x, x ∈ T → x = pb) (r : Nat → Value) : DrI w d a pb ob s i M M' o S F c e f p q T (fun _ => false) r w1 :=
 ⟨by simpa using h, ho, u, fun h => (by cases h), fun h => (by cases h), fun h => (by cases h), fun h => (by cases h), ne, lt, ht⟩
theorem DrI.over (h : DrI w d a pb ob s i M M' o S F c e f p q T dn r w1) (u : Upd T w1 w2) {m : Nat} (hb : Yq w2 d a pb s i (if Yah dn m c = true then M' else M)) (h2 : e ≠ m) (h3 : f ≠ m) (h4 : p ≠ m) (h5 : q ≠ m) : DrI w d a pb ob s i M M' o S F c e f p q T (Yah dn m) r w2 := by
 have hl := h.lt
 have hp : ∀ g, ob ≤ g → g ∉ T := fun g hg hh => by have := h.ht g hh; omega
 refine ⟨hb, u.get h.o (hp _ (Nat.le_refl _)), h.u.also u (fun x hx => .inl hx), fun hx => ?_, fun hy => ?_, fun hx => ?_, fun hy => ?_, h.ne, hl, h.ht⟩
 ·rw [Yp h2] at hx
  obtain ⟨g, Z, e1, e2, e3, e4, e5⟩ := h.x hx
  exact ⟨g, Z, e1, e2, u.get e3 (hp g (Nat.le_of_lt e2)), e4, fun hk => e5 (by rwa [Yp h4] at hk)⟩
 ·rw [Yp h3] at hy
  obtain ⟨g, G, e1, e2, e3, e4⟩ := h.y hy
  exact ⟨g, G, e1, e2, u.get e3 (hp g (Nat.le_of_lt e2)), fun hk => e4 (by rwa [Yp h5] at hk)⟩
 ·rw [Yp h4] at hx; rw [Yp h2]; exact h.xo hx
 ·rw [Yp h5] at hy; rw [Yp h3]; exact h.yo hy
theorem DrI.quiet (h : DrI w d a pb ob s i M M' o S F c e f p q T dn r w1) (u : Upd [] w1 w2) (m : Nat) (h1 : c ≠ m) (h2 : e ≠ m) (h3 : f ≠ m) (h4 : p ≠ m) (h5 : q ≠ m) : DrI w d a pb ob s i M M' o S F c e f p q T (Yah dn m) r w2 :=
 h.over (u.mono (by simp)) (by rw [Yp h1]; exact h.b.keep u (by simp) (by simp) (by simp)) h2 h3 h4 h5
theorem DrI.same (h : DrI w d a pb ob s i M M' o S F c e f p q T dn r w1) (m : Nat) (h1 : c ≠ m) (h2 : e ≠ m) (h3 : f ≠ m) (h4 : p ≠ m) (h5 : q ≠ m) : DrI w d a pb ob s i M M' o S F c e f p q T (Yah dn m) r w1 := h.quiet (Upd.refl [] w1) m h1 h2 h3 h4 h5
theorem DrI.at1 (h : DrI w d a pb ob s i M M' o S F c e f p q T dn r w1) (hd : dn c = false) : Yq w1 d a pb s i M := by
 have := h.b
 rwa [hd, if_neg (by simp)] at this
theorem DrI.call (h : DrI w d a pb ob s i M M' o S F c e f p q T dn r w1) (hd : dn c = false) (hm : Yk w2 a pb M') (u : Upd T w1 w2) : DrI w d a pb ob s i M M' o S F c e f p q T (Yah dn c) r w2 := by
 obtain ⟨⟨n1, n2, n3, n4⟩, _⟩ := h.ne
 exact h.over u (by rw [Yc4, if_pos rfl]; exact (h.at1 hd).mem (u.mono (fun x hx => by simp [h.ht x hx])) hm) n1.symm n2.symm n3.symm n4.symm
theorem DrI.layS (h : DrI w d a pb ob s i M M' o S F c e f p q T dn r w1) (hd : dn e = false) (Z : Array Value) (hZ : Z.size = 17) : DrI w d a pb ob s i M M' o S F c e f p q T (Yah dn e) (Ycw r e (.pointer (some ⟨w1.heap.size, 0, none⟩))) (w1.alloc (.cells Z 28)) := by
 obtain ⟨⟨n1, n2, n3, n4⟩, ⟨n5, n6, n7⟩, _, _⟩ := h.ne
 have u := (Upd.refl [] w1).alloc (.cells Z 28)
 refine ⟨by rw [Yp n1]; exact h.b.keep u (by simp) (by simp) (by simp), u.get h.o (by simp), h.u.also u (by simp), fun _ => ⟨_, _, Yf9, Yj h.o, heap_alloc_new _ _, hZ, fun hk => ?_⟩, fun hy => ?_, fun _ => Yc4, fun hy => ?_, h.ne, h.lt, h.ht⟩
 ·rw [Yp n6.symm] at hk
  rw [h.xo hk] at hd; cases hd
 ·rw [Yp n5.symm] at hy
  obtain ⟨g, G, e1, e2, e3, e4⟩ := h.y hy
  exact ⟨g, G, by rw [vq_ne n5.symm]; exact e1, e2, u.get e3 (by simp), fun hk => e4 (by rwa [Yp n7.symm] at hk)⟩
 ·rw [Yp n7.symm] at hy; rw [Yp n5.symm]; exact h.yo hy
theorem DrI.layF (h : DrI w d a pb ob s i M M' o S F c e f p q T dn r w1) (hd : dn f = false) : DrI w d a pb ob s i M M' o S F c e f p q T (Yah dn f) (Ycw r f (.pointer (some ⟨w1.heap.size, 0, none⟩))) (w1.alloc (.cells #[.int .i64 0, .int .u32 0, .int .u32 0, .int .i64 0] 35)) := by
 obtain ⟨⟨n1, n2, n3, n4⟩, ⟨n5, n6, n7⟩, ⟨n8, n9⟩, _⟩ := h.ne
 have u := (Upd.refl [] w1).alloc (.cells #[.int .i64 0, .int .u32 0, .int .u32 0, .int .i64 0] 35)
 refine ⟨by rw [Yp n2]; exact h.b.keep u (by simp) (by simp) (by simp), u.get h.o (by simp), h.u.also u (by simp), fun hx => ?_, fun _ => ⟨_, Flt.zero, Yf9, Yj h.o, heap_alloc_new _ _, fun hk => ?_⟩, fun hx => ?_, fun _ => Yc4, h.ne, h.lt, h.ht⟩
 ·rw [Yp n5] at hx
  obtain ⟨g, Z, e1, e2, e3, e4, e5⟩ := h.x hx
  exact ⟨g, Z, by rw [vq_ne n5]; exact e1, e2, u.get e3 (by simp), e4, fun hk => e5 (by rwa [Yp n8.symm] at hk)⟩
 ·rw [Yp n9.symm] at hk
  rw [h.yo hk] at hd; cases hd
 ·rw [Yp n8.symm] at hx; rw [Yp n5]; exact h.xo hx
theorem DrI.putS (h : DrI w d a pb ob s i M M' o S F c e f p q T dn r w1) {g : Nat} {Z : Array Value} (hg : r e = .pointer (some ⟨g, 0, none⟩)) (hlt : ob < g) (hb : w1.heap[g]? = some (.cells Z 28 (0, 0))) (hZ : Z.size = 17) (hd : dn e = true) : DrI w d a pb ob s i M M' o S F c e f p q T (Yah dn p) r (w1.setCells g 0 S.cells.toList) := by
 obtain ⟨⟨n1, n2, n3, n4⟩, ⟨n5, n6, n7⟩, ⟨n8, n9⟩, n10⟩ := h.ne
 have hl := h.lt
 have hu : Upd [g] w1 (w1.setCells g 0 S.cells.toList) := (Upd.refl [g] w1).setCells (.inl (by simp)) _ _
 refine ⟨by rw [Yp n3]; exact h.b.keep hu (by simp; omega) (by simp; omega) (by simp; omega), hu.get h.o (by simp; omega), h.u.also hu (by simp; omega), fun _ => ⟨g, S.cells, hg, hlt, Ybk S hb hZ, St.size S, fun _ => rfl⟩, fun hy => ?_, fun _ => by rw [Yp n6]; exact hd, fun hy => ?_, h.ne, hl, h.ht⟩
 ·rw [Yp n8] at hy
  obtain ⟨g', G, e1, e2, e3, e4⟩ := h.y hy
  have hne : g' ≠ g := by
   intro e
   subst e
   rw [hb] at e3
   injection e3 with e3
   injection e3 with _ e5
   exact absurd e5 (by decide)
  exact ⟨g', G, e1, e2, hu.get e3 (by simpa using hne), fun hk => e4 (by rwa [Yp n10.symm] at hk)⟩
 ·rw [Yp n10.symm] at hy; rw [Yp n8]; exact h.yo hy
theorem DrI.putF (h : DrI w d a pb ob s i M M' o S F c e f p q T dn r w1) {g : Nat} {G : Flt} (hg : r f = .pointer (some ⟨g, 0, none⟩)) (hlt : ob < g) (hb : w1.heap[g]? = some (.cells (Yo G) 35 (0, 0))) (hd : dn f = true) : DrI w d a pb ob s i M M' o S F c e f p q T (Yah dn q) r (w1.setCells g 0 (Yo F).toList) := by
 obtain ⟨⟨n1, n2, n3, n4⟩, ⟨n5, n6, n7⟩, ⟨n8, n9⟩, n10⟩ := h.ne
 have hl := h.lt
 have hu : Upd [g] w1 (w1.setCells g 0 (Yo F).toList) := (Upd.refl [g] w1).setCells (.inl (by simp)) _ _
 refine ⟨by rw [Yp n4]; exact h.b.keep hu (by simp; omega) (by simp; omega) (by simp; omega), hu.get h.o (by simp; omega), h.u.also hu (by simp; omega), fun hx => ?_, fun _ => ⟨g, F, hg, hlt, by rw [Yag _ _ _ _ hb]; rfl, fun _ => rfl⟩, fun hx => ?_, fun _ => by rw [Yp n9]; exact hd, h.ne, hl, h.ht⟩
 ·rw [Yp n7] at hx
  obtain ⟨g', Z, e1, e2, e3, e4, e5⟩ := h.x hx
  have hne : g' ≠ g := by
   intro e
   subst e
   rw [hb] at e3
   injection e3 with e3
   injection e3 with _ e6
   exact absurd e6 (by decide)
  exact ⟨g', Z, e1, e2, hu.get e3 (by simpa using hne), e4, fun hk => e5 (by rwa [Yp n10] at hk)⟩
 ·rw [Yp n10] at hx; rw [Yp n7]; exact h.xo hx
end
end
theorem Ygg {w : World} {d a pb : Nat} {s : St} {i : Ins} {M : Mem} (h : Yq w d a pb s i M) (o : Opd) : Yq (w.alloc (.cells (Yay o) 39)).drew d a pb s i M ∧ (w.alloc (.cells (Yay o) 39)).drew.heap[w.heap.size]? = some (.cells (Yay o) 39 (0, 0)) ∧ Upd [] w (w.alloc (.cells (Yay o) 39)).drew ∧ (d < w.heap.size ∧ a < w.heap.size ∧ pb < w.heap.size ∧ w.heap.size ≤ w.heap.size) := by
 have u := ((Upd.refl [] w).alloc (.cells (Yay o) 39)).drew
 exact ⟨h.keep u (by simp) (by simp) (by simp), ((Upd.refl [] _).drew).get (heap_alloc_new w _) (by simp), u, h.lt, by obtain ⟨C, _, hc⟩ := h.m.hd; exact Yj hc, by obtain ⟨C, _, hc⟩ := h.m.pg; exact Yj hc, Nat.le_refl _⟩
theorem Yck (d a pb : Nat) (s : St) (i : Ins) (M : Mem) (o : Opd) (b : Int) (w : World) (h : Yq w d a pb s i M) (ho : o.Ok) (hk : opK M s o b = true) :
  Calls Tryz.prog 48 #[.pointer (some ⟨d, 0, none⟩), o.val, .int .i64 b] w fun e w' => e = .returned (.int .u32 (opV M s o b)) ∧ Upd [] w w' := by
 obtain ⟨⟨fk, fp, fa, fw⟩, hF⟩ : ∃ F, opF M s o b = F := ⟨_, rfl⟩
 obtain ⟨x, hx⟩ : ∃ x, opV M s o b = x := ⟨_, rfl⟩
 rw [hx]
 obtain ⟨o0, o1, o2, o3, o4, o5⟩ := o
 have HK := Yh_ (And.intro hx (And.intro hF (And.intro hk ho)))
 have HD := Yh_ h
 clear h hx hF hk ho
 unfold Opd.val
 go_enter Tryz.func48, Tryz.ntmps48
 go_wp2_with fail
 have hst := Ygg HD.out ⟨o0, o1, o2, o3, o4, o5⟩
 unfold Yay at hst
 refine Yai 18 (DrI w d a pb w.heap.size s i M M ⟨o0, o1, o2, o3, o4, o5⟩ St.zero ⟨fk, fp, fa, fw⟩ 10 900 15 901 17 []) (fun _ _ => False) (by kernel_rfl) (by decide +kernel) (fun r0 => DrI.start hst.1 hst.2.1 (hst.2.2.1.mono (by simp)) (by decide) hst.2.2.2 (by simp) r0) (fun _ _ _ h => h.elim) ?_
 clear hst
 simp only [List.take_succ_cons, List.take_zero, List.drop_succ_cons, List.drop_zero]
 iterate 7
  apply Yb rfl rfl
  ·intro dn r0 K hd hdep hK w5 hB1
   have c0 : w5.cell? ⟨d, 0, none⟩ = some (.pointer (some ⟨a, 0, none⟩)) := hB1.b.cell 0
   have co := Ya hB1.o
   unfold Yay at co
   have HB := Yh_ hB1
   clear hB1 hdep
   go_wp2_with fail
   first
   |exact hK _ (HB.out.same _ (by decide) (by decide) (by decide) (by decide) (by decide))
   |exact HB.out.same _ (by decide) (by decide) (by decide) (by decide) (by decide)
  ·exact ⟨_, rfl⟩
 apply Yb rfl rfl
 ·intro dn r0 K hd hdep hK w5 hB1
  refine wp_load_mid 28 _ rfl d 1 rfl s.cells.toList _ hB1.b.rs Tryz.underlying28 rfl (by rw [Array.length_toList, St.size]; exact Ya8) ?_
  rw [Array.toArray_toList]
  exact hK _ (hB1.same _ (by decide) (by decide) (by decide) (by decide) (by decide))
 ·exact ⟨_, rfl⟩
 iterate 2
  apply Yb rfl rfl
  ·intro dn r0 K hd hdep hK w5 hB1
   have c0 : w5.cell? ⟨d, 0, none⟩ = some (.pointer (some ⟨a, 0, none⟩)) := hB1.b.cell 0
   have co := Ya hB1.o
   unfold Yay at co
   have HB := Yh_ hB1
   clear hB1 hdep
   go_wp2_with fail
   first
   |exact hK _ (HB.out.same _ (by decide) (by decide) (by decide) (by decide) (by decide))
   |exact HB.out.same _ (by decide) (by decide) (by decide) (by decide) (by decide)
  ·exact ⟨_, rfl⟩
 apply Yb rfl rfl
 ·intro dn r0 K hd hdep hK w5 hB1
  have HB := Yh_ hB1
  clear hB1 hdep
  go_wp2_with (go_at_call 64; refine (Yip M a pb s ⟨o0, o1, o2, o3, o4, o5⟩ b _ (HB.out.at1 hd).m (HB.out.at1 hd).ok HK.out.2.2.2).mono ?_; rintro e w6 ⟨rfl, hu⟩; rw [HK.out.1, HK.out.2.1, HK.out.2.2.1]; unfold Flt.val)
  first
  |exact hK _ (HB.out.call hd ((HB.out.at1 hd).m.keep hu (by simp) (by simp)) hu)
  |exact HB.out.call hd ((HB.out.at1 hd).m.keep hu (by simp) (by simp)) hu
 ·exact ⟨_, rfl⟩
 iterate 4
  apply Yb rfl rfl
  ·intro dn r0 K hd hdep hK w5 hB1
   have c0 : w5.cell? ⟨d, 0, none⟩ = some (.pointer (some ⟨a, 0, none⟩)) := hB1.b.cell 0
   have co := Ya hB1.o
   unfold Yay at co
   have HB := Yh_ hB1
   clear hB1 hdep
   go_wp2_with fail
   first
   |exact hK _ (HB.out.same _ (by decide) (by decide) (by decide) (by decide) (by decide))
   |exact HB.out.same _ (by decide) (by decide) (by decide) (by decide) (by decide)
  ·exact ⟨_, rfl⟩
 refine Yr rfl (fun _ => rfl) 8 rfl (by simp [Act.put]) ?_ ?_
 ·intro dn r0 K hd w5 hB1 hK
  have HB := Yh_ hB1
  clear hB1
  simp only [Yi]
  go_wp2_with fail
  first
  |exact hK (.pointer (some ⟨w5.heap.size, 0, none⟩)) _ (HB.out.layF hd)
  |exact HB.out.layF hd
 iterate 1
  apply Yt rfl (fun _ => rfl)
  ·intro dn r0 K hd hdep hK w5 hB1
   have HB := Yh_ hB1
   clear hB1 hdep
   simp only [Yi]
   go_wp2_with fail
   first
   |exact hK _ (HB.out.same _ (by decide) (by decide) (by decide) (by decide) (by decide))
   |exact HB.out.same _ (by decide) (by decide) (by decide) (by decide) (by decide)
  ·exact ⟨_, fun _ => rfl, rfl⟩
 apply Yt rfl (fun _ => rfl)
 ·intro dn r0 K hd hdep hK w5 hB1
  have h8 : dn 15 = true := hdep ⟨15, .data⟩ (by simp) rfl
  obtain ⟨g, Z, e1, e2, e3, e4⟩ := hB1.y h8
  refine Yav ⟨fk, fp, fa, fw⟩ Z g _ _ rfl (by show r0 15 = _; exact e1) rfl e3 ?_
  exact hK _ (hB1.putF e1 e2 e3 h8)
 ·exact ⟨_, fun _ => rfl, rfl⟩
 refine Yad (fun _ r0 w5 dn hall hB1 => ?_)
 obtain ⟨g, G, e1, e2, e3, e4⟩ := hB1.y (hall 15 (by decide))
 rw [e4 (hall 17 (by decide))] at e3
 have cg := Ya e3
 unfold Yo at cg
 dsimp only at cg
 have U5 := Yh_ hB1.u
 clear hB1 e3 e4 hall e2
 show wpList _ _ _ _ (Act.put (Yi _ _ [] _) (some 8) (r0 15)) _
 rw [e1]
 simp only [Yi]
 clear e1
 go_wp2_with fail
 go_ret
 exact ⟨rfl, U5.out⟩
theorem Yhc (d a pb : Nat) (s : St) (i : Ins) (M : Mem) (o : Opd) (b : Int) (w : World) (h : Yq w d a pb s i M) (ho : o.Ok) (hk : opK M s o b = false) :
  Calls Tryz.prog 48 #[.pointer (some ⟨d, 0, none⟩), o.val, .int .i64 b] w fun e w' => e = .panicked [{ v := .iface 35 (opF M s o b).val, recovered := false }] ∧ Upd [] w w' := by
 obtain ⟨⟨fk, fp, fa, fw⟩, hF⟩ : ∃ F, opF M s o b = F := ⟨_, rfl⟩
 obtain ⟨x, hx⟩ : ∃ x, opV M s o b = x := ⟨_, rfl⟩
 rw [hF]
 obtain ⟨o0, o1, o2, o3, o4, o5⟩ := o
 have HK := Yh_ (And.intro hx (And.intro hF (And.intro hk ho)))
 have HD := Yh_ h
 clear h hx hF hk ho
 unfold Opd.val
 go_enter Tryz.func48, Tryz.ntmps48
 go_wp2_with fail
 have hst := Ygg HD.out ⟨o0, o1, o2, o3, o4, o5⟩
 unfold Yay at hst
 refine Yai 18 (DrI w d a pb w.heap.size s i M M ⟨o0, o1, o2, o3, o4, o5⟩ St.zero ⟨fk, fp, fa, fw⟩ 10 900 15 901 17 []) (fun _ _ => False) (by kernel_rfl) (by decide +kernel) (fun r0 => DrI.start hst.1 hst.2.1 (hst.2.2.1.mono (by simp)) (by decide) hst.2.2.2 (by simp) r0) (fun _ _ _ h => h.elim) ?_
 clear hst
 simp only [List.take_succ_cons, List.take_zero, List.drop_succ_cons, List.drop_zero]
 iterate 7
  apply Yb rfl rfl
  ·intro dn r0 K hd hdep hK w5 hB1
   have c0 : w5.cell? ⟨d, 0, none⟩ = some (.pointer (some ⟨a, 0, none⟩)) := hB1.b.cell 0
   have co := Ya hB1.o
   unfold Yay at co
   have HB := Yh_ hB1
   clear hB1 hdep
   go_wp2_with fail
   first
   |exact hK _ (HB.out.same _ (by decide) (by decide) (by decide) (by decide) (by decide))
   |exact HB.out.same _ (by decide) (by decide) (by decide) (by decide) (by decide)
  ·exact ⟨_, rfl⟩
 apply Yb rfl rfl
 ·intro dn r0 K hd hdep hK w5 hB1
  refine wp_load_mid 28 _ rfl d 1 rfl s.cells.toList _ hB1.b.rs Tryz.underlying28 rfl (by rw [Array.length_toList, St.size]; exact Ya8) ?_
  rw [Array.toArray_toList]
  exact hK _ (hB1.same _ (by decide) (by decide) (by decide) (by decide) (by decide))
 ·exact ⟨_, rfl⟩
 iterate 2
  apply Yb rfl rfl
  ·intro dn r0 K hd hdep hK w5 hB1
   have c0 : w5.cell? ⟨d, 0, none⟩ = some (.pointer (some ⟨a, 0, none⟩)) := hB1.b.cell 0
   have co := Ya hB1.o
   unfold Yay at co
   have HB := Yh_ hB1
   clear hB1 hdep
   go_wp2_with fail
   first
   |exact hK _ (HB.out.same _ (by decide) (by decide) (by decide) (by decide) (by decide))
   |exact HB.out.same _ (by decide) (by decide) (by decide) (by decide) (by decide)
  ·exact ⟨_, rfl⟩
 apply Yb rfl rfl
 ·intro dn r0 K hd hdep hK w5 hB1
  have HB := Yh_ hB1
  clear hB1 hdep
  go_wp2_with (go_at_call 64; refine (Yip M a pb s ⟨o0, o1, o2, o3, o4, o5⟩ b _ (HB.out.at1 hd).m (HB.out.at1 hd).ok HK.out.2.2.2).mono ?_; rintro e w6 ⟨rfl, hu⟩; rw [HK.out.1, HK.out.2.1, HK.out.2.2.1]; unfold Flt.val)
  first
  |exact hK _ (HB.out.call hd ((HB.out.at1 hd).m.keep hu (by simp) (by simp)) hu)
  |exact HB.out.call hd ((HB.out.at1 hd).m.keep hu (by simp) (by simp)) hu
 ·exact ⟨_, rfl⟩
 iterate 4
  apply Yb rfl rfl
  ·intro dn r0 K hd hdep hK w5 hB1
   have c0 : w5.cell? ⟨d, 0, none⟩ = some (.pointer (some ⟨a, 0, none⟩)) := hB1.b.cell 0
   have co := Ya hB1.o
   unfold Yay at co
   have HB := Yh_ hB1
   clear hB1 hdep
   go_wp2_with fail
   first
   |exact hK _ (HB.out.same _ (by decide) (by decide) (by decide) (by decide) (by decide))
   |exact HB.out.same _ (by decide) (by decide) (by decide) (by decide) (by decide)
  ·exact ⟨_, rfl⟩
 refine Yr rfl (fun _ => rfl) 8 rfl (by simp [Act.put]) ?_ ?_
 ·intro dn r0 K hd w5 hB1 hK
  have HB := Yh_ hB1
  clear hB1
  simp only [Yi]
  go_wp2_with fail
  first
  |exact hK (.pointer (some ⟨w5.heap.size, 0, none⟩)) _ (HB.out.layF hd)
  |exact HB.out.layF hd
 iterate 1
  apply Yt rfl (fun _ => rfl)
  ·intro dn r0 K hd hdep hK w5 hB1
   have HB := Yh_ hB1
   clear hB1 hdep
   simp only [Yi]
   go_wp2_with fail
   first
   |exact hK _ (HB.out.same _ (by decide) (by decide) (by decide) (by decide) (by decide))
   |exact HB.out.same _ (by decide) (by decide) (by decide) (by decide) (by decide)
  ·exact ⟨_, fun _ => rfl, rfl⟩
 apply Yt rfl (fun _ => rfl)
 ·intro dn r0 K hd hdep hK w5 hB1
  have h8 : dn 15 = true := hdep ⟨15, .data⟩ (by simp) rfl
  obtain ⟨g, Z, e1, e2, e3, e4⟩ := hB1.y h8
  refine Yav ⟨fk, fp, fa, fw⟩ Z g _ _ rfl (by show r0 15 = _; exact e1) rfl e3 ?_
  exact hK _ (hB1.putF e1 e2 e3 h8)
 ·exact ⟨_, fun _ => rfl, rfl⟩
 refine Yad (fun _ r0 w5 dn hall hB1 => ?_)
 obtain ⟨g, G, e1, e2, e3, e4⟩ := hB1.y (hall 15 (by decide))
 rw [e4 (hall 17 (by decide))] at e3
 have cg := Ya e3
 unfold Yo at cg
 dsimp only at cg
 have U5 := Yh_ hB1.u
 clear hB1 e3 e4 hall e2
 show wpList _ _ _ _ (Act.put (Yi _ _ [] _) (some 8) (r0 15)) _
 rw [e1]
 simp only [Yi]
 clear e1
 go_wp2_with fail
 skip
 exact ⟨rfl, rfl, U5.out⟩
theorem Ydi (d a pb : Nat) (s : St) (i : Ins) (M : Mem) (o : Opd) (b v : Int) (w : World) (h : Yq w d a pb s i M) (ho : o.Ok) (hv : 0 ≤ v ∧ v < 4294967296) (hk : Ybg M s o b = true) :
  Calls Tryz.prog 49 #[.pointer (some ⟨d, 0, none⟩), o.val, .int .i64 b, .int .u32 v] w fun e w' => e = .returned (.tuple #[]) ∧ Yq w' d a pb (opS s o b v) i (opM M s o b v) ∧ Upd [d, pb] w w' := by
 obtain ⟨⟨fk, fp, fa, fw⟩, hF⟩ : ∃ F, Ycc M s o b = F := ⟨_, rfl⟩
 have hX := Ylh h.ok o b hv.1 hv.2
 obtain ⟨X2, hx⟩ : ∃ x, opS s o b v = x := ⟨_, rfl⟩
 obtain ⟨M2, hm⟩ : ∃ x, opM M s o b v = x := ⟨_, rfl⟩
 rw [hx] at hX
 rw [hx, hm]
 obtain ⟨o0, o1, o2, o3, o4, o5⟩ := o
 have HK := Yh_ (And.intro hx (And.intro hF (And.intro hk (And.intro ho (And.intro hm (And.intro hv hX))))))
 have HD := Yh_ h
 clear h hx hF hk ho hm hv hX
 unfold Opd.val
 go_enter Tryz.func49, Tryz.ntmps49
 go_wp2_with fail
 have hst := Ygg HD.out ⟨o0, o1, o2, o3, o4, o5⟩
 unfold Yay at hst
 refine Yai 20 (DrI w d a pb w.heap.size s i M M2 ⟨o0, o1, o2, o3, o4, o5⟩ X2 ⟨fk, fp, fa, fw⟩ 11 16 17 18 19 [pb]) (fun _ _ => False) (by kernel_rfl) (by decide +kernel) (fun r0 => DrI.start hst.1 hst.2.1 (hst.2.2.1.mono (by simp)) (by decide) hst.2.2.2 (by simp) r0) (fun _ _ _ h => h.elim) ?_
 clear hst
 simp only [List.take_succ_cons, List.take_zero, List.drop_succ_cons, List.drop_zero]
 iterate 7
  apply Yb rfl rfl
  ·intro dn r0 K hd hdep hK w5 hB1
   have c0 : w5.cell? ⟨d, 0, none⟩ = some (.pointer (some ⟨a, 0, none⟩)) := hB1.b.cell 0
   have co := Ya hB1.o
   unfold Yay at co
   have HB := Yh_ hB1
   clear hB1 hdep
   go_wp2_with fail
   first
   |exact hK _ (HB.out.same _ (by decide) (by decide) (by decide) (by decide) (by decide))
   |exact HB.out.same _ (by decide) (by decide) (by decide) (by decide) (by decide)
  ·exact ⟨_, rfl⟩
 apply Yb rfl rfl
 ·intro dn r0 K hd hdep hK w5 hB1
  refine wp_load_mid 28 _ rfl d 1 rfl s.cells.toList _ hB1.b.rs Tryz.underlying28 rfl (by rw [Array.length_toList, St.size]; exact Ya8) ?_
  rw [Array.toArray_toList]
  exact hK _ (hB1.same _ (by decide) (by decide) (by decide) (by decide) (by decide))
 ·exact ⟨_, rfl⟩
 iterate 3
  apply Yb rfl rfl
  ·intro dn r0 K hd hdep hK w5 hB1
   have c0 : w5.cell? ⟨d, 0, none⟩ = some (.pointer (some ⟨a, 0, none⟩)) := hB1.b.cell 0
   have co := Ya hB1.o
   unfold Yay at co
   have HB := Yh_ hB1
   clear hB1 hdep
   go_wp2_with fail
   first
   |exact hK _ (HB.out.same _ (by decide) (by decide) (by decide) (by decide) (by decide))
   |exact HB.out.same _ (by decide) (by decide) (by decide) (by decide) (by decide)
  ·exact ⟨_, rfl⟩
 apply Yb rfl rfl
 ·intro dn r0 K hd hdep hK w5 hB1
  have HB := Yh_ hB1
  clear hB1 hdep
  go_wp2_with (go_at_call 65; refine (Yh0 M a pb s ⟨o0, o1, o2, o3, o4, o5⟩ b v _ (HB.out.at1 hd).m (HB.out.at1 hd).ok HK.out.2.2.2.1 HK.out.2.2.2.2.2.1.1 HK.out.2.2.2.2.2.1.2).mono ?_; rintro e w6 ⟨rfl, hm, hu⟩; rw [HK.out.2.2.2.2.1] at hm; rw [HK.out.1, HK.out.2.1, HK.out.2.2.1]; unfold Flt.val)
  first
  |exact hK _ (HB.out.call hd hm hu)
  |exact HB.out.call hd hm hu
 ·exact ⟨_, rfl⟩
 iterate 4
  apply Yb rfl rfl
  ·intro dn r0 K hd hdep hK w5 hB1
   have c0 : w5.cell? ⟨d, 0, none⟩ = some (.pointer (some ⟨a, 0, none⟩)) := hB1.b.cell 0
   have co := Ya hB1.o
   unfold Yay at co
   have HB := Yh_ hB1
   clear hB1 hdep
   go_wp2_with fail
   first
   |exact hK _ (HB.out.same _ (by decide) (by decide) (by decide) (by decide) (by decide))
   |exact HB.out.same _ (by decide) (by decide) (by decide) (by decide) (by decide)
  ·exact ⟨_, rfl⟩
 refine Yr rfl (fun _ => rfl) 8 rfl (by simp [Act.put]) ?_ ?_
 ·intro dn r0 K hd w5 hB1 hK
  have HB := Yh_ hB1
  clear hB1
  simp only [Yi]
  go_wp2_with fail
  first
  |exact hK (.pointer (some ⟨w5.heap.size, 0, none⟩)) _ (HB.out.layS hd _ rfl)
  |exact HB.out.layS hd _ rfl
 refine Yr rfl (fun _ => rfl) 9 rfl (by simp [Act.put]) ?_ ?_
 ·intro dn r0 K hd w5 hB1 hK
  have HB := Yh_ hB1
  clear hB1
  simp only [Yi]
  go_wp2_with fail
  first
  |exact hK (.pointer (some ⟨w5.heap.size, 0, none⟩)) _ (HB.out.layF hd)
  |exact HB.out.layF hd
 apply Yt rfl (fun _ => rfl)
 ·intro dn r0 K hd hdep hK w5 hB1
  have h8 : dn 16 = true := hdep ⟨16, .data⟩ (by simp) rfl
  obtain ⟨g, Z, e1, e2, e3, e4, _⟩ := hB1.x h8
  refine Yas X2 g _ _ rfl (by show r0 16 = _; exact e1) rfl e3 e4 ?_
  intro w6 hw
  rw [← hw]
  exact hK _ (hB1.putS e1 e2 e3 e4 h8)
 ·exact ⟨_, fun _ => rfl, rfl⟩
 apply Yt rfl (fun _ => rfl)
 ·intro dn r0 K hd hdep hK w5 hB1
  have h8 : dn 17 = true := hdep ⟨17, .data⟩ (by simp) rfl
  obtain ⟨g, Z, e1, e2, e3, e4⟩ := hB1.y h8
  refine Yav ⟨fk, fp, fa, fw⟩ Z g _ _ rfl (by show r0 17 = _; exact e1) rfl e3 ?_
  exact hK _ (hB1.putF e1 e2 e3 h8)
 ·exact ⟨_, fun _ => rfl, rfl⟩
 refine Yad (fun _ r0 w5 dn hall hB1 => ?_)
 obtain ⟨g, G, e1, e2, e3, e4⟩ := hB1.y (hall 17 (by decide))
 rw [e4 (hall 19 (by decide))] at e3
 obtain ⟨g2, Z, e5, e6, e7, _, e8⟩ := hB1.x (hall 16 (by decide))
 rw [e8 (hall 18 (by decide))] at e7
 have cg := Ya e3
 unfold Yo at cg
 dsimp only at cg
 have hb := hB1.b
 rw [hall 11 (by decide), if_pos rfl] at hb
 have B5 := Yh_ (And.intro hb (And.intro e7 hB1.u))
 clear hB1 e3 e4 hall e2 e6 e7 e8 hb
 show wpList _ _ _ _ (Act.put (Act.put (Yi _ _ [] _) (some 8) (r0 16)) (some 9) (r0 17)) _
 rw [e1, e5]
 simp only [Yi]
 clear e1 e5
 go_wp2_with (first | (have _t := B5; clear _t; refine Yar 28 rfl ?_; refine Yae X2 g2 rfl _ rfl rfl B5.out.2.1 ?_) | (have _t := B5; clear _t; refine Ye 28 rfl ?_; refine wpList_store_mid rfl 28 _ _ rfl d 1 X2.cells rfl rfl (Yd8 B5.out.1.h 1 17 (by rw [Yog]; decide)) (by rw [St.size]; exact Ya8) X2.one ?_; have B6 := Yh_ (And.intro (B5.out.1.put HK.out.2.2.2.2.2.2) ((B5.out.2.2.mono (T := [d, pb]) (by simp)).setCells (q := d) (.inl (by simp)) X2.cells.toList 1)); clear B5))
 go_end0
 exact ⟨rfl, B6.out.1, B6.out.2⟩
theorem Yel (d a pb : Nat) (s : St) (i : Ins) (M : Mem) (o : Opd) (b v : Int) (w : World) (h : Yq w d a pb s i M) (ho : o.Ok) (hv : 0 ≤ v ∧ v < 4294967296) (hk : Ybg M s o b = false) :
  Calls Tryz.prog 49 #[.pointer (some ⟨d, 0, none⟩), o.val, .int .i64 b, .int .u32 v] w fun e w' => e = .panicked [{ v := .iface 35 (Ycc M s o b).val, recovered := false }] ∧ Yq w' d a pb s i (opM M s o b v) ∧ Upd [pb] w w' := by
 obtain ⟨⟨fk, fp, fa, fw⟩, hF⟩ : ∃ F, Ycc M s o b = F := ⟨_, rfl⟩
 have hX := Ylh h.ok o b hv.1 hv.2
 obtain ⟨X2, hx⟩ : ∃ x, opS s o b v = x := ⟨_, rfl⟩
 obtain ⟨M2, hm⟩ : ∃ x, opM M s o b v = x := ⟨_, rfl⟩
 rw [hx] at hX
 rw [hF, hm]
 obtain ⟨o0, o1, o2, o3, o4, o5⟩ := o
 have HK := Yh_ (And.intro hx (And.intro hF (And.intro hk (And.intro ho (And.intro hm (And.intro hv hX))))))
 have HD := Yh_ h
 clear h hx hF hk ho hm hv hX
 unfold Opd.val
 go_enter Tryz.func49, Tryz.ntmps49
 go_wp2_with fail
 have hst := Ygg HD.out ⟨o0, o1, o2, o3, o4, o5⟩
 unfold Yay at hst
 refine Yai 20 (DrI w d a pb w.heap.size s i M M2 ⟨o0, o1, o2, o3, o4, o5⟩ X2 ⟨fk, fp, fa, fw⟩ 11 16 17 18 19 [pb]) (fun _ _ => False) (by kernel_rfl) (by decide +kernel) (fun r0 => DrI.start hst.1 hst.2.1 (hst.2.2.1.mono (by simp)) (by decide) hst.2.2.2 (by simp) r0) (fun _ _ _ h => h.elim) ?_
 clear hst
 simp only [List.take_succ_cons, List.take_zero, List.drop_succ_cons, List.drop_zero]
 iterate 7
  apply Yb rfl rfl
  ·intro dn r0 K hd hdep hK w5 hB1
   have c0 : w5.cell? ⟨d, 0, none⟩ = some (.pointer (some ⟨a, 0, none⟩)) := hB1.b.cell 0
   have co := Ya hB1.o
   unfold Yay at co
   have HB := Yh_ hB1
   clear hB1 hdep
   go_wp2_with fail
   first
   |exact hK _ (HB.out.same _ (by decide) (by decide) (by decide) (by decide) (by decide))
   |exact HB.out.same _ (by decide) (by decide) (by decide) (by decide) (by decide)
  ·exact ⟨_, rfl⟩
 apply Yb rfl rfl
 ·intro dn r0 K hd hdep hK w5 hB1
  refine wp_load_mid 28 _ rfl d 1 rfl s.cells.toList _ hB1.b.rs Tryz.underlying28 rfl (by rw [Array.length_toList, St.size]; exact Ya8) ?_
  rw [Array.toArray_toList]
  exact hK _ (hB1.same _ (by decide) (by decide) (by decide) (by decide) (by decide))
 ·exact ⟨_, rfl⟩
 iterate 3
  apply Yb rfl rfl
  ·intro dn r0 K hd hdep hK w5 hB1
   have c0 : w5.cell? ⟨d, 0, none⟩ = some (.pointer (some ⟨a, 0, none⟩)) := hB1.b.cell 0
   have co := Ya hB1.o
   unfold Yay at co
   have HB := Yh_ hB1
   clear hB1 hdep
   go_wp2_with fail
   first
   |exact hK _ (HB.out.same _ (by decide) (by decide) (by decide) (by decide) (by decide))
   |exact HB.out.same _ (by decide) (by decide) (by decide) (by decide) (by decide)
  ·exact ⟨_, rfl⟩
 apply Yb rfl rfl
 ·intro dn r0 K hd hdep hK w5 hB1
  have HB := Yh_ hB1
  clear hB1 hdep
  go_wp2_with (go_at_call 65; refine (Yh0 M a pb s ⟨o0, o1, o2, o3, o4, o5⟩ b v _ (HB.out.at1 hd).m (HB.out.at1 hd).ok HK.out.2.2.2.1 HK.out.2.2.2.2.2.1.1 HK.out.2.2.2.2.2.1.2).mono ?_; rintro e w6 ⟨rfl, hm, hu⟩; rw [HK.out.2.2.2.2.1] at hm; rw [HK.out.1, HK.out.2.1, HK.out.2.2.1]; unfold Flt.val)
  first
  |exact hK _ (HB.out.call hd hm hu)
  |exact HB.out.call hd hm hu
 ·exact ⟨_, rfl⟩
 iterate 4
  apply Yb rfl rfl
  ·intro dn r0 K hd hdep hK w5 hB1
   have c0 : w5.cell? ⟨d, 0, none⟩ = some (.pointer (some ⟨a, 0, none⟩)) := hB1.b.cell 0
   have co := Ya hB1.o
   unfold Yay at co
   have HB := Yh_ hB1
   clear hB1 hdep
   go_wp2_with fail
   first
   |exact hK _ (HB.out.same _ (by decide) (by decide) (by decide) (by decide) (by decide))
   |exact HB.out.same _ (by decide) (by decide) (by decide) (by decide) (by decide)
  ·exact ⟨_, rfl⟩
 refine Yr rfl (fun _ => rfl) 8 rfl (by simp [Act.put]) ?_ ?_
 ·intro dn r0 K hd w5 hB1 hK
  have HB := Yh_ hB1
  clear hB1
  simp only [Yi]
  go_wp2_with fail
  first
  |exact hK (.pointer (some ⟨w5.heap.size, 0, none⟩)) _ (HB.out.layS hd _ rfl)
  |exact HB.out.layS hd _ rfl
 refine Yr rfl (fun _ => rfl) 9 rfl (by simp [Act.put]) ?_ ?_
 ·intro dn r0 K hd w5 hB1 hK
  have HB := Yh_ hB1
  clear hB1
  simp only [Yi]
  go_wp2_with fail
  first
  |exact hK (.pointer (some ⟨w5.heap.size, 0, none⟩)) _ (HB.out.layF hd)
  |exact HB.out.layF hd
 apply Yt rfl (fun _ => rfl)
 ·intro dn r0 K hd hdep hK w5 hB1
  have h8 : dn 16 = true := hdep ⟨16, .data⟩ (by simp) rfl
  obtain ⟨g, Z, e1, e2, e3, e4, _⟩ := hB1.x h8
  refine Yas X2 g _ _ rfl (by show r0 16 = _; exact e1) rfl e3 e4 ?_
  intro w6 hw
  rw [← hw]
  exact hK _ (hB1.putS e1 e2 e3 e4 h8)
 ·exact ⟨_, fun _ => rfl, rfl⟩
 apply Yt rfl (fun _ => rfl)
 ·intro dn r0 K hd hdep hK w5 hB1
  have h8 : dn 17 = true := hdep ⟨17, .data⟩ (by simp) rfl
  obtain ⟨g, Z, e1, e2, e3, e4⟩ := hB1.y h8
  refine Yav ⟨fk, fp, fa, fw⟩ Z g _ _ rfl (by show r0 17 = _; exact e1) rfl e3 ?_
  exact hK _ (hB1.putF e1 e2 e3 h8)
 ·exact ⟨_, fun _ => rfl, rfl⟩
 refine Yad (fun _ r0 w5 dn hall hB1 => ?_)
 obtain ⟨g, G, e1, e2, e3, e4⟩ := hB1.y (hall 17 (by decide))
 rw [e4 (hall 19 (by decide))] at e3
 obtain ⟨g2, Z, e5, e6, e7, _, e8⟩ := hB1.x (hall 16 (by decide))
 rw [e8 (hall 18 (by decide))] at e7
 have cg := Ya e3
 unfold Yo at cg
 dsimp only at cg
 have hb := hB1.b
 rw [hall 11 (by decide), if_pos rfl] at hb
 have B5 := Yh_ (And.intro hb (And.intro e7 hB1.u))
 clear hB1 e3 e4 hall e2 e6 e7 e8 hb
 show wpList _ _ _ _ (Act.put (Act.put (Yi _ _ [] _) (some 8) (r0 16)) (some 9) (r0 17)) _
 rw [e1, e5]
 simp only [Yi]
 clear e1 e5
 go_wp2_with fail
 exact ⟨rfl, rfl, B5.out.1, B5.out.2.2⟩
theorem Ygx (d a pb : Nat) (s : St) (i : Ins) (M : Mem) (o : Opd) (w : World) (h : Yq w d a pb s i M) (hk : Ycm M s o 4 3 = true) :
  Calls Tryz.prog 46 #[.pointer (some ⟨d, 0, none⟩), o.val] w fun e w' => e = .returned (.tuple #[]) ∧ Upd [] w w' := by
 obtain ⟨⟨fk, fp, fa, fw⟩, hF⟩ : ∃ F, Yd5 M s o 4 3 = F := ⟨_, rfl⟩
 skip
 obtain ⟨o0, o1, o2, o3, o4, o5⟩ := o
 have HK := Yh_ (And.intro hF hk)
 have HD := Yh_ h
 clear h hF hk
 unfold Opd.val
 go_enter Tryz.func46, Tryz.ntmps46
 go_wp2_with fail
 have hst := Ygg HD.out ⟨o0, o1, o2, o3, o4, o5⟩
 unfold Yay at hst
 refine Yai 15 (DrI w d a pb w.heap.size s i M M ⟨o0, o1, o2, o3, o4, o5⟩ St.zero ⟨fk, fp, fa, fw⟩ 9 900 13 901 14 []) (fun _ _ => False) (by kernel_rfl) (by decide +kernel) (fun r0 => DrI.start hst.1 hst.2.1 (hst.2.2.1.mono (by simp)) (by decide) hst.2.2.2 (by simp) r0) (fun _ _ _ h => h.elim) ?_
 clear hst
 simp only [List.take_succ_cons, List.take_zero, List.drop_succ_cons, List.drop_zero]
 iterate 7
  apply Yb rfl rfl
  ·intro dn r0 K hd hdep hK w5 hB1
   have c0 : w5.cell? ⟨d, 0, none⟩ = some (.pointer (some ⟨a, 0, none⟩)) := hB1.b.cell 0
   have co := Ya hB1.o
   unfold Yay at co
   have HB := Yh_ hB1
   clear hB1 hdep
   go_wp2_with fail
   first
   |exact hK _ (HB.out.same _ (by decide) (by decide) (by decide) (by decide) (by decide))
   |exact HB.out.same _ (by decide) (by decide) (by decide) (by decide) (by decide)
  ·exact ⟨_, rfl⟩
 apply Yb rfl rfl
 ·intro dn r0 K hd hdep hK w5 hB1
  refine wp_load_mid 28 _ rfl d 1 rfl s.cells.toList _ hB1.b.rs Tryz.underlying28 rfl (by rw [Array.length_toList, St.size]; exact Ya8) ?_
  rw [Array.toArray_toList]
  exact hK _ (hB1.same _ (by decide) (by decide) (by decide) (by decide) (by decide))
 ·exact ⟨_, rfl⟩
 iterate 1
  apply Yb rfl rfl
  ·intro dn r0 K hd hdep hK w5 hB1
   have c0 : w5.cell? ⟨d, 0, none⟩ = some (.pointer (some ⟨a, 0, none⟩)) := hB1.b.cell 0
   have co := Ya hB1.o
   unfold Yay at co
   have HB := Yh_ hB1
   clear hB1 hdep
   go_wp2_with fail
   first
   |exact hK _ (HB.out.same _ (by decide) (by decide) (by decide) (by decide) (by decide))
   |exact HB.out.same _ (by decide) (by decide) (by decide) (by decide) (by decide)
  ·exact ⟨_, rfl⟩
 apply Yb rfl rfl
 ·intro dn r0 K hd hdep hK w5 hB1
  have HB := Yh_ hB1
  clear hB1 hdep
  go_wp2_with (go_at_call 60; refine (Yjr M a pb s ⟨o0, o1, o2, o3, o4, o5⟩ 4 3 _ (HB.out.at1 hd).m).mono ?_; rintro e w6 ⟨rfl, hu⟩; rw [HK.out.1, HK.out.2]; unfold Flt.val)
  first
  |exact hK _ (HB.out.call hd ((HB.out.at1 hd).m.keep hu (by simp) (by simp)) hu)
  |exact HB.out.call hd ((HB.out.at1 hd).m.keep hu (by simp) (by simp)) hu
 ·exact ⟨_, rfl⟩
 iterate 3
  apply Yb rfl rfl
  ·intro dn r0 K hd hdep hK w5 hB1
   have c0 : w5.cell? ⟨d, 0, none⟩ = some (.pointer (some ⟨a, 0, none⟩)) := hB1.b.cell 0
   have co := Ya hB1.o
   unfold Yay at co
   have HB := Yh_ hB1
   clear hB1 hdep
   go_wp2_with fail
   first
   |exact hK _ (HB.out.same _ (by decide) (by decide) (by decide) (by decide) (by decide))
   |exact HB.out.same _ (by decide) (by decide) (by decide) (by decide) (by decide)
  ·exact ⟨_, rfl⟩
 refine Yr rfl (fun _ => rfl) 4 rfl (by simp [Act.put]) ?_ ?_
 ·intro dn r0 K hd w5 hB1 hK
  have HB := Yh_ hB1
  clear hB1
  simp only [Yi]
  go_wp2_with fail
  first
  |exact hK (.pointer (some ⟨w5.heap.size, 0, none⟩)) _ (HB.out.layF hd)
  |exact HB.out.layF hd
 apply Yt rfl (fun _ => rfl)
 ·intro dn r0 K hd hdep hK w5 hB1
  have h8 : dn 13 = true := hdep ⟨13, .data⟩ (by simp) rfl
  obtain ⟨g, Z, e1, e2, e3, e4⟩ := hB1.y h8
  refine Yav ⟨fk, fp, fa, fw⟩ Z g _ _ rfl (by show r0 13 = _; exact e1) rfl e3 ?_
  exact hK _ (hB1.putF e1 e2 e3 h8)
 ·exact ⟨_, fun _ => rfl, rfl⟩
 refine Yad (fun _ r0 w5 dn hall hB1 => ?_)
 obtain ⟨g, G, e1, e2, e3, e4⟩ := hB1.y (hall 13 (by decide))
 rw [e4 (hall 14 (by decide))] at e3
 have cg := Ya e3
 unfold Yo at cg
 dsimp only at cg
 have U5 := Yh_ hB1.u
 clear hB1 e3 e4 hall e2
 show wpList _ _ _ _ (Act.put (Yi _ _ [] _) (some 4) (r0 13)) _
 rw [e1]
 simp only [Yi]
 clear e1
 go_wp2_with fail
 go_end0
 exact ⟨rfl, U5.out⟩
theorem Yo5 (d a pb : Nat) (s : St) (i : Ins) (M : Mem) (o : Opd) (w : World) (h : Yq w d a pb s i M) (hk : Ycm M s o 4 3 = false) :
  Calls Tryz.prog 46 #[.pointer (some ⟨d, 0, none⟩), o.val] w fun e w' => e = .panicked [{ v := .iface 35 (Yd5 M s o 4 3).val, recovered := false }] ∧ Upd [] w w' := by
 obtain ⟨⟨fk, fp, fa, fw⟩, hF⟩ : ∃ F, Yd5 M s o 4 3 = F := ⟨_, rfl⟩
 rw [hF]
 obtain ⟨o0, o1, o2, o3, o4, o5⟩ := o
 have HK := Yh_ (And.intro hF hk)
 have HD := Yh_ h
 clear h hF hk
 unfold Opd.val
 go_enter Tryz.func46, Tryz.ntmps46
 go_wp2_with fail
 have hst := Ygg HD.out ⟨o0, o1, o2, o3, o4, o5⟩
 unfold Yay at hst
 refine Yai 15 (DrI w d a pb w.heap.size s i M M ⟨o0, o1, o2, o3, o4, o5⟩ St.zero ⟨fk, fp, fa, fw⟩ 9 900 13 901 14 []) (fun _ _ => False) (by kernel_rfl) (by decide +kernel) (fun r0 => DrI.start hst.1 hst.2.1 (hst.2.2.1.mono (by simp)) (by decide) hst.2.2.2 (by simp) r0) (fun _ _ _ h => h.elim) ?_
 clear hst
 simp only [List.take_succ_cons, List.take_zero, List.drop_succ_cons, List.drop_zero]
 iterate 7
  apply Yb rfl rfl
  ·intro dn r0 K hd hdep hK w5 hB1
   have c0 : w5.cell? ⟨d, 0, none⟩ = some (.pointer (some ⟨a, 0, none⟩)) := hB1.b.cell 0
   have co := Ya hB1.o
   unfold Yay at co
   have HB := Yh_ hB1
   clear hB1 hdep
   go_wp2_with fail
   first
   |exact hK _ (HB.out.same _ (by decide) (by decide) (by decide) (by decide) (by decide))
   |exact HB.out.same _ (by decide) (by decide) (by decide) (by decide) (by decide)
  ·exact ⟨_, rfl⟩
 apply Yb rfl rfl
 ·intro dn r0 K hd hdep hK w5 hB1
  refine wp_load_mid 28 _ rfl d 1 rfl s.cells.toList _ hB1.b.rs Tryz.underlying28 rfl (by rw [Array.length_toList, St.size]; exact Ya8) ?_
  rw [Array.toArray_toList]
  exact hK _ (hB1.same _ (by decide) (by decide) (by decide) (by decide) (by decide))
 ·exact ⟨_, rfl⟩
 iterate 1
  apply Yb rfl rfl
  ·intro dn r0 K hd hdep hK w5 hB1
   have c0 : w5.cell? ⟨d, 0, none⟩ = some (.pointer (some ⟨a, 0, none⟩)) := hB1.b.cell 0
   have co := Ya hB1.o
   unfold Yay at co
   have HB := Yh_ hB1
   clear hB1 hdep
   go_wp2_with fail
   first
   |exact hK _ (HB.out.same _ (by decide) (by decide) (by decide) (by decide) (by decide))
   |exact HB.out.same _ (by decide) (by decide) (by decide) (by decide) (by decide)
  ·exact ⟨_, rfl⟩
 apply Yb rfl rfl
 ·intro dn r0 K hd hdep hK w5 hB1
  have HB := Yh_ hB1
  clear hB1 hdep
  go_wp2_with (go_at_call 60; refine (Yjr M a pb s ⟨o0, o1, o2, o3, o4, o5⟩ 4 3 _ (HB.out.at1 hd).m).mono ?_; rintro e w6 ⟨rfl, hu⟩; rw [HK.out.1, HK.out.2]; unfold Flt.val)
  first
  |exact hK _ (HB.out.call hd ((HB.out.at1 hd).m.keep hu (by simp) (by simp)) hu)
  |exact HB.out.call hd ((HB.out.at1 hd).m.keep hu (by simp) (by simp)) hu
 ·exact ⟨_, rfl⟩
 iterate 3
  apply Yb rfl rfl
  ·intro dn r0 K hd hdep hK w5 hB1
   have c0 : w5.cell? ⟨d, 0, none⟩ = some (.pointer (some ⟨a, 0, none⟩)) := hB1.b.cell 0
   have co := Ya hB1.o
   unfold Yay at co
   have HB := Yh_ hB1
   clear hB1 hdep
   go_wp2_with fail
   first
   |exact hK _ (HB.out.same _ (by decide) (by decide) (by decide) (by decide) (by decide))
   |exact HB.out.same _ (by decide) (by decide) (by decide) (by decide) (by decide)
  ·exact ⟨_, rfl⟩
 refine Yr rfl (fun _ => rfl) 4 rfl (by simp [Act.put]) ?_ ?_
 ·intro dn r0 K hd w5 hB1 hK
  have HB := Yh_ hB1
  clear hB1
  simp only [Yi]
  go_wp2_with fail
  first
  |exact hK (.pointer (some ⟨w5.heap.size, 0, none⟩)) _ (HB.out.layF hd)
  |exact HB.out.layF hd
 apply Yt rfl (fun _ => rfl)
 ·intro dn r0 K hd hdep hK w5 hB1
  have h8 : dn 13 = true := hdep ⟨13, .data⟩ (by simp) rfl
  obtain ⟨g, Z, e1, e2, e3, e4⟩ := hB1.y h8
  refine Yav ⟨fk, fp, fa, fw⟩ Z g _ _ rfl (by show r0 13 = _; exact e1) rfl e3 ?_
  exact hK _ (hB1.putF e1 e2 e3 h8)
 ·exact ⟨_, fun _ => rfl, rfl⟩
 refine Yad (fun _ r0 w5 dn hall hB1 => ?_)
 obtain ⟨g, G, e1, e2, e3, e4⟩ := hB1.y (hall 13 (by decide))
 rw [e4 (hall 14 (by decide))] at e3
 have cg := Ya e3
 unfold Yo at cg
 dsimp only at cg
 have U5 := Yh_ hB1.u
 clear hB1 e3 e4 hall e2
 show wpList _ _ _ _ (Act.put (Yi _ _ [] _) (some 4) (r0 13)) _
 rw [e1]
 simp only [Yi]
 clear e1
 go_wp2_with fail
 skip
 exact ⟨rfl, rfl, U5.out⟩
section
section
variable {w w' : World} {d a pb : Nat} {s : St} {i : Ins} {M : Mem}
theorem Yq.c0 (h : Yq w d a pb s i M) : w.cell? ⟨d, 0, none⟩ = some (.pointer (some ⟨a, 0, none⟩)) := h.cell 0
theorem dr_reg (a : Nat) (s : St) (i : Ins) (k : Fin 8) (v : Int) : (Ybu a s i).setIfInBounds (1 + k.val) (.int .u32 v) = Ybu a (s.setR k.val v) i := by
 match k with
 |⟨0, _⟩ => rfl
 |⟨1, _⟩ => rfl
 |⟨2, _⟩ => rfl
 |⟨3, _⟩ => rfl
 |⟨4, _⟩ => rfl
 |⟨5, _⟩ => rfl
 |⟨6, _⟩ => rfl
 |⟨7, _⟩ => rfl
theorem Yq.set {s' : St} {o : Nat} {v : Value} (h : Yq w d a pb s i M) (hc : (Ybu a s i).setIfInBounds o v = Ybu a s' i) (ho : s'.Ok) : Yq (w.setCell ⟨d, o, none⟩ v) d a pb s' i M := by
 have u := (Upd.refl [d] w).setCell (p := ⟨d, o, none⟩) (.inl (by simp)) v
 refine ⟨?_, h.m.keep u (by simpa using fun e => h.na e.symm) (by simpa using fun e => h.np e.symm), ho, h.io, h.na, h.np⟩
 rw [← hc]
 exact Yh h.h o v
theorem Yq.setR (h : Yq w d a pb s i M) (k : Nat) (hk : k < 8) (v : Int) (hv : 0 ≤ v ∧ v < 4294967296) : Yq (w.setCell ⟨d, 1 + k, none⟩ (.int .u32 v)) d a pb (s.setR k v) i M :=
 h.set (dr_reg a s i ⟨k, hk⟩ v) (St.setR_ok h.ok k hv.1 hv.2)
theorem Yq.cR (h : Yq w d a pb s i M) (k : Nat) (hk : k < 8) : w.cell? ⟨d, 1 + k, none⟩ = some (.int .u32 (s.R k)) := by
 rw [h.cell]
 exact Yjg a s i k _ (by rw [Array.getElem?_toList]; exact s.cR k hk)
end
theorem Ypt (d a pb : Nat) (s : St) (i : Ins) (M : Mem) (x v : Int) (w : World) (h : Yq w d a pb s i M) (h0 : 0 ≤ x ∧ x < 4294967296) (hv : 0 ≤ v ∧ v < 4294967296) (hk : M.writeK x 4 = true) :
  Calls Tryz.prog 114 #[.pointer (some ⟨d, 0, none⟩), .int .u32 x, .int .u32 v] w fun e w' => e = .returned (.tuple #[]) ∧ Yq w' d a pb s i (M.writeM x 4 v) ∧ Upd [pb] w w' := by
 obtain ⟨⟨fk, fp, fa, fw⟩, hF⟩ : ∃ F, M.wrF x 4 = F := ⟨_, rfl⟩
 skip
 obtain ⟨M2, hm⟩ : ∃ M2, M.writeM x 4 v = M2 := ⟨_, rfl⟩
 rw [hm]
 have HD := Yh_ (And.intro h (And.intro h0 (And.intro hF (And.intro hk (And.intro hv hm)))))
 have c0 := h.c0
 clear h h0 hF hk hv hm
 go_enter Tryz.func114, Tryz.ntmps114
 go_wp2_with (go_at_call 16; refine (Yf1 M a pb x 4 v _ HD.out.1.m HD.out.2.1.1 HD.out.2.1.2 HD.out.2.2.2.2.1.1 HD.out.2.2.2.2.1.2).mono ?_; rintro e w4 ⟨rfl, hm, hu⟩; rw [HD.out.2.2.2.2.2] at hm; rw [Mem.writeF_val, HD.out.2.2.1, HD.out.2.2.2.1]; unfold Flt.val; have U4 := Yh_ (And.intro ((HD.out.1.mem hu hm).keep ((Upd.refl [] w4).alloc (.cells #[.int .i64 fk, .int .u32 fp, .int .u32 fa, .int .i64 fw] 35)) (by simp) (by simp) (by simp)) (hu.alloc (.cells #[.int .i64 fk, .int .u32 fp, .int .u32 fa, .int .i64 fw] 35))); clear hu hm)
 go_end0
 exact ⟨rfl, U4.out.1, U4.out.2⟩
theorem Yoy (d a pb : Nat) (s : St) (i : Ins) (M : Mem) (x v : Int) (w : World) (h : Yq w d a pb s i M) (h0 : 0 ≤ x ∧ x < 4294967296) (hv : 0 ≤ v ∧ v < 4294967296) (hk : M.writeK x 4 = false) :
  Calls Tryz.prog 114 #[.pointer (some ⟨d, 0, none⟩), .int .u32 x, .int .u32 v] w fun e w' => e = .panicked [{ v := .iface 35 (M.wrF x 4).val, recovered := false }] ∧ Yq w' d a pb s i (M.writeM x 4 v) ∧ Upd [pb] w w' := by
 obtain ⟨⟨fk, fp, fa, fw⟩, hF⟩ : ∃ F, M.wrF x 4 = F := ⟨_, rfl⟩
 rw [hF]
 obtain ⟨M2, hm⟩ : ∃ M2, M.writeM x 4 v = M2 := ⟨_, rfl⟩
 rw [hm]
 have HD := Yh_ (And.intro h (And.intro h0 (And.intro hF (And.intro hk (And.intro hv hm)))))
 have c0 := h.c0
 clear h h0 hF hk hv hm
 go_enter Tryz.func114, Tryz.ntmps114
 go_wp2_with (go_at_call 16; refine (Yf1 M a pb x 4 v _ HD.out.1.m HD.out.2.1.1 HD.out.2.1.2 HD.out.2.2.2.2.1.1 HD.out.2.2.2.2.1.2).mono ?_; rintro e w4 ⟨rfl, hm, hu⟩; rw [HD.out.2.2.2.2.2] at hm; rw [Mem.writeF_val, HD.out.2.2.1, HD.out.2.2.2.1]; unfold Flt.val; have U4 := Yh_ (And.intro ((HD.out.1.mem hu hm).keep ((Upd.refl [] w4).alloc (.cells #[.int .i64 fk, .int .u32 fp, .int .u32 fa, .int .i64 fw] 35)) (by simp) (by simp) (by simp)) (hu.alloc (.cells #[.int .i64 fk, .int .u32 fp, .int .u32 fa, .int .i64 fw] 35))); clear hu hm)
 skip
 exact ⟨rfl, rfl, U4.out.1, U4.out.2⟩
theorem dpush_ok (d a pb : Nat) (s : St) (i : Ins) (M : Mem) (v : Int) (w : World) (h : Yq w d a pb s i M) (hv : 0 ≤ v ∧ v < 4294967296) (hk : M.writeK ((s.R 4 - 4) % 4294967296) 4 = true) :
  Calls Tryz.prog 79 #[.pointer (some ⟨d, 0, none⟩), .int .u32 v] w fun e w' => e = .returned (.tuple #[]) ∧ Yq w' d a pb (s.setR 4 ((s.R 4 - 4) % 4294967296)) i (M.writeM ((s.R 4 - 4) % 4294967296) 4 v) ∧ Upd [d, pb] w w' := by
 obtain ⟨x, hx⟩ : ∃ x, (s.R 4 - 4) % 4294967296 = x := ⟨_, rfl⟩
 have hx0 : 0 ≤ x ∧ x < 4294967296 := by omega
 rw [hx] at hk ⊢
 obtain ⟨M2, hm⟩ : ∃ M2, M.writeM x 4 v = M2 := ⟨_, rfl⟩
 rw [hm]
 have HD := Yh_ (And.intro h (And.intro hv (And.intro hk (And.intro hm hx0))))
 have c4 : w.cell? ⟨d, 5, none⟩ = some (.int .u32 (s.R 4)) := h.cR 4 (by decide)
 clear h hv hk hm hx0
 go_enter Tryz.func79, Tryz.ntmps79
 go_wp2_with (go_at_call 114; refine (Ypt d a pb s i M x v _ HD.out.1 HD.out.2.2.2.2 HD.out.2.1 HD.out.2.2.1).mono ?_; rintro e w4 ⟨rfl, hd, hu⟩; rw [HD.out.2.2.2.1] at hd; have H4 := Yh_ (And.intro hd (hu.mono (T := [d, pb]) (by simp))); clear hd hu c4)
 refine Yan 11 (fun w1 => Yq w1 d a pb s i M2 ∧ Upd [d, pb] w w1) (fun _ _ => False) (by kernel_rfl) (by decide +kernel) ⟨H4.out.1.keep (Upd.refl [] _).drew (by simp) (by simp) (by simp), H4.out.2.drew⟩ (fun _ _ _ h => h.elim) ?_
 simp only [List.take_succ_cons, List.take_zero, List.drop_succ_cons, List.drop_zero]
 iterate 11
  apply Yu rfl rfl
  ·intro K hK w5 hB1
   have c4 : w5.cell? ⟨d, 5, none⟩ = some (.int .u32 (s.R 4)) := hB1.1.cR 4 (by decide)
   have HB := Yh_ hB1
   clear hB1
   go_wp2_with fail
   first
   |exact hK _ HB.out
   |exact HB.out
  ·exact ⟨_, rfl⟩
 refine Yaf (fun _ w5 hB1 => ?_)
 have c5 := hB1.1.cell
 have f5 := hB1.1.free
 have H5 := Yh_ hB1
 clear hB1
 go_wp2_with fail
 go_end0
 exact ⟨rfl, H5.out.1.setR 4 (by decide) x HD.out.2.2.2.2, H5.out.2.setCell (p := ⟨d, 5, none⟩) (.inl (by simp)) _⟩
theorem Yo0 (d a pb : Nat) (s : St) (i : Ins) (M : Mem) (v : Int) (w : World) (h : Yq w d a pb s i M) (hv : 0 ≤ v ∧ v < 4294967296) (hk : M.writeK ((s.R 4 - 4) % 4294967296) 4 = false) :
  Calls Tryz.prog 79 #[.pointer (some ⟨d, 0, none⟩), .int .u32 v] w fun e w' => e = .panicked [{ v := .iface 35 (M.wrF ((s.R 4 - 4) % 4294967296) 4).val, recovered := false }] ∧ Yq w' d a pb s i (M.writeM ((s.R 4 - 4) % 4294967296) 4 v) ∧ Upd [pb] w w' := by
 obtain ⟨x, hx⟩ : ∃ x, (s.R 4 - 4) % 4294967296 = x := ⟨_, rfl⟩
 have hx0 : 0 ≤ x ∧ x < 4294967296 := by omega
 rw [hx] at hk ⊢
 have HD := Yh_ (And.intro h (And.intro hv (And.intro hk hx0)))
 have c4 : w.cell? ⟨d, 5, none⟩ = some (.int .u32 (s.R 4)) := h.cR 4 (by decide)
 clear h hv hk hx0
 go_enter Tryz.func79, Tryz.ntmps79
 go_wp2_with (go_at_call 114; refine (Yoy d a pb s i M x v _ HD.out.1 HD.out.2.2.2 HD.out.2.1 HD.out.2.2.1).mono ?_; rintro e w4 ⟨rfl, hd, hu⟩; have H4 := Yh_ (And.intro hd hu); clear hd hu c4)
 exact ⟨rfl, rfl, H4.out.1, H4.out.2⟩
end
section
section
variable {w w3 : World} {d a pb : Nat} {s : St} {i : Ins} {M : Mem}
theorem Yev (h : Yq w d a pb s i M) (hw : (w.alloc (.cells Ins.zero.cells 41)).setCells w.heap.size 0 i.cells.toList = w3) : Yq w3 d a pb s i M ∧ w3.heap[w.heap.size]? = some (.cells i.cells 41 (0, 0)) ∧ Upd [d, pb] w w3 := by
 obtain ⟨h1, h2⟩ := Ya7 (S := []) (w0 := w) hw (heap_alloc_new w (.cells Ins.zero.cells 41)) rfl ((Upd.refl [] w).alloc _) (.inr (Nat.le_refl _))
 exact ⟨h.keep h2 (by simp) (by simp) (by simp), h1, h2.mono (by simp)⟩
theorem Yc7 (h : Yq w d a pb s i M) (o : Opd) (ho : o.Ok) (b : Int) : 0 ≤ opV M s o b ∧ opV M s o b < 4294967296 := by
 unfold opV
 split
 ·split
  ·unfold St.reg8; split <;> (have := h.ok.R (o.r % 8).toNat; have := h.ok.R ((o.r % 8).toNat - 4); omega)
  ·exact h.ok.R _
 ·split
  ·have hw : wd b = 1 ∨ wd b = 4 := by unfold wd; split <;> simp
   have := ho.imm
   rcases hw with e | e
   ·rw [e]
    show 0 ≤ o.imm % 256 ∧ o.imm % 256 < 4294967296
    omega
   ·rw [e]
    show 0 ≤ o.imm % 4294967296 ∧ o.imm % 4294967296 < 4294967296
    omega
  ·split
   ·exact Ynn h.m _ _ _
   ·omega
end
theorem Yov (d a pb : Nat) (s : St) (i : Ins) (M : Mem) (w : World) (h : Yq w d a pb s i M) (hop : i.op = 28) (hr : opK M s i.a 4 = true) (hk : M.writeK ((s.R 4 - 4) % 4294967296) 4 = true) :
  Calls Tryz.prog 53 #[.pointer (some ⟨d, 0, none⟩)] w fun e w' => e = .returned (.tuple #[]) ∧ Yq w' d a pb (s.setR 4 ((s.R 4 - 4) % 4294967296)) i (M.writeM ((s.R 4 - 4) % 4294967296) 4 (opV M s i.a 4)) ∧ Upd [d, pb] w w' := by
 have HD := Yh_ h
 have tokL : True := trivial
 have tokS : True := trivial
 have HI := Yh_ h.io
 have HR := Yh_ hr
 have HK := Yh_ hk
 have HV := Yh_ (Yc7 h i.a h.io.a 4)
 clear hr hk
 clear h
 go_enter Tryz.func53, Tryz.ntmps53
 go_wp2_with (first | (have _t := tokL; clear _t tokL; refine Yar 41 rfl ?_; refine wpList_load_mid rfl 41 _ rfl d 18 rfl i.cells.toList _ HD.out.ri Tryz.underlying41 rfl (by rw [Array.length_toList, Ins.size]; exact Ya1) ?_; rw [Array.toArray_toList]) | (have _t := tokS; clear _t tokS; refine Ye 41 rfl ?_; refine Yd i w.heap.size rfl _ _ rfl rfl rfl (heap_alloc_new w (.cells Ins.zero.cells 41)) rfl ?_; intro w3 hw; have h3 := Yev HD.out hw; have ci := Ya h3.2.1; unfold Ins.cells at ci; have H3 := Yh_ h3; clear hw h3) | (have _t := H3; clear _t; go_at_call 48; refine (Yck d a pb s i M i.a 4 _ H3.out.1 HI.out.a HR.out).mono ?_; rintro e w4 ⟨rfl, hu⟩; have H4 := Yh_ (And.intro (H3.out.1.keep hu (by simp) (by simp) (by simp)) (H3.out.2.2.also hu (by simp))); clear hu H3 ci) | (have _t := H4; clear _t; go_at_call 79; refine (dpush_ok d a pb s i M (opV M s i.a 4) _ H4.out.1 HV.out HK.out).mono ?_; rintro e w5 ⟨rfl, hd, hu⟩; have H5 := Yh_ (And.intro hd (H4.out.2.also hu (fun x hx => .inl hx))); clear hd hu H4))
 go_end0
 exact ⟨rfl, H5.out.1, H5.out.2⟩
theorem Ymr (d a pb : Nat) (s : St) (i : Ins) (M : Mem) (w : World) (h : Yq w d a pb s i M) (hop : i.op = 28) (hr : opK M s i.a 4 = true) (hk : M.writeK ((s.R 4 - 4) % 4294967296) 4 = false) :
  Calls Tryz.prog 53 #[.pointer (some ⟨d, 0, none⟩)] w fun e w' => e = .panicked [{ v := .iface 35 (M.wrF ((s.R 4 - 4) % 4294967296) 4).val, recovered := false }] ∧ Yk w' a pb (M.writeM ((s.R 4 - 4) % 4294967296) 4 (opV M s i.a 4)) ∧ Upd [d, pb] w w' := by
 have HD := Yh_ h
 have tokL : True := trivial
 have tokS : True := trivial
 have HI := Yh_ h.io
 have HR := Yh_ hr
 have HK := Yh_ hk
 have HV := Yh_ (Yc7 h i.a h.io.a 4)
 clear hr hk
 clear h
 go_enter Tryz.func53, Tryz.ntmps53
 go_wp2_with (first | (have _t := tokL; clear _t tokL; refine Yar 41 rfl ?_; refine wpList_load_mid rfl 41 _ rfl d 18 rfl i.cells.toList _ HD.out.ri Tryz.underlying41 rfl (by rw [Array.length_toList, Ins.size]; exact Ya1) ?_; rw [Array.toArray_toList]) | (have _t := tokS; clear _t tokS; refine Ye 41 rfl ?_; refine Yd i w.heap.size rfl _ _ rfl rfl rfl (heap_alloc_new w (.cells Ins.zero.cells 41)) rfl ?_; intro w3 hw; have h3 := Yev HD.out hw; have ci := Ya h3.2.1; unfold Ins.cells at ci; have H3 := Yh_ h3; clear hw h3) | (have _t := H3; clear _t; go_at_call 48; refine (Yck d a pb s i M i.a 4 _ H3.out.1 HI.out.a HR.out).mono ?_; rintro e w4 ⟨rfl, hu⟩; have H4 := Yh_ (And.intro (H3.out.1.keep hu (by simp) (by simp) (by simp)) (H3.out.2.2.also hu (by simp))); clear hu H3 ci) | (have _t := H4; clear _t; go_at_call 79; refine (Yo0 d a pb s i M (opV M s i.a 4) _ H4.out.1 HV.out HK.out).mono ?_; rintro e w5 ⟨rfl, hd, hu⟩; have H5 := Yh_ (And.intro hd (H4.out.2.also (S' := [pb]) hu (by simp))); clear hd hu H4))
 exact ⟨rfl, rfl, H5.out.1.m, H5.out.2⟩
theorem Yk5 (d a pb : Nat) (s s2 : St) (i : Ins) (M M2 : Mem) (w : World) (h : Yq w d a pb s i M) (hop : 28 ≤ i.op ∧ i.op ≤ 33)
  (hj : ∀ w1, Yq w1 d a pb s i M → Calls Tryz.prog 53 #[.pointer (some ⟨d, 0, none⟩)] w1 fun e w' => e = .returned (.tuple #[]) ∧ Yq w' d a pb s2 i M2 ∧ Upd [d, pb] w1 w') :
  Calls Tryz.prog 32 #[.pointer (some ⟨d, 0, none⟩)] w fun e w' => e = .returned (.tuple #[]) ∧ Yq w' d a pb s2 i M2 ∧ Upd [d, pb] w w' := by
 have HD := Yh_ h
 have tokL : True := trivial
 have tokS : True := trivial
 obtain ⟨op, ho⟩ : ∃ op, i.op = op := ⟨_, rfl⟩
 rw [ho] at hop
 have e1 : decide (3 ≤ op) = true := by simp; omega
 have e2 : decide (op ≤ 11) = false := by simp; omega
 have e3 : decide (12 ≤ op) = true := by simp; omega
 have e4 : decide (op ≤ 15) = false := by simp; omega
 have e5 : decide (21 ≤ op) = true := by simp; omega
 have e6 : decide (op ≤ 25) = false := by simp; omega
 have e7 : decide (16 ≤ op) = true := by simp; omega
 have e8 : decide (op ≤ 20) = false := by simp; omega
 have e9 : decide (45 ≤ op) = false := by simp; omega
 have e10 : decide (28 ≤ op) = true := by simp; omega
 have e11 : decide (op ≤ 33) = true := by simp; omega
 have HJ := Yh_ hj
 clear h hj hop
 go_enter Tryz.func32, Tryz.ntmps32
 go_wp2_with (first | (have _t := tokL; clear _t tokL; refine Yar 41 rfl ?_; refine wpList_load_mid rfl 41 _ rfl d 18 rfl i.cells.toList _ HD.out.ri Tryz.underlying41 rfl (by rw [Array.length_toList, Ins.size]; exact Ya1) ?_; rw [Array.toArray_toList]) | (have _t := tokS; clear _t tokS; refine Ye 41 rfl ?_; refine Yd i w.heap.size rfl _ _ rfl rfl rfl (heap_alloc_new w (.cells Ins.zero.cells 41)) rfl ?_; intro w3 hw; have h3 := Yev HD.out hw; have ci := Ya h3.2.1; unfold Ins.cells at ci; have H3 := Yh_ h3; clear hw h3) | (have _t := H3; clear _t; go_at_call 53; refine (HJ.out _ H3.out.1).mono ?_; rintro e w5 ⟨rfl, hd, hu⟩; have H5 := Yh_ (And.intro hd (H3.out.2.2.also hu (fun x hx => .inl hx))); clear hd hu H3 ci))
 go_end0
 exact ⟨rfl, H5.out.1, H5.out.2⟩
theorem Yjw (d a pb : Nat) (s : St) (i : Ins) (M M2 : Mem) (F : Flt) (w : World) (h : Yq w d a pb s i M) (hop : 28 ≤ i.op ∧ i.op ≤ 33)
  (hj : ∀ w1, Yq w1 d a pb s i M → Calls Tryz.prog 53 #[.pointer (some ⟨d, 0, none⟩)] w1 fun e w' => e = .panicked [{ v := .iface 35 F.val, recovered := false }] ∧ Yk w' a pb M2 ∧ Upd [d, pb] w1 w') :
  Calls Tryz.prog 32 #[.pointer (some ⟨d, 0, none⟩)] w fun e w' => e = .panicked [{ v := .iface 35 F.val, recovered := false }] ∧ Yk w' a pb M2 ∧ Upd [d, pb] w w' := by
 have HD := Yh_ h
 have tokL : True := trivial
 have tokS : True := trivial
 obtain ⟨op, ho⟩ : ∃ op, i.op = op := ⟨_, rfl⟩
 rw [ho] at hop
 have e1 : decide (3 ≤ op) = true := by simp; omega
 have e2 : decide (op ≤ 11) = false := by simp; omega
 have e3 : decide (12 ≤ op) = true := by simp; omega
 have e4 : decide (op ≤ 15) = false := by simp; omega
 have e5 : decide (21 ≤ op) = true := by simp; omega
 have e6 : decide (op ≤ 25) = false := by simp; omega
 have e7 : decide (16 ≤ op) = true := by simp; omega
 have e8 : decide (op ≤ 20) = false := by simp; omega
 have e9 : decide (45 ≤ op) = false := by simp; omega
 have e10 : decide (28 ≤ op) = true := by simp; omega
 have e11 : decide (op ≤ 33) = true := by simp; omega
 have HJ := Yh_ hj
 clear h hj hop
 go_enter Tryz.func32, Tryz.ntmps32
 go_wp2_with (first | (have _t := tokL; clear _t tokL; refine Yar 41 rfl ?_; refine wpList_load_mid rfl 41 _ rfl d 18 rfl i.cells.toList _ HD.out.ri Tryz.underlying41 rfl (by rw [Array.length_toList, Ins.size]; exact Ya1) ?_; rw [Array.toArray_toList]) | (have _t := tokS; clear _t tokS; refine Ye 41 rfl ?_; refine Yd i w.heap.size rfl _ _ rfl rfl rfl (heap_alloc_new w (.cells Ins.zero.cells 41)) rfl ?_; intro w3 hw; have h3 := Yev HD.out hw; have ci := Ya h3.2.1; unfold Ins.cells at ci; have H3 := Yh_ h3; clear hw h3) | (have _t := H3; clear _t; go_at_call 53; refine (HJ.out _ H3.out.1).mono ?_; rintro e w5 ⟨rfl, hd, hu⟩; have H5 := Yh_ (And.intro hd (H3.out.2.2.also hu (fun x hx => .inl hx))); clear hd hu H3 ci))
 skip
 exact ⟨rfl, rfl, H5.out.1, H5.out.2⟩
end
end Go.Proofs.YthakgjpejhjaoaaGreat
