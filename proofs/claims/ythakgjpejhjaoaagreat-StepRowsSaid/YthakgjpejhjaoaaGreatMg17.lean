/-
  Parts of the proof (their names shortened by a program). No condition.
-/
import Derived.Test.YthakgjpejhjaoaaGreatMg01
import Derived.Test.YthakgjpejhjaoaaGreatMg06
import Derived.Test.YthakgjpejhjaoaaGreatMg16
import Derived.Test.YthakgjpejhjaoaaGreatMg08
import Derived.Test.YthakgjpejhjaoaaGreatMg04
import Derived.Test.YthakgjpejhjaoaaGreatMg05
namespace Go.Proofs.YthakgjpejhjaoaaGreat
open Go Go.RowKit
set_option linter.unusedVariables false
set_option linter.unusedSimpArgs false
set_option maxRecDepth 100000
set_option maxHeartbeats 16000000
section
def Ybk (a : Nat) (s : St) (i : Ins) : Array Value := #[.pointer (some ⟨a, 0, none⟩),
 .int .u32 (s.R 0), .int .u32 (s.R 1), .int .u32 (s.R 2), .int .u32 (s.R 3), .int .u32 (s.R 4), .int .u32 (s.R 5), .int .u32 (s.R 6), .int .u32 (s.R 7), .int .u32 s.pc,
 .bool s.cf, .bool s.pf, .bool s.af, .bool s.zf, .bool s.sf, .bool s.of_, .bool s.df, .int .u64 s.f,
 .int .i64 i.op, .int .i64 i.cond,
 .int .i64 i.a.k, .int .i64 i.a.r, .int .u32 i.a.imm, .int .i64 i.a.b, .int .i64 i.a.x, .int .u32 i.a.sc,
 .int .i64 i.b.k, .int .i64 i.b.r, .int .u32 i.b.imm, .int .i64 i.b.b, .int .i64 i.b.x, .int .u32 i.b.sc,
 .bool i.rep, .int .i64 i.len]
structure Ins.Ok (i : Ins) : Prop where
 a : i.a.Ok
 b : i.b.Ok
structure Yp (w : World) (d a pb : Nat) (s : St) (i : Ins) (M : Mem) : Prop where
 h : w.heap[d]? = some (.cells (Ybk a s i) 86 (0, 0))
 m : Yl w a pb M
 ok : s.Ok
 io : i.Ok
 na : d ≠ a
 np : d ≠ pb
theorem Yns {α : Type} (l m : List α) (off n : Nat) (h : ∀ j : Fin n, l[off + j.val]? = m[j.val]?) (hm : m.length = n) : ∀ j u, m[j]? = some u → l[off + j]? = some u := by
 intro j u hu
 have := (List.getElem?_eq_some_iff.1 hu).1
 rw [h ⟨j, by omega⟩]
 exact hu
theorem Yi6 (a : Nat) (s : St) (i : Ins) : ∀ j u, s.cells.toList[j]? = some u → (Ybk a s i)[1 + j]? = some u := by
 intro j u hu
 have := Yns (Ybk a s i).toList s.cells.toList 1 17 (fun ⟨j, hj⟩ => match j, hj with | 0, _ => rfl | 1, _ => rfl | 2, _ => rfl | 3, _ => rfl | 4, _ => rfl | 5, _ => rfl | 6, _ => rfl | 7, _ => rfl | 8, _ => rfl | 9, _ => rfl | 10, _ => rfl | 11, _ => rfl | 12, _ => rfl | 13, _ => rfl | 14, _ => rfl | 15, _ => rfl | 16, _ => rfl | k + 17, h => absurd h (by omega)) rfl j u hu
 rwa [Array.getElem?_toList] at this
theorem Yom (a : Nat) (s : St) (i : Ins) : ∀ j u, i.cells.toList[j]? = some u → (Ybk a s i)[18 + j]? = some u := by
 intro j u hu
 have := Yns (Ybk a s i).toList i.cells.toList 18 16 (fun ⟨j, hj⟩ => match j, hj with | 0, _ => rfl | 1, _ => rfl | 2, _ => rfl | 3, _ => rfl | 4, _ => rfl | 5, _ => rfl | 6, _ => rfl | 7, _ => rfl | 8, _ => rfl | 9, _ => rfl | 10, _ => rfl | 11, _ => rfl | 12, _ => rfl | 13, _ => rfl | 14, _ => rfl | 15, _ => rfl | k + 16, h => absurd h (by omega)) rfl j u hu
 rwa [Array.getElem?_toList] at this
theorem Ynp (a : Nat) (s : St) (i : Ins) : (Ybk a s i).size = 34 := rfl
theorem dr_set (a : Nat) (s s' : St) (i : Ins) : wr (Ybk a s i) 1 s'.cells.toList = Ybk a s' i := by kernel_rfl
section
variable {w w' : World} {d a pb : Nat} {s : St} {i : Ins} {M : Mem}
theorem Yp.keep {S : List Nat} (h : Yp w d a pb s i M) (u : Upd S w w') (hd : d ∉ S) (ha : a ∉ S) (hp : pb ∉ S) : Yp w' d a pb s i M :=
 ⟨u.get h.h hd, h.m.keep u ha hp, h.ok, h.io, h.na, h.np⟩
theorem Yp.cell (h : Yp w d a pb s i M) (o : Nat) : w.cell? ⟨d, o, none⟩ = (Ybk a s i)[o]? := Ya h.h o
theorem Yp.free (h : Yp w d a pb s i M) (o : Nat) : w.frozen? ⟨d, o, none⟩ = false := Yi h.h o
theorem Yp.rs (h : Yp w d a pb s i M) : w.rangeAt d 1 s.cells.toList := fun j u hu => by rw [h.cell]; exact Yi6 a s i j u hu
theorem Yp.ri (h : Yp w d a pb s i M) : w.rangeAt d 18 i.cells.toList := fun j u hu => by rw [h.cell]; exact Yom a s i j u hu
theorem Yp.lt (h : Yp w d a pb s i M) : d < w.heap.size := Yh h.h
theorem Yp.mem {M' : Mem} (h : Yp w d a pb s i M) (u : Upd [pb] w w') (hm : Yl w' a pb M') : Yp w' d a pb s i M' :=
 ⟨u.get h.h (by simpa using h.np), hm, h.ok, h.io, h.na, h.np⟩
theorem Yp.put {s' : St} (h : Yp w d a pb s i M) (ho : s'.Ok) : Yp (w.setCells d 1 s'.cells.toList) d a pb s' i M := by
 refine ⟨?_, h.m.keep ((Upd.refl [d] w).setCells (.inl (by simp)) _ _) (by simpa using fun e => h.na e.symm) (by simpa using fun e => h.np e.symm), ho, h.io, h.na, h.np⟩
 rw [Yz _ _ _ _ h.h, dr_set]
end
end
section
def Ybl (o : Opd) : Array Value := #[.int .i64 o.k, .int .i64 o.r, .int .u32 o.imm, .int .i64 o.b, .int .i64 o.x, .int .u32 o.sc]
def Yac (F : Flt) : Array Value := #[.int .i64 F.k, .int .u32 F.pc, .int .u32 F.a, .int .i64 F.wt]
theorem Yn {d : Nat → Bool} {m i : Nat} (h : i ≠ m) : Yad d m i = d i := by simp [Yad, h]
theorem Ycy {d : Nat → Bool} {m : Nat} : Yad d m m = true := by simp [Yad]
theorem vq_ne {r : Nat → Value} {m i : Nat} {v : Value} (h : i ≠ m) : Yck r m v i = r i := by simp [Yck, h]
theorem Yfj {r : Nat → Value} {m : Nat} {v : Value} : Yck r m v m = v := by simp [Yck]
theorem Yda {op : Oper} {A : Act} {w : World} {K : Act → World → Prop} {Q : Exit → Act → World → Prop} (F Z : Flt) (g : Nat) (x y : Operand) (ho : op.op = .store 35 x y) (hx : A.eval x = .pointer (some ⟨g, 0, none⟩)) (hy : A.eval y = F.val)
  (hb : w.heap[g]? = some (.cells (Yac Z) 35 (0, 0))) (hK : K (A.put op.dst undef) (w.setCells g 0 (Yac F).toList)) : op.wp Tryz.prog A w K Q :=
 wp_store_mid 35 x y ho g 0 (Yac F) hx hy (Ydt hb 0 4 (by simp [Yac])) Ybq (by simp [Yac, Value.oneCell']) hK
structure DrI (w : World) (d a pb ob : Nat) (s : St) (i : Ins) (M M' : Mem) (o : Opd) (S : St) (F : Flt) (c e f p q : Nat) (T : List Nat) (dn : Nat → Bool) (r : Nat → Value) (w1 : World) : Prop where
 b : Yp w1 d a pb s i (if dn c = true then M' else M)
 o : w1.heap[ob]? = some (.cells (Ybl o) 39 (0, 0))
 u : Upd T w w1
 x : dn e = true → ∃ g Z, r e = .pointer (some ⟨g, 0, none⟩) ∧ ob < g ∧ w1.heap[g]? = some (.cells Z 28 (0, 0)) ∧ Z.size = 17 ∧ (dn p = true → Z = S.cells)
 y : dn f = true → ∃ g G, r f = .pointer (some ⟨g, 0, none⟩) ∧ ob < g ∧ w1.heap[g]? = some (.cells (Yac G) 35 (0, 0)) ∧ (dn q = true → G = F)
 xo : dn p = true → dn e = true
 yo : dn q = true → dn f = true
 ne : (c ≠ e ∧ c ≠ f ∧ c ≠ p ∧ c ≠ q) ∧ (e ≠ f ∧ e ≠ p ∧ e ≠ q) ∧ (f ≠ p ∧ f ≠ q) ∧ p ≠ q
 lt : d < ob ∧ a < ob ∧ pb < ob ∧ w.heap.size ≤ ob
 ht : ∀ x, x ∈ T → x = pb
section
variable {w w1 w2 : World} {d a pb ob : Nat} {s : St} {i : Ins} {M M' : Mem} {o : Opd} {S : St} {F : Flt} {c e f p q : Nat} {T : List Nat} {dn : Nat → Bool} {r : Nat → Value}
theorem DrI.start (h : Yp w1 d a pb s i M) (ho : w1.heap[ob]? = some (.cells (Ybl o) 39 (0, 0))) (u : Upd T w w1) (ne : (c ≠ e ∧ c ≠ f ∧ c ≠ p ∧ c ≠ q) ∧ (e ≠ f ∧ e ≠ p ∧ e ≠ q) ∧ (f ≠ p ∧ f ≠ q) ∧ p ≠ q) (lt : d < ob ∧ a < ob ∧ pb < ob ∧ w.heap.size ≤ ob) (ht : ∀ x, x ∈ T → x = pb) (r : Nat → Value) : DrI w d a pb ob s i M M' o S F c e f p q T (fun _ => false) r w1 :=
 ⟨by simpa using h, ho, u, fun h => (by cases h), fun h => (by cases h), fun h => (by cases h), fun h => (by cases h), ne, lt, ht⟩
theorem DrI.over (h : DrI w d a pb ob s i M M' o S F c e f p q T dn r w1) (u : Upd T w1 w2) {m : Nat} (hb : Yp w2 d a pb s i (if Yad dn m c = true then M' else M)) (h2 : e ≠ m) (h3 : f ≠ m) (h4 : p ≠ m) (h5 : q ≠ m) : DrI w d a pb ob s i M M' o S F c e f p q T (Yad dn m) r w2 := by
 have hl := h.lt
 have hp : ∀ g, ob ≤ g → g ∉ T := fun g hg hh => by have := h.ht g hh; omega
 refine ⟨hb, u.get h.o (hp _ (Nat.le_refl _)), h.u.also u (fun x hx => .inl hx), fun hx => ?_, fun hy => ?_, fun hx => ?_, fun hy => ?_, h.ne, hl, h.ht⟩
 ·rw [Yn h2] at hx
  obtain ⟨g, Z, e1, e2, e3, e4, e5⟩ := h.x hx
  exact ⟨g, Z, e1, e2, u.get e3 (hp g (Nat.le_of_lt e2)), e4, fun hk => e5 (by rwa [Yn h4] at hk)⟩
 ·rw [Yn h3] at hy
  obtain ⟨g, G, e1, e2, e3, e4⟩ := h.y hy
  exact ⟨g, G, e1, e2, u.get e3 (hp g (Nat.le_of_lt e2)), fun hk => e4 (by rwa [Yn h5] at hk)⟩
 ·rw [Yn h4] at hx; rw [Yn h2]; exact h.xo hx
 ·rw [Yn h5] at hy; rw [Yn h3]; exact h.yo hy
theorem DrI.quiet (h : DrI w d a pb ob s i M M' o S F c e f p q T dn r w1) (u : Upd [] w1 w2) (m : Nat) (h1 : c ≠ m) (h2 : e ≠ m) (h3 : f ≠ m) (h4 : p ≠ m) (h5 : q ≠ m) : DrI w d a pb ob s i M M' o S F c e f p q T (Yad dn m) r w2 :=
 h.over (u.mono (by simp)) (by rw [Yn h1]; exact h.b.keep u (by simp) (by simp) (by simp)) h2 h3 h4 h5
theorem DrI.same (h : DrI w d a pb ob s i M M' o S F c e f p q T dn r w1) (m : Nat) (h1 : c ≠ m) (h2 : e ≠ m) (h3 : f ≠ m) (h4 : p ≠ m) (h5 : q ≠ m) : DrI w d a pb ob s i M M' o S F c e f p q T (Yad dn m) r w1 := h.quiet (Upd.refl [] w1) m h1 h2 h3 h4 h5
theorem DrI.at1 (h : DrI w d a pb ob s i M M' o S F c e f p q T dn r w1) (hd : dn c = false) : Yp w1 d a pb s i M := by
 have := h.b
 rwa [hd, if_neg (by simp)] at this
theorem DrI.call (h : DrI w d a pb ob s i M M' o S F c e f p q T dn r w1) (hd : dn c = false) (hm : Yl w2 a pb M') (u : Upd T w1 w2) : DrI w d a pb ob s i M M' o S F c e f p q T (Yad dn c) r w2 := by
 obtain ⟨⟨n1, n2, n3, n4⟩, _⟩ := h.ne
 exact h.over u (by rw [Ycy, if_pos rfl]; exact (h.at1 hd).mem (u.mono (fun x hx => by simp [h.ht x hx])) hm) n1.symm n2.symm n3.symm n4.symm
theorem DrI.layS (h : DrI w d a pb ob s i M M' o S F c e f p q T dn r w1) (hd : dn e = false) (Z : Array Value) (hZ : Z.size = 17) : DrI w d a pb ob s i M M' o S F c e f p q T (Yad dn e) (Yck r e (.pointer (some ⟨w1.heap.size, 0, none⟩))) (w1.alloc (.cells Z 28)) := by
 obtain ⟨⟨n1, n2, n3, n4⟩, ⟨n5, n6, n7⟩, _, _⟩ := h.ne
 have u := (Upd.refl [] w1).alloc (.cells Z 28)
 refine ⟨by rw [Yn n1]; exact h.b.keep u (by simp) (by simp) (by simp), u.get h.o (by simp), h.u.also u (by simp), fun _ => ⟨_, _, Yfj, Yh h.o, heap_alloc_new _ _, hZ, fun hk => ?_⟩, fun hy => ?_, fun _ => Ycy, fun hy => ?_, h.ne, h.lt, h.ht⟩
 ·rw [Yn n6.symm] at hk
  rw [h.xo hk] at hd; cases hd
 ·rw [Yn n5.symm] at hy
  obtain ⟨g, G, e1, e2, e3, e4⟩ := h.y hy
  exact ⟨g, G, by rw [vq_ne n5.symm]; exact e1, e2, u.get e3 (by simp), fun hk => e4 (by rwa [Yn n7.symm] at hk)⟩
 ·rw [Yn n7.symm] at hy; rw [Yn n5.symm]; exact h.yo hy
theorem DrI.layF (h : DrI w d a pb ob s i M M' o S F c e f p q T dn r w1) (hd : dn f = false) : DrI w d a pb ob s i M M' o S F c e f p q T (Yad dn f) (Yck r f (.pointer (some ⟨w1.heap.size, 0, none⟩))) (w1.alloc (.cells #[.int .i64 0, .int .u32 0, .int .u32 0, .int .i64 0] 35)) := by
 obtain ⟨⟨n1, n2, n3, n4⟩, ⟨n5, n6, n7⟩, ⟨n8, n9⟩, _⟩ := h.ne
 have u := (Upd.refl [] w1).alloc (.cells #[.int .i64 0, .int .u32 0, .int .u32 0, .int .i64 0] 35)
 refine ⟨by rw [Yn n2]; exact h.b.keep u (by simp) (by simp) (by simp), u.get h.o (by simp), h.u.also u (by simp), fun hx => ?_, fun _ => ⟨_, Flt.zero, Yfj, Yh h.o, heap_alloc_new _ _, fun hk => ?_⟩, fun hx => ?_, fun _ => Ycy, h.ne, h.lt, h.ht⟩
 ·rw [Yn n5] at hx
  obtain ⟨g, Z, e1, e2, e3, e4, e5⟩ := h.x hx
  exact ⟨g, Z, by rw [vq_ne n5]; exact e1, e2, u.get e3 (by simp), e4, fun hk => e5 (by rwa [Yn n8.symm] at hk)⟩
 ·rw [Yn n9.symm] at hk
  rw [h.yo hk] at hd; cases hd
 ·rw [Yn n8.symm] at hx; rw [Yn n5]; exact h.xo hx
theorem DrI.putS (h : DrI w d a pb ob s i M M' o S F c e f p q T dn r w1) {g : Nat} {Z : Array Value} (hg : r e = .pointer (some ⟨g, 0, none⟩)) (hlt : ob < g) (hb : w1.heap[g]? = some (.cells Z 28 (0, 0))) (hZ : Z.size = 17) (hd : dn e = true) : DrI w d a pb ob s i M M' o S F c e f p q T (Yad dn p) r (w1.setCells g 0 S.cells.toList) := by
 obtain ⟨⟨n1, n2, n3, n4⟩, ⟨n5, n6, n7⟩, ⟨n8, n9⟩, n10⟩ := h.ne
 have hl := h.lt
 have hu : Upd [g] w1 (w1.setCells g 0 S.cells.toList) := (Upd.refl [g] w1).setCells (.inl (by simp)) _ _
 refine ⟨by rw [Yn n3]; exact h.b.keep hu (by simp; omega) (by simp; omega) (by simp; omega), hu.get h.o (by simp; omega), h.u.also hu (by simp; omega), fun _ => ⟨g, S.cells, hg, hlt, Ya7 S hb hZ, St.size S, fun _ => rfl⟩, fun hy => ?_, fun _ => by rw [Yn n6]; exact hd, fun hy => ?_, h.ne, hl, h.ht⟩
 ·rw [Yn n8] at hy
  obtain ⟨g', G, e1, e2, e3, e4⟩ := h.y hy
  have hne : g' ≠ g := by
   intro e
   subst e
   rw [hb] at e3
   injection e3 with e3
   injection e3 with _ e5
   exact absurd e5 (by decide)
  exact ⟨g', G, e1, e2, hu.get e3 (by simpa using hne), fun hk => e4 (by rwa [Yn n10.symm] at hk)⟩
 ·rw [Yn n10.symm] at hy; rw [Yn n8]; exact h.yo hy
theorem DrI.putF (h : DrI w d a pb ob s i M M' o S F c e f p q T dn r w1) {g : Nat} {G : Flt} (hg : r f = .pointer (some ⟨g, 0, none⟩)) (hlt : ob < g) (hb : w1.heap[g]? = some (.cells (Yac G) 35 (0, 0))) (hd : dn f = true) : DrI w d a pb ob s i M M' o S F c e f p q T (Yad dn q) r (w1.setCells g 0 (Yac F).toList) := by
 obtain ⟨⟨n1, n2, n3, n4⟩, ⟨n5, n6, n7⟩, ⟨n8, n9⟩, n10⟩ := h.ne
 have hl := h.lt
 have hu : Upd [g] w1 (w1.setCells g 0 (Yac F).toList) := (Upd.refl [g] w1).setCells (.inl (by simp)) _ _
 refine ⟨by rw [Yn n4]; exact h.b.keep hu (by simp; omega) (by simp; omega) (by simp; omega), hu.get h.o (by simp; omega), h.u.also hu (by simp; omega), fun hx => ?_, fun _ => ⟨g, F, hg, hlt, by rw [Yz _ _ _ _ hb]; rfl, fun _ => rfl⟩, fun hx => ?_, fun _ => by rw [Yn n9]; exact hd, h.ne, hl, h.ht⟩
 ·rw [Yn n7] at hx
  obtain ⟨g', Z, e1, e2, e3, e4, e5⟩ := h.x hx
  have hne : g' ≠ g := by
   intro e
   subst e
   rw [hb] at e3
   injection e3 with e3
   injection e3 with _ e6
   exact absurd e6 (by decide)
  exact ⟨g', Z, e1, e2, hu.get e3 (by simpa using hne), e4, fun hk => e5 (by rwa [Yn n10] at hk)⟩
 ·rw [Yn n10] at hx; rw [Yn n7]; exact h.xo hx
end
end
theorem Yj6 {w : World} {d a pb : Nat} {s : St} {i : Ins} {M : Mem} (h : Yp w d a pb s i M) (o : Opd) : Yp (w.alloc (.cells (Ybl o) 39)).drew d a pb s i M ∧ (w.alloc (.cells (Ybl o) 39)).drew.heap[w.heap.size]? = some (.cells (Ybl o) 39 (0, 0)) ∧ Upd [] w (w.alloc (.cells (Ybl o) 39)).drew ∧ (d < w.heap.size ∧ a < w.heap.size ∧ pb < w.heap.size ∧ w.heap.size ≤ w.heap.size) := by
 have u := ((Upd.refl [] w).alloc (.cells (Ybl o) 39)).drew
 exact ⟨h.keep u (by simp) (by simp) (by simp), ((Upd.refl [] _).drew).get (heap_alloc_new w _) (by simp), u, h.lt, by obtain ⟨C, _, hc⟩ := h.m.hd; exact Yh hc, by obtain ⟨C, _, hc⟩ := h.m.pg; exact Yh hc, Nat.le_refl _⟩
theorem Yhp (d a pb : Nat) (s : St) (i : Ins) (M : Mem) (o : Opd) (b : Int) (w : World) (h : Yp w d a pb s i M) (ho : o.Ok) (hk : opK M s o b = true) :
  Calls Tryz.prog 48 #[.pointer (some ⟨d, 0, none⟩), o.val, .int .i64 b] w fun e w' => e = .returned (.int .u32 (opV M s o b)) ∧ Upd [] w w' := by
 obtain ⟨⟨fk, fp, fa, fw⟩, hF⟩ : ∃ F, opF M s o b = F := ⟨_, rfl⟩
 obtain ⟨x, hx⟩ : ∃ x, opV M s o b = x := ⟨_, rfl⟩
 rw [hx]
 obtain ⟨o0, o1, o2, o3, o4, o5⟩ := o
 have HK := Yh_ (And.intro hx (And.intro hF (And.intro hk ho)))
 have HD := Yh_ h
 clear h hx hF hk ho
 unfold Opd.val
 go_enter Tryz.func48, Tryz.ntmps48
 go_wp2_with fail
 have hst := Yj6 HD.out ⟨o0, o1, o2, o3, o4, o5⟩
 unfold Ybl at hst
 refine Ybn 18 (DrI w d a pb w.heap.size s i M M ⟨o0, o1, o2, o3, o4, o5⟩ St.zero ⟨fk, fp, fa, fw⟩ 10 900 15 901 17 []) (fun _ _ => False) (by kernel_rfl) (by decide +kernel) (fun r0 => DrI.start hst.1 hst.2.1 (hst.2.2.1.mono (by simp)) (by decide) hst.2.2.2 (by simp) r0) (fun _ _ _ h => h.elim) ?_
 clear hst
 simp only [List.take_succ_cons, List.take_zero, List.drop_succ_cons, List.drop_zero]
 iterate 7
  apply Ym rfl rfl
  ·intro dn r0 K hd hdep hK w5 hB1
   have c0 : w5.cell? ⟨d, 0, none⟩ = some (.pointer (some ⟨a, 0, none⟩)) := hB1.b.cell 0
   have co := Ya hB1.o
   unfold Ybl at co
   have HB := Yh_ hB1
   clear hB1 hdep
   go_wp2_with fail
   first
   |exact hK _ (HB.out.same _ (by decide) (by decide) (by decide) (by decide) (by decide))
   |exact HB.out.same _ (by decide) (by decide) (by decide) (by decide) (by decide)
  ·exact ⟨_, rfl⟩
 apply Ym rfl rfl
 ·intro dn r0 K hd hdep hK w5 hB1
  refine wp_load_mid 28 _ rfl d 1 rfl s.cells.toList _ hB1.b.rs Tryz.underlying28 rfl (by rw [Array.length_toList, St.size]; exact Ybg) ?_
  rw [Array.toArray_toList]
  exact hK _ (hB1.same _ (by decide) (by decide) (by decide) (by decide) (by decide))
 ·exact ⟨_, rfl⟩
 iterate 2
  apply Ym rfl rfl
  ·intro dn r0 K hd hdep hK w5 hB1
   have c0 : w5.cell? ⟨d, 0, none⟩ = some (.pointer (some ⟨a, 0, none⟩)) := hB1.b.cell 0
   have co := Ya hB1.o
   unfold Ybl at co
   have HB := Yh_ hB1
   clear hB1 hdep
   go_wp2_with fail
   first
   |exact hK _ (HB.out.same _ (by decide) (by decide) (by decide) (by decide) (by decide))
   |exact HB.out.same _ (by decide) (by decide) (by decide) (by decide) (by decide)
  ·exact ⟨_, rfl⟩
 apply Ym rfl rfl
 ·intro dn r0 K hd hdep hK w5 hB1
  have HB := Yh_ hB1
  clear hB1 hdep
  go_wp2_with (go_at_call 64; refine (Yn0 M a pb s ⟨o0, o1, o2, o3, o4, o5⟩ b _ (HB.out.at1 hd).m (HB.out.at1 hd).ok HK.out.2.2.2).mono ?_; rintro e w6 ⟨rfl, hu⟩; rw [HK.out.1, HK.out.2.1, HK.out.2.2.1]; unfold Flt.val)
  first
  |exact hK _ (HB.out.call hd ((HB.out.at1 hd).m.keep hu (by simp) (by simp)) hu)
  |exact HB.out.call hd ((HB.out.at1 hd).m.keep hu (by simp) (by simp)) hu
 ·exact ⟨_, rfl⟩
 iterate 4
  apply Ym rfl rfl
  ·intro dn r0 K hd hdep hK w5 hB1
   have c0 : w5.cell? ⟨d, 0, none⟩ = some (.pointer (some ⟨a, 0, none⟩)) := hB1.b.cell 0
   have co := Ya hB1.o
   unfold Ybl at co
   have HB := Yh_ hB1
   clear hB1 hdep
   go_wp2_with fail
   first
   |exact hK _ (HB.out.same _ (by decide) (by decide) (by decide) (by decide) (by decide))
   |exact HB.out.same _ (by decide) (by decide) (by decide) (by decide) (by decide)
  ·exact ⟨_, rfl⟩
 refine Ybc rfl (fun _ => rfl) 8 rfl (by simp [Act.put]) ?_ ?_
 ·intro dn r0 K hd w5 hB1 hK
  have HB := Yh_ hB1
  clear hB1
  simp only [Yu]
  go_wp2_with fail
  first
  |exact hK (.pointer (some ⟨w5.heap.size, 0, none⟩)) _ (HB.out.layF hd)
  |exact HB.out.layF hd
 iterate 1
  apply Ycw rfl (fun _ => rfl)
  ·intro dn r0 K hd hdep hK w5 hB1
   have HB := Yh_ hB1
   clear hB1 hdep
   simp only [Yu]
   go_wp2_with fail
   first
   |exact hK _ (HB.out.same _ (by decide) (by decide) (by decide) (by decide) (by decide))
   |exact HB.out.same _ (by decide) (by decide) (by decide) (by decide) (by decide)
  ·exact ⟨_, fun _ => rfl, rfl⟩
 apply Ycw rfl (fun _ => rfl)
 ·intro dn r0 K hd hdep hK w5 hB1
  have h8 : dn 15 = true := hdep ⟨15, .data⟩ (by simp) rfl
  obtain ⟨g, Z, e1, e2, e3, e4⟩ := hB1.y h8
  refine Yda ⟨fk, fp, fa, fw⟩ Z g _ _ rfl (by show r0 15 = _; exact e1) rfl e3 ?_
  exact hK _ (hB1.putF e1 e2 e3 h8)
 ·exact ⟨_, fun _ => rfl, rfl⟩
 refine Ybf (fun _ r0 w5 dn hall hB1 => ?_)
 obtain ⟨g, G, e1, e2, e3, e4⟩ := hB1.y (hall 15 (by decide))
 rw [e4 (hall 17 (by decide))] at e3
 have cg := Ya e3
 unfold Yac at cg
 dsimp only at cg
 have U5 := Yh_ hB1.u
 clear hB1 e3 e4 hall e2
 show wpList _ _ _ _ (Act.put (Yu _ _ [] _) (some 8) (r0 15)) _
 rw [e1]
 simp only [Yu]
 clear e1
 go_wp2_with fail
 go_ret
 exact ⟨rfl, U5.out⟩
theorem Yoo (d a pb : Nat) (s : St) (i : Ins) (M : Mem) (o : Opd) (b v : Int) (w : World) (h : Yp w d a pb s i M) (ho : o.Ok) (hv : 0 ≤ v ∧ v < 4294967296) (hk : Ydb M s o b = true) :
  Calls Tryz.prog 49 #[.pointer (some ⟨d, 0, none⟩), o.val, .int .i64 b, .int .u32 v] w fun e w' => e = .returned (.tuple #[]) ∧ Yp w' d a pb (opS s o b v) i (opM M s o b v) ∧ Upd [d, pb] w w' := by
 obtain ⟨⟨fk, fp, fa, fw⟩, hF⟩ : ∃ F, Ydk M s o b = F := ⟨_, rfl⟩
 have hX := opS_ok h.ok o b hv.1 hv.2
 obtain ⟨X2, hx⟩ : ∃ x, opS s o b v = x := ⟨_, rfl⟩
 obtain ⟨M2, hm⟩ : ∃ x, opM M s o b v = x := ⟨_, rfl⟩
 rw [hx] at hX
 rw [hx, hm]
 obtain ⟨o0, o1, o2, o3, o4, o5⟩ := o
 have HK := Yh_ (And.intro hx (And.intro hF (And.intro hk (And.intro ho (And.intro hm (And.intro hv hX))))))
 have HD := Yh_ h
 clear h hx hF hk ho hm hv hX
 unfold Opd.val
 go_enter Tryz.func49, Tryz.ntmps49
 go_wp2_with fail
 have hst := Yj6 HD.out ⟨o0, o1, o2, o3, o4, o5⟩
 unfold Ybl at hst
 refine Ybn 20 (DrI w d a pb w.heap.size s i M M2 ⟨o0, o1, o2, o3, o4, o5⟩ X2 ⟨fk, fp, fa, fw⟩ 11 16 17 18 19 [pb]) (fun _ _ => False) (by kernel_rfl) (by decide +kernel) (fun r0 => DrI.start hst.1 hst.2.1 (hst.2.2.1.mono (by simp)) (by decide) hst.2.2.2 (by simp) r0) (fun _ _ _ h => h.elim) ?_
 clear hst
 simp only [List.take_succ_cons, List.take_zero, List.drop_succ_cons, List.drop_zero]
 iterate 7
  apply Ym rfl rfl
  ·intro dn r0 K hd hdep hK w5 hB1
   have c0 : w5.cell? ⟨d, 0, none⟩ = some (.pointer (some ⟨a, 0, none⟩)) := hB1.b.cell 0
   have co := Ya hB1.o
   unfold Ybl at co
   have HB := Yh_ hB1
   clear hB1 hdep
   go_wp2_with fail
   first
   |exact hK _ (HB.out.same _ (by decide) (by decide) (by decide) (by decide) (by decide))
   |exact HB.out.same _ (by decide) (by decide) (by decide) (by decide) (by decide)
  ·exact ⟨_, rfl⟩
 apply Ym rfl rfl
 ·intro dn r0 K hd hdep hK w5 hB1
  refine wp_load_mid 28 _ rfl d 1 rfl s.cells.toList _ hB1.b.rs Tryz.underlying28 rfl (by rw [Array.length_toList, St.size]; exact Ybg) ?_
  rw [Array.toArray_toList]
  exact hK _ (hB1.same _ (by decide) (by decide) (by decide) (by decide) (by decide))
 ·exact ⟨_, rfl⟩
 iterate 3
  apply Ym rfl rfl
  ·intro dn r0 K hd hdep hK w5 hB1
   have c0 : w5.cell? ⟨d, 0, none⟩ = some (.pointer (some ⟨a, 0, none⟩)) := hB1.b.cell 0
   have co := Ya hB1.o
   unfold Ybl at co
   have HB := Yh_ hB1
   clear hB1 hdep
   go_wp2_with fail
   first
   |exact hK _ (HB.out.same _ (by decide) (by decide) (by decide) (by decide) (by decide))
   |exact HB.out.same _ (by decide) (by decide) (by decide) (by decide) (by decide)
  ·exact ⟨_, rfl⟩
 apply Ym rfl rfl
 ·intro dn r0 K hd hdep hK w5 hB1
  have HB := Yh_ hB1
  clear hB1 hdep
  go_wp2_with (go_at_call 65; refine (Yls M a pb s ⟨o0, o1, o2, o3, o4, o5⟩ b v _ (HB.out.at1 hd).m (HB.out.at1 hd).ok HK.out.2.2.2.1 HK.out.2.2.2.2.2.1.1 HK.out.2.2.2.2.2.1.2).mono ?_; rintro e w6 ⟨rfl, hm, hu⟩; rw [HK.out.2.2.2.2.1] at hm; rw [HK.out.1, HK.out.2.1, HK.out.2.2.1]; unfold Flt.val)
  first
  |exact hK _ (HB.out.call hd hm hu)
  |exact HB.out.call hd hm hu
 ·exact ⟨_, rfl⟩
 iterate 4
  apply Ym rfl rfl
  ·intro dn r0 K hd hdep hK w5 hB1
   have c0 : w5.cell? ⟨d, 0, none⟩ = some (.pointer (some ⟨a, 0, none⟩)) := hB1.b.cell 0
   have co := Ya hB1.o
   unfold Ybl at co
   have HB := Yh_ hB1
   clear hB1 hdep
   go_wp2_with fail
   first
   |exact hK _ (HB.out.same _ (by decide) (by decide) (by decide) (by decide) (by decide))
   |exact HB.out.same _ (by decide) (by decide) (by decide) (by decide) (by decide)
  ·exact ⟨_, rfl⟩
 refine Ybc rfl (fun _ => rfl) 8 rfl (by simp [Act.put]) ?_ ?_
 ·intro dn r0 K hd w5 hB1 hK
  have HB := Yh_ hB1
  clear hB1
  simp only [Yu]
  go_wp2_with fail
  first
  |exact hK (.pointer (some ⟨w5.heap.size, 0, none⟩)) _ (HB.out.layS hd _ rfl)
  |exact HB.out.layS hd _ rfl
 refine Ybc rfl (fun _ => rfl) 9 rfl (by simp [Act.put]) ?_ ?_
 ·intro dn r0 K hd w5 hB1 hK
  have HB := Yh_ hB1
  clear hB1
  simp only [Yu]
  go_wp2_with fail
  first
  |exact hK (.pointer (some ⟨w5.heap.size, 0, none⟩)) _ (HB.out.layF hd)
  |exact HB.out.layF hd
 apply Ycw rfl (fun _ => rfl)
 ·intro dn r0 K hd hdep hK w5 hB1
  have h8 : dn 16 = true := hdep ⟨16, .data⟩ (by simp) rfl
  obtain ⟨g, Z, e1, e2, e3, e4, _⟩ := hB1.x h8
  refine Ycu X2 g _ _ rfl (by show r0 16 = _; exact e1) rfl e3 e4 ?_
  intro w6 hw
  rw [← hw]
  exact hK _ (hB1.putS e1 e2 e3 e4 h8)
 ·exact ⟨_, fun _ => rfl, rfl⟩
 apply Ycw rfl (fun _ => rfl)
 ·intro dn r0 K hd hdep hK w5 hB1
  have h8 : dn 17 = true := hdep ⟨17, .data⟩ (by simp) rfl
  obtain ⟨g, Z, e1, e2, e3, e4⟩ := hB1.y h8
  refine Yda ⟨fk, fp, fa, fw⟩ Z g _ _ rfl (by show r0 17 = _; exact e1) rfl e3 ?_
  exact hK _ (hB1.putF e1 e2 e3 h8)
 ·exact ⟨_, fun _ => rfl, rfl⟩
 refine Ybf (fun _ r0 w5 dn hall hB1 => ?_)
 obtain ⟨g, G, e1, e2, e3, e4⟩ := hB1.y (hall 17 (by decide))
 rw [e4 (hall 19 (by decide))] at e3
 obtain ⟨g2, Z, e5, e6, e7, _, e8⟩ := hB1.x (hall 16 (by decide))
 rw [e8 (hall 18 (by decide))] at e7
 have cg := Ya e3
 unfold Yac at cg
 dsimp only at cg
 have hb := hB1.b
 rw [hall 11 (by decide), if_pos rfl] at hb
 have B5 := Yh_ (And.intro hb (And.intro e7 hB1.u))
 clear hB1 e3 e4 hall e2 e6 e7 e8 hb
 show wpList _ _ _ _ (Act.put (Act.put (Yu _ _ [] _) (some 8) (r0 16)) (some 9) (r0 17)) _
 rw [e1, e5]
 simp only [Yu]
 clear e1 e5
 go_wp2_with (first | (have _t := B5; clear _t; refine Yaj 28 rfl ?_; refine Ys X2 g2 rfl _ rfl rfl B5.out.2.1 ?_) | (have _t := B5; clear _t; refine Yd 28 rfl ?_; refine wpList_store_mid rfl 28 _ _ rfl d 1 X2.cells rfl rfl (Ydt B5.out.1.h 1 17 (by rw [Ynp]; decide)) (by rw [St.size]; exact Ybg) X2.one ?_; have B6 := Yh_ (And.intro (B5.out.1.put HK.out.2.2.2.2.2.2) ((B5.out.2.2.mono (T := [d, pb]) (by simp)).setCells (q := d) (.inl (by simp)) X2.cells.toList 1)); clear B5))
 go_end0
 exact ⟨rfl, B6.out.1, B6.out.2⟩
theorem dboth_ok (d a pb : Nat) (s : St) (i : Ins) (M : Mem) (o : Opd) (w : World) (h : Yp w d a pb s i M) (hk : Yfb M s o 4 3 = true) :
  Calls Tryz.prog 46 #[.pointer (some ⟨d, 0, none⟩), o.val] w fun e w' => e = .returned (.tuple #[]) ∧ Upd [] w w' := by
 obtain ⟨⟨fk, fp, fa, fw⟩, hF⟩ : ∃ F, Yfy M s o 4 3 = F := ⟨_, rfl⟩
 skip
 obtain ⟨o0, o1, o2, o3, o4, o5⟩ := o
 have HK := Yh_ (And.intro hF hk)
 have HD := Yh_ h
 clear h hF hk
 unfold Opd.val
 go_enter Tryz.func46, Tryz.ntmps46
 go_wp2_with fail
 have hst := Yj6 HD.out ⟨o0, o1, o2, o3, o4, o5⟩
 unfold Ybl at hst
 refine Ybn 15 (DrI w d a pb w.heap.size s i M M ⟨o0, o1, o2, o3, o4, o5⟩ St.zero ⟨fk, fp, fa, fw⟩ 9 900 13 901 14 []) (fun _ _ => False) (by kernel_rfl) (by decide +kernel) (fun r0 => DrI.start hst.1 hst.2.1 (hst.2.2.1.mono (by simp)) (by decide) hst.2.2.2 (by simp) r0) (fun _ _ _ h => h.elim) ?_
 clear hst
 simp only [List.take_succ_cons, List.take_zero, List.drop_succ_cons, List.drop_zero]
 iterate 7
  apply Ym rfl rfl
  ·intro dn r0 K hd hdep hK w5 hB1
   have c0 : w5.cell? ⟨d, 0, none⟩ = some (.pointer (some ⟨a, 0, none⟩)) := hB1.b.cell 0
   have co := Ya hB1.o
   unfold Ybl at co
   have HB := Yh_ hB1
   clear hB1 hdep
   go_wp2_with fail
   first
   |exact hK _ (HB.out.same _ (by decide) (by decide) (by decide) (by decide) (by decide))
   |exact HB.out.same _ (by decide) (by decide) (by decide) (by decide) (by decide)
  ·exact ⟨_, rfl⟩
 apply Ym rfl rfl
 ·intro dn r0 K hd hdep hK w5 hB1
  refine wp_load_mid 28 _ rfl d 1 rfl s.cells.toList _ hB1.b.rs Tryz.underlying28 rfl (by rw [Array.length_toList, St.size]; exact Ybg) ?_
  rw [Array.toArray_toList]
  exact hK _ (hB1.same _ (by decide) (by decide) (by decide) (by decide) (by decide))
 ·exact ⟨_, rfl⟩
 iterate 1
  apply Ym rfl rfl
  ·intro dn r0 K hd hdep hK w5 hB1
   have c0 : w5.cell? ⟨d, 0, none⟩ = some (.pointer (some ⟨a, 0, none⟩)) := hB1.b.cell 0
   have co := Ya hB1.o
   unfold Ybl at co
   have HB := Yh_ hB1
   clear hB1 hdep
   go_wp2_with fail
   first
   |exact hK _ (HB.out.same _ (by decide) (by decide) (by decide) (by decide) (by decide))
   |exact HB.out.same _ (by decide) (by decide) (by decide) (by decide) (by decide)
  ·exact ⟨_, rfl⟩
 apply Ym rfl rfl
 ·intro dn r0 K hd hdep hK w5 hB1
  have HB := Yh_ hB1
  clear hB1 hdep
  go_wp2_with (go_at_call 60; refine (Yod M a pb s ⟨o0, o1, o2, o3, o4, o5⟩ 4 3 _ (HB.out.at1 hd).m).mono ?_; rintro e w6 ⟨rfl, hu⟩; rw [HK.out.1, HK.out.2]; unfold Flt.val)
  first
  |exact hK _ (HB.out.call hd ((HB.out.at1 hd).m.keep hu (by simp) (by simp)) hu)
  |exact HB.out.call hd ((HB.out.at1 hd).m.keep hu (by simp) (by simp)) hu
 ·exact ⟨_, rfl⟩
 iterate 3
  apply Ym rfl rfl
  ·intro dn r0 K hd hdep hK w5 hB1
   have c0 : w5.cell? ⟨d, 0, none⟩ = some (.pointer (some ⟨a, 0, none⟩)) := hB1.b.cell 0
   have co := Ya hB1.o
   unfold Ybl at co
   have HB := Yh_ hB1
   clear hB1 hdep
   go_wp2_with fail
   first
   |exact hK _ (HB.out.same _ (by decide) (by decide) (by decide) (by decide) (by decide))
   |exact HB.out.same _ (by decide) (by decide) (by decide) (by decide) (by decide)
  ·exact ⟨_, rfl⟩
 refine Ybc rfl (fun _ => rfl) 4 rfl (by simp [Act.put]) ?_ ?_
 ·intro dn r0 K hd w5 hB1 hK
  have HB := Yh_ hB1
  clear hB1
  simp only [Yu]
  go_wp2_with fail
  first
  |exact hK (.pointer (some ⟨w5.heap.size, 0, none⟩)) _ (HB.out.layF hd)
  |exact HB.out.layF hd
 apply Ycw rfl (fun _ => rfl)
 ·intro dn r0 K hd hdep hK w5 hB1
  have h8 : dn 13 = true := hdep ⟨13, .data⟩ (by simp) rfl
  obtain ⟨g, Z, e1, e2, e3, e4⟩ := hB1.y h8
  refine Yda ⟨fk, fp, fa, fw⟩ Z g _ _ rfl (by show r0 13 = _; exact e1) rfl e3 ?_
  exact hK _ (hB1.putF e1 e2 e3 h8)
 ·exact ⟨_, fun _ => rfl, rfl⟩
 refine Ybf (fun _ r0 w5 dn hall hB1 => ?_)
 obtain ⟨g, G, e1, e2, e3, e4⟩ := hB1.y (hall 13 (by decide))
 rw [e4 (hall 14 (by decide))] at e3
 have cg := Ya e3
 unfold Yac at cg
 dsimp only at cg
 have U5 := Yh_ hB1.u
 clear hB1 e3 e4 hall e2
 show wpList _ _ _ _ (Act.put (Yu _ _ [] _) (some 4) (r0 13)) _
 rw [e1]
 simp only [Yu]
 clear e1
 go_wp2_with fail
 go_end0
 exact ⟨rfl, U5.out⟩
section
section
variable {w w' : World} {d a pb : Nat} {s : St} {i : Ins} {M : Mem}
theorem Yp.c0 (h : Yp w d a pb s i M) : w.cell? ⟨d, 0, none⟩ = some (.pointer (some ⟨a, 0, none⟩)) := h.cell 0
theorem dr_reg (a : Nat) (s : St) (i : Ins) (k : Fin 8) (v : Int) : (Ybk a s i).setIfInBounds (1 + k.val) (.int .u32 v) = Ybk a (s.setR k.val v) i := by
 match k with
 |⟨0, _⟩ => rfl
 |⟨1, _⟩ => rfl
 |⟨2, _⟩ => rfl
 |⟨3, _⟩ => rfl
 |⟨4, _⟩ => rfl
 |⟨5, _⟩ => rfl
 |⟨6, _⟩ => rfl
 |⟨7, _⟩ => rfl
theorem Yp.set {s' : St} {o : Nat} {v : Value} (h : Yp w d a pb s i M) (hc : (Ybk a s i).setIfInBounds o v = Ybk a s' i) (ho : s'.Ok) : Yp (w.setCell ⟨d, o, none⟩ v) d a pb s' i M := by
 have u := (Upd.refl [d] w).setCell (p := ⟨d, o, none⟩) (.inl (by simp)) v
 refine ⟨?_, h.m.keep u (by simpa using fun e => h.na e.symm) (by simpa using fun e => h.np e.symm), ho, h.io, h.na, h.np⟩
 rw [← hc]
 exact Yf h.h o v
theorem Yp.setR (h : Yp w d a pb s i M) (k : Nat) (hk : k < 8) (v : Int) (hv : 0 ≤ v ∧ v < 4294967296) : Yp (w.setCell ⟨d, 1 + k, none⟩ (.int .u32 v)) d a pb (s.setR k v) i M :=
 h.set (dr_reg a s i ⟨k, hk⟩ v) (St.setR_ok h.ok k hv.1 hv.2)
theorem Yp.cR (h : Yp w d a pb s i M) (k : Nat) (hk : k < 8) : w.cell? ⟨d, 1 + k, none⟩ = some (.int .u32 (s.R k)) := by
 rw [h.cell]
 exact Yi6 a s i k _ (by rw [Array.getElem?_toList]; exact s.cR k hk)
end
theorem Yhv (d a pb : Nat) (s : St) (i : Ins) (M : Mem) (x : Int) (w : World) (h : Yp w d a pb s i M) (h0 : 0 ≤ x ∧ x < 4294967296) (hk : M.readK x 4 1 = true) :
  Calls Tryz.prog 115 #[.pointer (some ⟨d, 0, none⟩), .int .u32 x] w fun e w' => e = .returned (.int .u32 (M.readV x 4 1)) ∧ Upd [] w w' := by
 obtain ⟨⟨fk, fp, fa, fw⟩, hF⟩ : ∃ F, M.rdF x 4 1 = F := ⟨_, rfl⟩
 skip
 have HD := Yh_ (And.intro h (And.intro h0 (And.intro hF hk)))
 have c0 := h.c0
 clear h h0 hF hk
 go_enter Tryz.func115, Tryz.ntmps115
 go_wp2_with (go_at_call 38; refine (Yed M a pb x 4 1 _ HD.out.1.m HD.out.2.1.1 HD.out.2.1.2).mono ?_; rintro e w4 ⟨rfl, hu⟩; rw [Mem.readF_val, HD.out.2.2.1, HD.out.2.2.2]; unfold Flt.val; have U4 := Yh_ hu; clear hu)
 go_ret
 exact ⟨rfl, U4.out.alloc _⟩
theorem Yov (d a pb : Nat) (s : St) (i : Ins) (M : Mem) (x : Int) (w : World) (h : Yp w d a pb s i M) (h0 : 0 ≤ x ∧ x < 4294967296) (hk : M.readK x 4 1 = false) :
  Calls Tryz.prog 115 #[.pointer (some ⟨d, 0, none⟩), .int .u32 x] w fun e w' => e = .panicked [{ v := .iface 35 (M.rdF x 4 1).val, recovered := false }] ∧ Upd [] w w' := by
 obtain ⟨⟨fk, fp, fa, fw⟩, hF⟩ : ∃ F, M.rdF x 4 1 = F := ⟨_, rfl⟩
 rw [hF]
 have HD := Yh_ (And.intro h (And.intro h0 (And.intro hF hk)))
 have c0 := h.c0
 clear h h0 hF hk
 go_enter Tryz.func115, Tryz.ntmps115
 go_wp2_with (go_at_call 38; refine (Yed M a pb x 4 1 _ HD.out.1.m HD.out.2.1.1 HD.out.2.1.2).mono ?_; rintro e w4 ⟨rfl, hu⟩; rw [Mem.readF_val, HD.out.2.2.1, HD.out.2.2.2]; unfold Flt.val; have U4 := Yh_ hu; clear hu)
 skip
 exact ⟨rfl, rfl, U4.out.alloc _⟩
theorem Ygv (d a pb : Nat) (s : St) (i : Ins) (M : Mem) (x v : Int) (w : World) (h : Yp w d a pb s i M) (h0 : 0 ≤ x ∧ x < 4294967296) (hv : 0 ≤ v ∧ v < 4294967296) (hk : M.writeK x 4 = true) :
  Calls Tryz.prog 114 #[.pointer (some ⟨d, 0, none⟩), .int .u32 x, .int .u32 v] w fun e w' => e = .returned (.tuple #[]) ∧ Yp w' d a pb s i (M.writeM x 4 v) ∧ Upd [pb] w w' := by
 obtain ⟨⟨fk, fp, fa, fw⟩, hF⟩ : ∃ F, M.wrF x 4 = F := ⟨_, rfl⟩
 skip
 obtain ⟨M2, hm⟩ : ∃ M2, M.writeM x 4 v = M2 := ⟨_, rfl⟩
 rw [hm]
 have HD := Yh_ (And.intro h (And.intro h0 (And.intro hF (And.intro hk (And.intro hv hm)))))
 have c0 := h.c0
 clear h h0 hF hk hv hm
 go_enter Tryz.func114, Tryz.ntmps114
 go_wp2_with (go_at_call 16; refine (Yep M a pb x 4 v _ HD.out.1.m HD.out.2.1.1 HD.out.2.1.2 HD.out.2.2.2.2.1.1 HD.out.2.2.2.2.1.2).mono ?_; rintro e w4 ⟨rfl, hm, hu⟩; rw [HD.out.2.2.2.2.2] at hm; rw [Mem.writeF_val, HD.out.2.2.1, HD.out.2.2.2.1]; unfold Flt.val; have U4 := Yh_ (And.intro ((HD.out.1.mem hu hm).keep ((Upd.refl [] w4).alloc (.cells #[.int .i64 fk, .int .u32 fp, .int .u32 fa, .int .i64 fw] 35)) (by simp) (by simp) (by simp)) (hu.alloc (.cells #[.int .i64 fk, .int .u32 fp, .int .u32 fa, .int .i64 fw] 35))); clear hu hm)
 go_end0
 exact ⟨rfl, U4.out.1, U4.out.2⟩
theorem Yig (d a pb : Nat) (s : St) (i : Ins) (M : Mem) (x v : Int) (w : World) (h : Yp w d a pb s i M) (h0 : 0 ≤ x ∧ x < 4294967296) (hv : 0 ≤ v ∧ v < 4294967296) (hk : M.writeK x 4 = false) :
  Calls Tryz.prog 114 #[.pointer (some ⟨d, 0, none⟩), .int .u32 x, .int .u32 v] w fun e w' => e = .panicked [{ v := .iface 35 (M.wrF x 4).val, recovered := false }] ∧ Yp w' d a pb s i (M.writeM x 4 v) ∧ Upd [pb] w w' := by
 obtain ⟨⟨fk, fp, fa, fw⟩, hF⟩ : ∃ F, M.wrF x 4 = F := ⟨_, rfl⟩
 rw [hF]
 obtain ⟨M2, hm⟩ : ∃ M2, M.writeM x 4 v = M2 := ⟨_, rfl⟩
 rw [hm]
 have HD := Yh_ (And.intro h (And.intro h0 (And.intro hF (And.intro hk (And.intro hv hm)))))
 have c0 := h.c0
 clear h h0 hF hk hv hm
 go_enter Tryz.func114, Tryz.ntmps114
 go_wp2_with (go_at_call 16; refine (Yep M a pb x 4 v _ HD.out.1.m HD.out.2.1.1 HD.out.2.1.2 HD.out.2.2.2.2.1.1 HD.out.2.2.2.2.1.2).mono ?_; rintro e w4 ⟨rfl, hm, hu⟩; rw [HD.out.2.2.2.2.2] at hm; rw [Mem.writeF_val, HD.out.2.2.1, HD.out.2.2.2.1]; unfold Flt.val; have U4 := Yh_ (And.intro ((HD.out.1.mem hu hm).keep ((Upd.refl [] w4).alloc (.cells #[.int .i64 fk, .int .u32 fp, .int .u32 fa, .int .i64 fw] 35)) (by simp) (by simp) (by simp)) (hu.alloc (.cells #[.int .i64 fk, .int .u32 fp, .int .u32 fa, .int .i64 fw] 35))); clear hu hm)
 skip
 exact ⟨rfl, rfl, U4.out.1, U4.out.2⟩
theorem dpush_ok (d a pb : Nat) (s : St) (i : Ins) (M : Mem) (v : Int) (w : World) (h : Yp w d a pb s i M) (hv : 0 ≤ v ∧ v < 4294967296) (hk : M.writeK ((s.R 4 - 4) % 4294967296) 4 = true) :
  Calls Tryz.prog 79 #[.pointer (some ⟨d, 0, none⟩), .int .u32 v] w fun e w' => e = .returned (.tuple #[]) ∧ Yp w' d a pb (s.setR 4 ((s.R 4 - 4) % 4294967296)) i (M.writeM ((s.R 4 - 4) % 4294967296) 4 v) ∧ Upd [d, pb] w w' := by
 obtain ⟨x, hx⟩ : ∃ x, (s.R 4 - 4) % 4294967296 = x := ⟨_, rfl⟩
 have hx0 : 0 ≤ x ∧ x < 4294967296 := by omega
 rw [hx] at hk ⊢
 obtain ⟨M2, hm⟩ : ∃ M2, M.writeM x 4 v = M2 := ⟨_, rfl⟩
 rw [hm]
 have HD := Yh_ (And.intro h (And.intro hv (And.intro hk (And.intro hm hx0))))
 have c4 : w.cell? ⟨d, 5, none⟩ = some (.int .u32 (s.R 4)) := h.cR 4 (by decide)
 clear h hv hk hm hx0
 go_enter Tryz.func79, Tryz.ntmps79
 go_wp2_with (go_at_call 114; refine (Ygv d a pb s i M x v _ HD.out.1 HD.out.2.2.2.2 HD.out.2.1 HD.out.2.2.1).mono ?_; rintro e w4 ⟨rfl, hd, hu⟩; rw [HD.out.2.2.2.1] at hd; have H4 := Yh_ (And.intro hd (hu.mono (T := [d, pb]) (by simp))); clear hd hu c4)
 refine Yaq 11 (fun w1 => Yp w1 d a pb s i M2 ∧ Upd [d, pb] w w1) (fun _ _ => False) (by kernel_rfl) (by decide +kernel) ⟨H4.out.1.keep (Upd.refl [] _).drew (by simp) (by simp) (by simp), H4.out.2.drew⟩ (fun _ _ _ h => h.elim) ?_
 simp only [List.take_succ_cons, List.take_zero, List.drop_succ_cons, List.drop_zero]
 iterate 11
  apply Yaa rfl rfl
  ·intro K hK w5 hB1
   have c4 : w5.cell? ⟨d, 5, none⟩ = some (.int .u32 (s.R 4)) := hB1.1.cR 4 (by decide)
   have HB := Yh_ hB1
   clear hB1
   go_wp2_with fail
   first
   |exact hK _ HB.out
   |exact HB.out
  ·exact ⟨_, rfl⟩
 refine Yaf (fun _ w5 hB1 => ?_)
 have c5 := hB1.1.cell
 have f5 := hB1.1.free
 have H5 := Yh_ hB1
 clear hB1
 go_wp2_with fail
 go_end0
 exact ⟨rfl, H5.out.1.setR 4 (by decide) x HD.out.2.2.2.2, H5.out.2.setCell (p := ⟨d, 5, none⟩) (.inl (by simp)) _⟩
theorem Yo6 (d a pb : Nat) (s : St) (i : Ins) (M : Mem) (v : Int) (w : World) (h : Yp w d a pb s i M) (hv : 0 ≤ v ∧ v < 4294967296) (hk : M.writeK ((s.R 4 - 4) % 4294967296) 4 = false) :
  Calls Tryz.prog 79 #[.pointer (some ⟨d, 0, none⟩), .int .u32 v] w fun e w' => e = .panicked [{ v := .iface 35 (M.wrF ((s.R 4 - 4) % 4294967296) 4).val, recovered := false }] ∧ Yp w' d a pb s i (M.writeM ((s.R 4 - 4) % 4294967296) 4 v) ∧ Upd [pb] w w' := by
 obtain ⟨x, hx⟩ : ∃ x, (s.R 4 - 4) % 4294967296 = x := ⟨_, rfl⟩
 have hx0 : 0 ≤ x ∧ x < 4294967296 := by omega
 rw [hx] at hk ⊢
 have HD := Yh_ (And.intro h (And.intro hv (And.intro hk hx0)))
 have c4 : w.cell? ⟨d, 5, none⟩ = some (.int .u32 (s.R 4)) := h.cR 4 (by decide)
 clear h hv hk hx0
 go_enter Tryz.func79, Tryz.ntmps79
 go_wp2_with (go_at_call 114; refine (Yig d a pb s i M x v _ HD.out.1 HD.out.2.2.2 HD.out.2.1 HD.out.2.2.1).mono ?_; rintro e w4 ⟨rfl, hd, hu⟩; have H4 := Yh_ (And.intro hd hu); clear hd hu c4)
 exact ⟨rfl, rfl, H4.out.1, H4.out.2⟩
end
section
section
variable {w w3 : World} {d a pb : Nat} {s : St} {i : Ins} {M : Mem}
theorem Yea (h : Yp w d a pb s i M) (hw : (w.alloc (.cells Ins.zero.cells 41)).setCells w.heap.size 0 i.cells.toList = w3) : Yp w3 d a pb s i M ∧ w3.heap[w.heap.size]? = some (.cells i.cells 41 (0, 0)) ∧ Upd [d, pb] w w3 := by
 obtain ⟨h1, h2⟩ := Yax (S := []) (w0 := w) hw (heap_alloc_new w (.cells Ins.zero.cells 41)) rfl ((Upd.refl [] w).alloc _) (.inr (Nat.le_refl _))
 exact ⟨h.keep h2 (by simp) (by simp) (by simp), h1, h2.mono (by simp)⟩
theorem Ygs (h : Yp w d a pb s i M) (o : Opd) (ho : o.Ok) (b : Int) : 0 ≤ opV M s o b ∧ opV M s o b < 4294967296 := by
 unfold opV
 split
 ·split
  ·unfold St.reg8; split <;> (have := h.ok.R (o.r % 8).toNat; have := h.ok.R ((o.r % 8).toNat - 4); omega)
  ·exact h.ok.R _
 ·split
  ·have hw : wd b = 1 ∨ wd b = 4 := by unfold wd; split <;> simp
   have := ho.imm
   rcases hw with e | e
   ·rw [e]
    show 0 ≤ o.imm % 256 ∧ o.imm % 256 < 4294967296
    omega
   ·rw [e]
    show 0 ≤ o.imm % 4294967296 ∧ o.imm % 4294967296 < 4294967296
    omega
  ·split
   ·exact Yei h.m _ _ _
   ·omega
end
theorem Ynt (d a pb : Nat) (s : St) (i : Ins) (M : Mem) (w : World) (h : Yp w d a pb s i M) (hop : i.op = 28) (hr : opK M s i.a 4 = true) (hk : M.writeK ((s.R 4 - 4) % 4294967296) 4 = true) :
  Calls Tryz.prog 53 #[.pointer (some ⟨d, 0, none⟩)] w fun e w' => e = .returned (.tuple #[]) ∧ Yp w' d a pb (s.setR 4 ((s.R 4 - 4) % 4294967296)) i (M.writeM ((s.R 4 - 4) % 4294967296) 4 (opV M s i.a 4)) ∧ Upd [d, pb] w w' := by
 have HD := Yh_ h
 have tokL : True := trivial
 have tokS : True := trivial
 have HI := Yh_ h.io
 have HR := Yh_ hr
 have HK := Yh_ hk
 have HV := Yh_ (Ygs h i.a h.io.a 4)
 clear hr hk
 clear h
 go_enter Tryz.func53, Tryz.ntmps53
 go_wp2_with (first | (have _t := tokL; clear _t tokL; refine Yaj 41 rfl ?_; refine wpList_load_mid rfl 41 _ rfl d 18 rfl i.cells.toList _ HD.out.ri Tryz.underlying41 rfl (by rw [Array.length_toList, Ins.size]; exact Ybx) ?_; rw [Array.toArray_toList]) | (have _t := tokS; clear _t tokS; refine Yd 41 rfl ?_; refine Yc i w.heap.size rfl _ _ rfl rfl rfl (heap_alloc_new w (.cells Ins.zero.cells 41)) rfl ?_; intro w3 hw; have h3 := Yea HD.out hw; have ci := Ya h3.2.1; unfold Ins.cells at ci; have H3 := Yh_ h3; clear hw h3) | (have _t := H3; clear _t; go_at_call 48; refine (Yhp d a pb s i M i.a 4 _ H3.out.1 HI.out.a HR.out).mono ?_; rintro e w4 ⟨rfl, hu⟩; have H4 := Yh_ (And.intro (H3.out.1.keep hu (by simp) (by simp) (by simp)) (H3.out.2.2.also hu (by simp))); clear hu H3 ci) | (have _t := H4; clear _t; go_at_call 79; refine (dpush_ok d a pb s i M (opV M s i.a 4) _ H4.out.1 HV.out HK.out).mono ?_; rintro e w5 ⟨rfl, hd, hu⟩; have H5 := Yh_ (And.intro hd (H4.out.2.also hu (fun x hx => .inl hx))); clear hd hu H4))
 go_end0
 exact ⟨rfl, H5.out.1, H5.out.2⟩
theorem Ymk (d a pb : Nat) (s : St) (i : Ins) (M : Mem) (w : World) (h : Yp w d a pb s i M) (hop : i.op = 28) (hr : opK M s i.a 4 = true) (hk : M.writeK ((s.R 4 - 4) % 4294967296) 4 = false) :
  Calls Tryz.prog 53 #[.pointer (some ⟨d, 0, none⟩)] w fun e w' => e = .panicked [{ v := .iface 35 (M.wrF ((s.R 4 - 4) % 4294967296) 4).val, recovered := false }] ∧ Yl w' a pb (M.writeM ((s.R 4 - 4) % 4294967296) 4 (opV M s i.a 4)) ∧ Upd [d, pb] w w' := by
 have HD := Yh_ h
 have tokL : True := trivial
 have tokS : True := trivial
 have HI := Yh_ h.io
 have HR := Yh_ hr
 have HK := Yh_ hk
 have HV := Yh_ (Ygs h i.a h.io.a 4)
 clear hr hk
 clear h
 go_enter Tryz.func53, Tryz.ntmps53
 go_wp2_with (first | (have _t := tokL; clear _t tokL; refine Yaj 41 rfl ?_; refine wpList_load_mid rfl 41 _ rfl d 18 rfl i.cells.toList _ HD.out.ri Tryz.underlying41 rfl (by rw [Array.length_toList, Ins.size]; exact Ybx) ?_; rw [Array.toArray_toList]) | (have _t := tokS; clear _t tokS; refine Yd 41 rfl ?_; refine Yc i w.heap.size rfl _ _ rfl rfl rfl (heap_alloc_new w (.cells Ins.zero.cells 41)) rfl ?_; intro w3 hw; have h3 := Yea HD.out hw; have ci := Ya h3.2.1; unfold Ins.cells at ci; have H3 := Yh_ h3; clear hw h3) | (have _t := H3; clear _t; go_at_call 48; refine (Yhp d a pb s i M i.a 4 _ H3.out.1 HI.out.a HR.out).mono ?_; rintro e w4 ⟨rfl, hu⟩; have H4 := Yh_ (And.intro (H3.out.1.keep hu (by simp) (by simp) (by simp)) (H3.out.2.2.also hu (by simp))); clear hu H3 ci) | (have _t := H4; clear _t; go_at_call 79; refine (Yo6 d a pb s i M (opV M s i.a 4) _ H4.out.1 HV.out HK.out).mono ?_; rintro e w5 ⟨rfl, hd, hu⟩; have H5 := Yh_ (And.intro hd (H4.out.2.also (S' := [pb]) hu (by simp))); clear hd hu H4))
 exact ⟨rfl, rfl, H5.out.1.m, H5.out.2⟩
theorem Yk9 (d a pb : Nat) (s s2 : St) (i : Ins) (M M2 : Mem) (w : World) (h : Yp w d a pb s i M) (hop : 28 ≤ i.op ∧ i.op ≤ 33)
  (hj : ∀ w1, Yp w1 d a pb s i M → Calls Tryz.prog 53 #[.pointer (some ⟨d, 0, none⟩)] w1 fun e w' => e = .returned (.tuple #[]) ∧ Yp w' d a pb s2 i M2 ∧ Upd [d, pb] w1 w') :
  Calls Tryz.prog 32 #[.pointer (some ⟨d, 0, none⟩)] w fun e w' => e = .returned (.tuple #[]) ∧ Yp w' d a pb s2 i M2 ∧ Upd [d, pb] w w' := by
 have HD := Yh_ h
 have tokL : True := trivial
 have tokS : True := trivial
 obtain ⟨op, ho⟩ : ∃ op, i.op = op := ⟨_, rfl⟩
 rw [ho] at hop
 have e1 : decide (3 ≤ op) = true := by simp; omega
 have e2 : decide (op ≤ 11) = false := by simp; omega
 have e3 : decide (12 ≤ op) = true := by simp; omega
 have e4 : decide (op ≤ 15) = false := by simp; omega
 have e5 : decide (21 ≤ op) = true := by simp; omega
 have e6 : decide (op ≤ 25) = false := by simp; omega
 have e7 : decide (16 ≤ op) = true := by simp; omega
 have e8 : decide (op ≤ 20) = false := by simp; omega
 have e9 : decide (45 ≤ op) = false := by simp; omega
 have e10 : decide (28 ≤ op) = true := by simp; omega
 have e11 : decide (op ≤ 33) = true := by simp; omega
 have HJ := Yh_ hj
 clear h hj hop
 go_enter Tryz.func32, Tryz.ntmps32
 go_wp2_with (first | (have _t := tokL; clear _t tokL; refine Yaj 41 rfl ?_; refine wpList_load_mid rfl 41 _ rfl d 18 rfl i.cells.toList _ HD.out.ri Tryz.underlying41 rfl (by rw [Array.length_toList, Ins.size]; exact Ybx) ?_; rw [Array.toArray_toList]) | (have _t := tokS; clear _t tokS; refine Yd 41 rfl ?_; refine Yc i w.heap.size rfl _ _ rfl rfl rfl (heap_alloc_new w (.cells Ins.zero.cells 41)) rfl ?_; intro w3 hw; have h3 := Yea HD.out hw; have ci := Ya h3.2.1; unfold Ins.cells at ci; have H3 := Yh_ h3; clear hw h3) | (have _t := H3; clear _t; go_at_call 53; refine (HJ.out _ H3.out.1).mono ?_; rintro e w5 ⟨rfl, hd, hu⟩; have H5 := Yh_ (And.intro hd (H3.out.2.2.also hu (fun x hx => .inl hx))); clear hd hu H3 ci))
 go_end0
 exact ⟨rfl, H5.out.1, H5.out.2⟩
theorem Yjh (d a pb : Nat) (s : St) (i : Ins) (M M2 : Mem) (F : Flt) (w : World) (h : Yp w d a pb s i M) (hop : 28 ≤ i.op ∧ i.op ≤ 33)
  (hj : ∀ w1, Yp w1 d a pb s i M → Calls Tryz.prog 53 #[.pointer (some ⟨d, 0, none⟩)] w1 fun e w' => e = .panicked [{ v := .iface 35 F.val, recovered := false }] ∧ Yl w' a pb M2 ∧ Upd [d, pb] w1 w') :
  Calls Tryz.prog 32 #[.pointer (some ⟨d, 0, none⟩)] w fun e w' => e = .panicked [{ v := .iface 35 F.val, recovered := false }] ∧ Yl w' a pb M2 ∧ Upd [d, pb] w w' := by
 have HD := Yh_ h
 have tokL : True := trivial
 have tokS : True := trivial
 obtain ⟨op, ho⟩ : ∃ op, i.op = op := ⟨_, rfl⟩
 rw [ho] at hop
 have e1 : decide (3 ≤ op) = true := by simp; omega
 have e2 : decide (op ≤ 11) = false := by simp; omega
 have e3 : decide (12 ≤ op) = true := by simp; omega
 have e4 : decide (op ≤ 15) = false := by simp; omega
 have e5 : decide (21 ≤ op) = true := by simp; omega
 have e6 : decide (op ≤ 25) = false := by simp; omega
 have e7 : decide (16 ≤ op) = true := by simp; omega
 have e8 : decide (op ≤ 20) = false := by simp; omega
 have e9 : decide (45 ≤ op) = false := by simp; omega
 have e10 : decide (28 ≤ op) = true := by simp; omega
 have e11 : decide (op ≤ 33) = true := by simp; omega
 have HJ := Yh_ hj
 clear h hj hop
 go_enter Tryz.func32, Tryz.ntmps32
 go_wp2_with (first | (have _t := tokL; clear _t tokL; refine Yaj 41 rfl ?_; refine wpList_load_mid rfl 41 _ rfl d 18 rfl i.cells.toList _ HD.out.ri Tryz.underlying41 rfl (by rw [Array.length_toList, Ins.size]; exact Ybx) ?_; rw [Array.toArray_toList]) | (have _t := tokS; clear _t tokS; refine Yd 41 rfl ?_; refine Yc i w.heap.size rfl _ _ rfl rfl rfl (heap_alloc_new w (.cells Ins.zero.cells 41)) rfl ?_; intro w3 hw; have h3 := Yea HD.out hw; have ci := Ya h3.2.1; unfold Ins.cells at ci; have H3 := Yh_ h3; clear hw h3) | (have _t := H3; clear _t; go_at_call 53; refine (HJ.out _ H3.out.1).mono ?_; rintro e w5 ⟨rfl, hd, hu⟩; have H5 := Yh_ (And.intro hd (H3.out.2.2.also hu (fun x hx => .inl hx))); clear hd hu H3 ci))
 skip
 exact ⟨rfl, rfl, H5.out.1, H5.out.2⟩
end
def bI (c : Bool) : Int := if c = true then 1 else 0
def sI (x : Int) : Int := if x < 2147483648 then x else x - 4294967296
def Yia (n : Int) : Bool := !(decide (-2147483648 ≤ n) && decide (n < 2147483648))
def Yd7 (a b : Int) (c : Bool) : Int := (a + b + bI c) % 4294967296
def addC (a b : Int) (c : Bool) : Bool := decide (4294967296 ≤ a + b + bI c)
def addO (a b : Int) (c : Bool) : Bool := Yia (sI a + sI b + bI c)
def Yd5 (a b : Int) (c : Bool) : Int := (a - b - bI c) % 4294967296
def subC (a b : Int) (c : Bool) : Bool := decide (a - b - bI c < 0)
def subO (a b : Int) (c : Bool) : Bool := Yia (sI a - sI b - bI c)
theorem Yko (c : Bool) : 0 ≤ bI c ∧ bI c ≤ 1 := by cases c <;> simp [bI]
theorem Yg0 (x : Int) (h : 0 ≤ x ∧ x < 4294967296) : wrap32 x = sI x := by unfold wrap32 sI; split <;> omega
theorem Yge (x : Int) (h : 0 ≤ x ∧ x < 4294967296) : -2147483648 ≤ sI x ∧ sI x < 2147483648 := by unfold sI; split <;> omega
theorem Yi3 (c : Bool) (w : World) : Calls Tryz.prog 129 #[.bool c] w fun e w' => e = .returned (.int .u64 (bI c)) ∧ w = w' := by
 cases c
 all_goals
  go_enter Tryz.func129, Tryz.ntmps129
  go_wp2
  go_ret
  exact ⟨rfl, rfl⟩
theorem Yjt (n : Int) (w : World) : Calls Tryz.prog 130 #[.int .i64 n] w fun e w' => e = .returned (.bool (Yia n)) ∧ w = w' := by
 have q : wrap64 (wrap32 n) = wrap32 n := by unfold wrap64 wrap32; omega
 have e : (n != wrap32 n) = Yia n := by
  unfold Yia wrap32
  rw [Bool.eq_iff_iff]
  simp only [bne_iff_ne, ne_eq, Bool.not_eq_true', Bool.and_eq_false_iff, decide_eq_false_iff_not]
  omega
 go_enter Tryz.func130, Tryz.ntmps130
 go_wp2
 go_ret
 exact ⟨rfl, rfl⟩
theorem u64w (x : Int) : IntKind.u64.wrap x = x % 18446744073709551616 := by
 simp [IntKind.wrap, IntKind.bits, IntKind.signed]
theorem Yks (a b : Int) (c : Bool) (w : World) (ha : 0 ≤ a ∧ a < 4294967296) (hb : 0 ≤ b ∧ b < 4294967296) : Calls Tryz.prog 98 #[.int .u32 a, .int .u32 b, .bool c] w fun e w' => e = .returned (.tuple #[.int .u32 (Yd7 a b c), .bool (addC a b c), .bool (addO a b c)]) ∧ w = w' := by
 have hc := Yko c
 have sa := Yge a ha
 have sb := Yge b hb
 have q0 : IntKind.u64.wrap a = a := by rw [u64w]; omega
 have q00 : IntKind.u64.wrap b = b := by rw [u64w]; omega
 have q1 : IntKind.u64.wrap (a + b) = a + b := by rw [u64w]; omega
 have q2 : IntKind.u64.wrap (a + b + bI c) = a + b + bI c := by rw [u64w]; omega
 have q3 := Yg0 a ha
 have q4 := Yg0 b hb
 have q5 : wrap64 (sI a) = sI a := by unfold wrap64; omega
 have q6 : wrap64 (sI b) = sI b := by unfold wrap64; omega
 have q7 : wrap64 (sI a + sI b) = sI a + sI b := by unfold wrap64; omega
 have q8 : wrap64 (bI c) = bI c := by unfold wrap64; omega
 have q9 : wrap64 (sI a + sI b + bI c) = sI a + sI b + bI c := by unfold wrap64; omega
 have hK : ((a + b + bI c) / 4294967296 != 0) = addC a b c := by
  rw [Bool.eq_iff_iff]
  simp only [bne_iff_ne, ne_eq, addC, decide_eq_true_eq]
  omega
 clear ha hb hc sa sb
 go_enter Tryz.func98, Tryz.ntmps98
 go_wp2_with (first | (go_at_call 129; refine (Yi3 c _).mono ?_; rintro e w' ⟨rfl, rfl⟩) | (go_at_call 130; refine (Yjt _ _).mono ?_; rintro e w' ⟨rfl, rfl⟩))
 exact bodyPost_ret (Yam rfl (Yai 6 rfl) (Yai 7 rfl) (Yai 8 rfl)) rfl ⟨rfl, rfl⟩
theorem Yk4 (a b : Int) (c : Bool) (w : World) (ha : 0 ≤ a ∧ a < 4294967296) (hb : 0 ≤ b ∧ b < 4294967296) : Calls Tryz.prog 99 #[.int .u32 a, .int .u32 b, .bool c] w fun e w' => e = .returned (.tuple #[.int .u32 (Yd5 a b c), .bool (subC a b c), .bool (subO a b c)]) ∧ w = w' := by
 have hc := Yko c
 have sa := Yge a ha
 have sb := Yge b hb
 obtain ⟨x, hx⟩ : ∃ x, (a - b - bI c) % 18446744073709551616 = x := ⟨_, rfl⟩
 have q0 : IntKind.u64.wrap a = a := by rw [u64w]; omega
 have q00 : IntKind.u64.wrap b = b := by rw [u64w]; omega
 obtain ⟨y, hy⟩ : ∃ y, (a - b) % 18446744073709551616 = y := ⟨_, rfl⟩
 have q1 : IntKind.u64.wrap (a - b) = y := by rw [u64w]; exact hy
 have q2 : IntKind.u64.wrap (y - bI c) = x := by rw [u64w]; omega
 have q3 := Yg0 a ha
 have q4 := Yg0 b hb
 have q5 : wrap64 (sI a) = sI a := by unfold wrap64; omega
 have q6 : wrap64 (sI b) = sI b := by unfold wrap64; omega
 have q7 : wrap64 (sI a - sI b) = sI a - sI b := by unfold wrap64; omega
 have q8 : wrap64 (bI c) = bI c := by unfold wrap64; omega
 have q9 : wrap64 (sI a - sI b - bI c) = sI a - sI b - bI c := by unfold wrap64; omega
 have qv : x % 4294967296 = Yd5 a b c := by unfold Yd5; omega
 have hK : (x / 4294967296 != 0) = subC a b c := by
  rw [Bool.eq_iff_iff]
  simp only [bne_iff_ne, ne_eq, subC, decide_eq_true_eq]
  omega
 clear ha hb hc sa sb hy hx
 go_enter Tryz.func99, Tryz.ntmps99
 go_wp2_with (first | (go_at_call 129; refine (Yi3 c _).mono ?_; rintro e w' ⟨rfl, rfl⟩) | (go_at_call 130; refine (Yjt _ _).mono ?_; rintro e w' ⟨rfl, rfl⟩))
 exact bodyPost_ret (Yam rfl (Yai 6 rfl) (Yai 7 rfl) (Yai 8 rfl)) rfl ⟨rfl, rfl⟩
theorem and_one (v : Int) (h0 : 0 ≤ v) (h1 : v < 4294967296) : bits .and .u32 v 1 = v % 2 := by
 obtain ⟨v, rfl⟩ := Int.eq_ofNat_of_zero_le h0
 have := u32_and_nat v 1 (by omega) (by decide)
 rw [Nat.and_one_is_mod] at this
 exact this
def oddB (x : Int) : Nat → Bool
 |0 => false
 |k + 1 => oddB x k != (x / 2 ^ k % 2 == 1)
def parB (x : Int) : Bool := !oddB x 8
theorem Yny (x : Int) (w : World) (hx : 0 ≤ x ∧ x < 4294967296) : Calls Tryz.prog 100 #[.int .u32 x] w fun e w' => e = .returned (.bool (parB x)) ∧ w = w' := by
 go_enter Tryz.func100, Tryz.ntmps100
 go_wp2_with fail
 go_loopw [3, 5] (fun o i wr => ∃ k : Nat, k ≤ 8 ∧ o = .bool (oddB x k) ∧ i = .int .i64 k ∧ w = wr) (fun _ i _ => 8 - (intOf i).toNat)
 case atStart => exact ⟨0, Nat.zero_le _, rfl, rfl, rfl⟩
 case round =>
  obtain ⟨k, hk, rfl, rfl, rfl⟩ := hrel
  by_cases hlt : k < 8
  ·have d1 : decide ((k : Int) < 8) = true := by simp; omega
   have hd := Int.ediv_nonneg hx.1 (show (0 : Int) ≤ 2 ^ k from Int.le_of_lt (Int.pow_pos (by decide)))
   have hd2 : x / 2 ^ k ≤ x := Int.ediv_le_self _ hx.1
   have qa := and_one (x / 2 ^ k) hd (by omega)
   have HX := Yh_ hx
   clear hd hd2 hx
   go_wp2_with fail
   exact ⟨⟨k + 1, by omega, by rw [oddB]; cases oddB x k <;> cases (x / 2 ^ k % 2 == 1) <;> rfl, rfl, trivial⟩, by simp [intOf]; omega⟩
  ·obtain rfl : k = 8 := by omega
   go_wp2_with fail
   go_ret
   exact ⟨rfl, rfl⟩
structure Fl where
 cf : Bool
 pf : Bool
 af : Bool
 zf : Bool
 sf : Bool
 of_ : Bool
def Fl.cells (f : Fl) : Array Value := #[.bool f.cf, .bool f.pf, .bool f.af, .bool f.zf, .bool f.sf, .bool f.of_]
def Fl.zero : Fl := ⟨false, false, false, false, false, false⟩
def St.fl (s : St) : Fl := ⟨s.cf, s.pf, s.af, s.zf, s.sf, s.of_⟩
def St.setFl (s : St) (f : Fl) : St := { s with cf := f.cf, pf := f.pf, af := f.af, zf := f.zf, sf := f.sf, of_ := f.of_ }
def Fl.by (f : Fl) (r : Int) : Fl := { f with zf := r == 0, sf := decide (2147483648 ≤ r), pf := parB r }
def addF (a b : Int) (c : Bool) : Fl := Fl.by ⟨addC a b c, false, decide (15 < Yd7 (a % 16) (b % 16) c), false, false, addO a b c⟩ (Yd7 a b c)
def Yeu (a b : Int) (c : Bool) : Fl := Fl.by ⟨subC a b c, false, subC (a % 16) (b % 16) c, false, false, subO a b c⟩ (Yd5 a b c)
def Ybr (op a b : Int) (f : Fl) : Int :=
 if op = 3 then Yd7 a b false else if op = 5 then Yd7 a b f.cf else if op = 8 then Yd5 a b false else if op = 6 then Yd5 a b f.cf
 else if op = 7 then bits .and .u32 a b else if op = 4 then bits .or .u32 a b else if op = 9 then bits .xor .u32 a b
 else if op = 12 then Yd7 a 1 false else if op = 13 then Yd5 a 1 false else if op = 15 then Yd5 0 a false else if op = 14 then bits .xor .u32 IntKind.u32.max a else a
def Ya9 (op a b : Int) (f : Fl) : Fl :=
 if op = 3 then addF a b false else if op = 5 then addF a b f.cf else if op = 8 ∨ op = 10 then Yeu a b false else if op = 6 then Yeu a b f.cf
 else if op = 7 ∨ op = 11 then Fl.by Fl.zero (bits .and .u32 a b) else if op = 4 then Fl.by Fl.zero (bits .or .u32 a b) else if op = 9 then Fl.by Fl.zero (bits .xor .u32 a b)
 else if op = 12 then { addF a 1 false with cf := f.cf } else if op = 13 then { Yeu a 1 false with cf := f.cf } else if op = 15 then Yeu 0 a false else f
theorem Yio : (Tryz.prog.info? 25).map (·.size) = some 6 := by kernel_rfl
theorem Yce {tmps : Array Value} {w : World} (a : Tmp) (b : Nat) (f : Fl) (ha : tmps.getD a undef = .pointer (some ⟨b, 0, none⟩)) (hb : w.heap[b]? = some (.cells f.cells 25 (0, 0))) :
  (Ybh tmps (.cell a 25)).run Tryz.prog w = .ok (.agg f.cells) w :=
 Yba a 25 b _ _ ha hb Tryz.underlying25 rfl Yio
theorem Yfx (f : Fl) (r : Int) (w : World) (hr : 0 ≤ r ∧ r < 4294967296) : Calls Tryz.prog 63 #[.agg f.cells, .int .u32 r] w fun e w' => e = .returned (.agg (f.by r).cells) ∧ Upd [] w w' := by
 have qs : (r / 2147483648 == 1) = decide (2147483648 ≤ r) := by
  rw [Bool.eq_iff_iff]
  simp only [beq_iff_eq, decide_eq_true_eq]
  omega
 have HR := Yh_ hr
 obtain ⟨p, hp⟩ : ∃ p, parB r = p := ⟨_, rfl⟩
 have HP := Yh_ hp
 obtain ⟨c, d, e, z, n, o⟩ := f
 clear hr hp
 unfold Fl.cells
 go_enter Tryz.func63, Tryz.ntmps63
 go_wp2_with (go_at_call 100; refine (Yny r _ HR.out).mono ?_; rintro e w' ⟨rfl, rfl⟩; rw [HP.out])
 refine bodyPost_ret (Ye rfl (Yce 4 (w.heap.size + 1) (Fl.by ⟨c, d, e, z, n, o⟩ r) rfl ?_)) rfl ⟨rfl, ((Upd.refl [] w).alloc _).alloc _⟩
 rw [Fl.by, HP.out]
 exact heap_alloc2_new _ _ _
end Go.Proofs.YthakgjpejhjaoaaGreat
