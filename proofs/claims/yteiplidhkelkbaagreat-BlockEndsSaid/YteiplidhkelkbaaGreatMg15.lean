/-
  Parts of the proof (their names shortened by a program). No condition.
-/
import Derived.Test.YteiplidhkelkbaaGreatMg01
import Derived.Test.YteiplidhkelkbaaGreatMg14
import Derived.Maps.AppendAt
import Derived.OwnWalk
import Derived.ChangeSlices
import Derived.Test.YteiplidhkelkbaaGreatMg03
import Derived.ChangeKeysEq
import Derived.Lib.SliceRun
import Derived.Test.YteiplidhkelkbaaGreatMg05
import Derived.Test.YteiplidhkelkbaaGreatMg06
import Derived.Test.YteiplidhkelkbaaGreatMg04
namespace Go.Proofs.YteiplidhkelkbaaGreat
open Go Go.RowKit
set_option linter.unusedVariables false
set_option linter.unusedSimpArgs false
set_option maxRecDepth 100000
set_option maxHeartbeats 16000000
section
open Go.WideShapes Go.ChangeShapes
theorem BOk.app {L M : List Int} (h : BOk L) (k : BOk M) : BOk (L ++ M) := by
 intro i
 rw [List.getD_eq_getElem?_getD]
 by_cases hi : i < L.length
 ·rw [List.getElem?_append_left hi, ← List.getD_eq_getElem?_getD]; exact h i
 ·rw [List.getElem?_append_right (by omega), ← List.getD_eq_getElem?_getD]; exact k _
theorem BOk.take {L : List Int} (h : BOk L) (n : Nat) : BOk (L.take n) := by
 intro i
 rw [List.getD_eq_getElem?_getD, List.getElem?_take]
 split
 ·rw [← List.getD_eq_getElem?_getD]; exact h i
 ·simp
theorem Yf6.keep {w w' : World} {v : Value} {L : List Int} {g : Nat} (h : Yf6 w v L g) (u : Upd [] w w') : Yf6 w' v L g :=
 ⟨h.b.keep u (by simp), h.n, h.r, h.c, Nat.le_trans h.g u.size⟩
def Own (w : World) (base : Nat) (v : Value) (L : List Int) : Prop := w.ownsRow base 5 1 v L.length (L.map (Value.int .u8))
theorem own_nil (w : World) (base : Nat) : Own w base (.slice none 0 0) [] := ⟨rfl, .inl ⟨rfl, rfl⟩⟩
theorem own_lit (w : World) (base : Nat) (L : List Int) (C : Array Value) (hC : C.toList = L.map (.int .u8)) (hb : base ≤ w.heap.size) (hn : L.length ≤ maxLen) :
  Own (w.alloc (.cells C 5)) base (.slice (some ⟨w.heap.size, 0, none⟩) L.length L.length) L := by
 have hs : C.size = L.length := by rw [← Array.length_toList, hC, List.length_map]
 refine ⟨by simp, .inr ⟨w.heap.size, L.length, C, rfl, hb, heap_alloc_new w _, Nat.le_refl _, hn, by omega, ?_⟩⟩
 rw [hC, Nat.mul_one, List.take_of_length_le (by simp)]
theorem Own.barg {w : World} {base : Nat} {v : Value} {L : List Int} (h : Own w base v L) (hr : BOk L) (hn : L.length ≤ maxLen) : ∃ g, Yf6 w v L g ∧ (v.ownBlock = none ∨ (v.ownBlock = some g ∧ base ≤ g ∧ g < w.heap.size)) := by
 rcases h.2 with ⟨rfl, h0⟩ | ⟨g, cap, cur, rfl, hb, hg, hnc, hcm, hs, ht⟩
 ·have : L = [] := List.eq_nil_of_length_eq_zero h0
  subst this
  exact ⟨0, ⟨.inl ⟨rfl, rfl⟩, Nat.zero_le _, hr, fun b n c e => by injection e; omega, Nat.zero_le _⟩, .inl rfl⟩
 ·refine ⟨g, ⟨.inr ⟨0, cap, cur, _, _, rfl, hg, fun i hi => ?_⟩, hn, hr, fun b n c e => by injection e; omega, Nat.le_of_lt (Yv hg)⟩, .inr ⟨rfl, hb, Yv hg⟩⟩
  have e : (cur.toList.take (L.length * 1))[i]? = some (.int .u8 (L.getD i 0)) := by
   rw [ht, List.getElem?_map, List.getD_eq_getElem?_getD, List.getElem?_eq_getElem hi]; rfl
  rw [Nat.mul_one, List.getElem?_take, if_pos hi, Array.getElem?_toList] at e
  rw [Nat.zero_add]; exact e
theorem Own.keep {w w' : World} {base : Nat} {v : Value} {L : List Int} {S : List Nat} (h : Own w base v L) (u : Upd S w w') (hS : ∀ g, v.ownBlock = some g → g ∉ S) : Own w' base v L := by
 refine ⟨h.1, ?_⟩
 rcases h.2 with h0 | ⟨g, cap, cur, rfl, hb, hg, hr⟩
 ·exact .inl h0
 ·exact .inr ⟨g, cap, cur, rfl, hb, u.get hg (hS g rfl), hr⟩
theorem Own.block {w : World} {base : Nat} {v : Value} {L : List Int} (h : Own w base v L) : ∀ g, v.ownBlock = some g → base ≤ g ∧ g < w.heap.size := by
 intro g e
 rcases h.2 with ⟨rfl, _⟩ | ⟨g', cap, cur, rfl, hb, hg, hr⟩
 ·cases e
 ·simp only [Value.ownBlock, Option.some.injEq] at e
  subst e
  exact ⟨hb, Yv hg⟩
theorem Yje {w : World} {base : Nat} {v : Value} {L : List Int} (h : Own w base v L) {b : Nat} {c : Array Value} {t : TypeId} {f : Nat × Nat} (hb : w.heap[b]? = some (.cells c t f)) (ht : t ≠ 5) : v.ownBlock ≠ some b := by
 intro e
 rcases h.2 with ⟨rfl, _⟩ | ⟨g', cap, cur, rfl, _, hg, hr⟩
 ·cases e
 ·simp only [Value.ownBlock, Option.some.injEq] at e
  subst e
  rw [hb] at hg
  injection hg with hg
  injection hg with _ h1
  exact ht h1
structure Yhl (w : World) (base : Nat) (v : Value) (L : List Int) (v' : Value) (w' : World) : Prop where
 o : Own w' base v' L
 u : Upd v.ownBlock.toList w w'
 b : v'.ownBlock = v.ownBlock ∨ v'.ownBlock = some w.heap.size
theorem Yml (w : World) (base : Nat) (ty : TypeId) (v : Value) (L : List Int) (hown : Own w base v L) (vb : Value) (M : List Int) (g : Nat) (hb : Ybz w vb M g) (hn : L.length + M.length ≤ 10000) (hbase : base ≤ w.heap.size) :
  ∃ v' w', (Builtin.append_ #[45, 45] ty #[v, vb]).run Tryz.prog w = .ok v' w' ∧ Yhl w base v (L ++ M) v' w' := by
 obtain ⟨i, hi, hz0, hz1, hz2⟩ := info_parts Yq6
 have key : ∀ (a : Addr) (m c : Nat), M.length = m → (∀ j u, (M.map (Value.int .u8))[j]? = some u → w.cell? (a.add j) = some u) → ∃ v' w', (Builtin.append_ #[45, 45] ty #[v, .slice (some a) m c]).run Tryz.prog w = .ok v' w' ∧ Yhl w base v (L ++ M) v' w' := by
  intro a m c hm hc
  subst hm
  obtain ⟨v', w', h1, h2, h3, _, h5⟩ := run_append_own_at (P := Tryz.prog) w base 45 ty 5 i _ 1 1 Tryz.underlying45 hi hz0 hz1 hz2 rfl (by decide) v L.length _ hown a M.length c (M.map (Value.int .u8)) (by simp) hc
   (by intro u hu; simp only [List.mem_map] at hu; obtain ⟨z, _, rfl⟩ := hu; rfl) (by unfold maxLen; omega) (by omega) hbase
  refine ⟨v', w', h1, ?_, Upd.of_grown h3, h5⟩
  unfold Own
  rw [List.length_append, List.map_append]
  exact h2
 rcases hb with ⟨rfl, rfl⟩ | ⟨o, c, C, T, f, rfl, hg, hc⟩
 ·refine ⟨v, w, ?_, ?_, Upd.refl _ _, .inl rfl⟩
  ·rcases hown.2 with ⟨rfl, h0⟩ | ⟨g, cap, cur, rfl, _, _, hnc, _⟩
   ·simp [Builtin.append_, run_underlying Tryz.underlying45, sizeOf, typeInfo, hi, Builtin.lenOf, Builtin.firstCells]
   ·simp [Builtin.append_, run_underlying Tryz.underlying45, sizeOf, typeInfo, hi, Builtin.lenOf, Builtin.firstCells, hnc, storeCells]
  ·rw [List.append_nil]; exact hown
 ·refine key _ _ _ rfl fun j u hu => ?_
  have hj : j < M.length := by
   have := (List.getElem?_eq_some_iff.1 hu).1
   simpa using this
  rw [Addr.add_lit, Ya hg, hc j hj]
  rw [List.getElem?_map, List.getElem?_eq_getElem hj] at hu
  simp only [Option.map_some, Option.some.injEq] at hu
  rw [List.getD_eq_getElem?_getD, List.getElem?_eq_getElem hj, Option.getD_some, hu]
theorem Yh6 {ops : Array Oper} {rest : List Oper} {o : Oper} {a : Act} {w : World} {Q : Exit → Act → World → Prop} (hgd : o.guard = none) (s x : Operand)
  (ho : o.op = .call { callee := .builtin .append, args := #[s, x], argTypes := #[45, 45] })
  (base : Nat) (v : Value) (L : List Int) (hs : a.eval s = v) (hown : Own w base v L) (vb : Value) (M : List Int) (g : Nat) (hx : a.eval x = vb) (hb : Ybz w vb M g) (hn : L.length + M.length ≤ 10000) (hbase : base ≤ w.heap.size)
  (h : ∀ v' w', Yhl w base v (L ++ M) v' w' → wpList Tryz.prog ops Q rest (a.put o.dst v') w') : wpList Tryz.prog ops Q (o :: rest) a w := by
 refine wpList_plain hgd fun _ hK => ?_
 obtain ⟨v', w', hr, h2⟩ := Yml w base o.type v L hown vb M g hb hn hbase
 unfold Oper.wp execOp
 simp only [ho, resolve, invoke, builtin, Sem.run_bind, Sem.run_pure, Result.andThen_ok, List.map_toArray, List.map_cons, List.map_nil, hs, hx, hr]
 exact hK _ _ (h v' w' h2)
end
theorem Yd7 {P : Program} {w : World} {d : Nat} {xs ys : Array Value} {f : Field} {fs : List Field} {u v : Value} {b c : Bool} (hne : (f.name ≠ "_") = True)
  (hx : (part f.type xs f.offset).run P w = .ok u w) (hy : (part f.type ys f.offset).run P w = .ok v w) (he : (Op.equalIn d f.type u v).run P w = .ok b w) (hr : (Op.eqFields d xs ys fs).run P w = .ok c w) :
  (Op.eqFields d xs ys (f :: fs)).run P w = .ok (b && c) w := by
 simp only [Op.eqFields, hne, if_true]
 rw [Sem.run_bind, hx, Result.andThen_ok, Sem.run_bind, hy, Result.andThen_ok, Sem.run_bind, he, Result.andThen_ok]
 cases b
 ·rfl
 ·simp only [Bool.not_true, Bool.false_eq_true, if_false]
  rw [hr]; rfl
theorem Ynv {P : Program} {w : World} {d : Nat} {xs ys : Array Value} : (Op.eqFields d xs ys []).run P w = .ok true w := rfl
def Opd.eqB (a b : Opd) : Bool := ((a.k == b.k) && ((a.r == b.r) && ((a.imm == b.imm) && ((a.b == b.b) && ((a.x == b.x) && ((a.sc == b.sc) && true))))))
def Ins.eqB (i j : Ins) : Bool := ((i.op == j.op) && ((i.cond == j.cond) && (i.a.eqB j.a && (i.b.eqB j.b && ((i.rep == j.rep) && ((i.len == j.len) && true))))))
theorem Opd.eqB_self (a : Opd) : a.eqB a = true := by simp [Opd.eqB]
theorem Ins.eqB_self (i : Ins) : i.eqB i = true := by simp [Ins.eqB, Opd.eqB_self]
theorem Opd.eqB_iff (a b : Opd) : a.eqB b = true ↔ a = b := by
 constructor
 ·intro h
  simp only [Opd.eqB, Bool.and_eq_true, beq_iff_eq, and_true] at h
  exact Opd.ext' h.1 h.2.1 h.2.2.1 h.2.2.2.1 h.2.2.2.2.1 h.2.2.2.2.2
 ·rintro rfl; exact a.eqB_self
theorem Ins.eqB_iff (i j : Ins) : i.eqB j = true ↔ i = j := by
 constructor
 ·intro h
  simp only [Ins.eqB, Bool.and_eq_true, beq_iff_eq, and_true, Opd.eqB_iff] at h
  obtain ⟨h1, h2, h3, h4, h5, h6⟩ := h
  cases i; cases j; simp_all
 ·rintro rfl; exact i.eqB_self
theorem Yid (a b : Opd) (w : World) (d : Nat) : (Op.equalIn (d + 1 + 1) 40 (.agg a.cells) (.agg b.cells)).run Tryz.prog w = .ok (a.eqB b) w := by
 have hf : Tryz.prog.fieldsOf 40 = #[{ name := "Kind", type := 3, offset := 0, embedded := false, tag := "", pkgPath := "", byteOffset := 0 }, { name := "Reg", type := 3, offset := 1, embedded := false, tag := "", pkgPath := "", byteOffset := 8 },
  { name := "Imm", type := 23, offset := 2, embedded := false, tag := "", pkgPath := "", byteOffset := 16 }, { name := "Base", type := 3, offset := 3, embedded := false, tag := "", pkgPath := "", byteOffset := 24 },
  { name := "Index", type := 3, offset := 4, embedded := false, tag := "", pkgPath := "", byteOffset := 32 }, { name := "Scale", type := 23, offset := 5, embedded := false, tag := "", pkgPath := "", byteOffset := 40 }] := by kernel_rfl
 have hu : Tryz.prog.underlying 40 = some (.struct (Tryz.prog.fieldsOf 40)) := by kernel_rfl
 have hp : Tryz.prog.plainKey 3 = true := by kernel_rfl
 have hp32 : Tryz.prog.plainKey 23 = true := by kernel_rfl
 have hi := fun (x y : Int) => run_equalIn_int (P := Tryz.prog) w d 3 .i64 .i64 x y Tryz.underlying3
 have h32 := fun (x y : Int) => run_equalIn_int (P := Tryz.prog) w d 23 .u32 .u32 x y Tryz.underlying23
 rw [run_equalIn_struct w _ 40 _ _ hu (Tryz.stoodInHeld40), hf]
 exact Yd7 (by decide) (run_part_plain w hp rfl) (run_part_plain w hp rfl) (hi _ _) (Yd7 (by decide) (run_part_plain w hp rfl) (run_part_plain w hp rfl) (hi _ _) (Yd7 (by decide) (run_part_plain w hp32 rfl) (run_part_plain w hp32 rfl) (h32 _ _)
  (Yd7 (by decide) (run_part_plain w hp rfl) (run_part_plain w hp rfl) (hi _ _) (Yd7 (by decide) (run_part_plain w hp rfl) (run_part_plain w hp rfl) (hi _ _) (Yd7 (by decide) (run_part_plain w hp32 rfl) (run_part_plain w hp32 rfl) (h32 _ _) Ynv)))))
theorem Yei (a b : Opd) (w : World) : (binOp .eql 40 (.agg a.cells) (.agg b.cells)).run Tryz.prog w = .ok (.bool (a.eqB b)) w := by
 have h := Yid a b w 9998
 rw [run_eql_struct]
 rw [show (10000 : Nat) = 9998 + 1 + 1 from rfl, h, Result.andThen_ok]
section
structure Gr (w : World) (bt : Nat) (o : Obj) (l : List (Nat × Ins)) (w1 : World) : Prop where
 t : w1.heap[bt]? = some o
 i : ∀ p, p ∈ l → w1.heap[p.1]? = some (.cells p.2.cells 42 (0, 0))
 u : Upd [] w w1
 n : w.heap.size ≤ bt
theorem Gr.step {w w1 w2 : World} {bt : Nat} {o : Obj} {l : List (Nat × Ins)} (h : Gr w bt o l w1) (u : Upd [] w1 w2) : Gr w bt o l w2 :=
 ⟨u.get h.t (by simp), fun p hp => u.get (h.i p hp) (by simp), h.u.also u (by simp), h.n⟩
theorem Gr.lay {w w1 w2 : World} {bt : Nat} {o : Obj} {l : List (Nat × Ins)} (h : Gr w bt o l w1) (j : Ins) (hw : (w1.alloc (.cells Ins.zero.cells 42)).setCells w1.heap.size 0 j.cells.toList = w2) : Gr w bt o ((w1.heap.size, j) :: l) w2 := by
 obtain ⟨z1, z2⟩ := Yau (S := []) (w0 := w1) hw (heap_alloc_new w1 (.cells Ins.zero.cells 42)) rfl ((Upd.refl [] w1).alloc _) (.inr (Nat.le_refl _))
 have h2 := h.step z2
 refine ⟨h2.t, fun p hp => ?_, h2.u, h.n⟩
 rcases List.mem_cons.1 hp with rfl | hp
 ·exact z1
 ·exact h2.i p hp
theorem Gr.lt {w w1 : World} {bt : Nat} {o : Obj} {l : List (Nat × Ins)} (h : Gr w bt o l w1) : bt < w1.heap.size := Yv h.t
structure GrD (w : World) (bt : Nat) (o : Obj) (l : List (Nat × Ins)) (I : Ins) (i k : Nat) (d : Nat → Bool) (r : Nat → Value) (w1 : World) : Prop where
 b : Gr w bt o l w1
 x : d i = true → ∃ g Z, r i = .pointer (some ⟨g, 0, none⟩) ∧ w1.heap[g]? = some (.cells Z 42 (0, 0)) ∧ Z.size = 16 ∧ (d k = true → Z = I.cells) ∧ g ≠ bt ∧ w.heap.size ≤ g ∧ ∀ p, p ∈ l → p.1 ≠ g
 o : d k = true → d i = true
 ne : i ≠ k
section
variable {w w1 w2 : World} {bt : Nat} {o : Obj} {l : List (Nat × Ins)} {I : Ins} {i k : Nat} {d : Nat → Bool} {r : Nat → Value}
theorem GrD.start (h : Gr w bt o l w1) (ne : i ≠ k) (r : Nat → Value) : GrD w bt o l I i k (fun _ => false) r w1 :=
 ⟨h, fun h => (by cases h), fun h => (by cases h), ne⟩
theorem GrD.quiet (h : GrD w bt o l I i k d r w1) (hu : Upd [] w1 w2) (m : Nat) (h1 : i ≠ m) (h2 : k ≠ m) : GrD w bt o l I i k (Ybq d m) r w2 := by
 refine ⟨h.b.step hu, fun hx => ?_, fun ho => ?_, h.ne⟩
 ·rw [Ydi h1] at hx
  obtain ⟨g, Z, e1, e2, e3, e4, e5⟩ := h.x hx
  exact ⟨g, Z, e1, hu.get e2 (by simp), e3, fun hk => e4 (by rwa [Ydi h2] at hk), e5⟩
 ·rw [Ydi h2] at ho; rw [Ydi h1]; exact h.o ho
theorem GrD.same (h : GrD w bt o l I i k d r w1) (m : Nat) (h1 : i ≠ m) (h2 : k ≠ m) : GrD w bt o l I i k (Ybq d m) r w1 := h.quiet (Upd.refl [] w1) m h1 h2
theorem GrD.lay (h : GrD w bt o l I i k d r w1) (hd : d i = false) : GrD w bt o l I i k (Ybq d i) (Ygt r i (.pointer (some ⟨w1.heap.size, 0, none⟩))) (w1.alloc (.cells Ins.zero.cells 42)) := by
 refine ⟨h.b.step ((Upd.refl [] w1).alloc _), fun _ => ⟨_, _, bV_eq, heap_alloc_new _ _, rfl, fun hk => ?_, ?_, h.b.u.size, fun p hp e => ?_⟩, fun _ => bD_eq, h.ne⟩
 ·rw [Ydi h.ne.symm] at hk
  rw [h.o hk] at hd; cases hd
 ·have := h.b.lt; omega
 ·have := Yv (h.b.i p hp); omega
theorem GrD.store (h : GrD w bt o l I i k d r w1) (hd : d i = true) {g : Nat} {Z : Array Value} (hg : r i = .pointer (some ⟨g, 0, none⟩)) (hb : w1.heap[g]? = some (.cells Z 42 (0, 0))) (hZ : Z.size = 16) (hn : g ≠ bt ∧ w.heap.size ≤ g ∧ ∀ p, p ∈ l → p.1 ≠ g) :
  GrD w bt o l I i k (Ybq d k) r (w1.setCells g 0 I.cells.toList) := by
 have hu : Upd [g] w1 (w1.setCells g 0 I.cells.toList) := (Upd.refl [g] w1).setCells (.inl (by simp)) _ _
 refine ⟨⟨hu.get h.b.t (by simp; exact fun e => hn.1 e.symm), fun p hp => hu.get (h.b.i p hp) (by simp; exact hn.2.2 p hp), h.b.u.also hu (by simp; exact hn.2.1), h.b.n⟩, fun _ => ⟨g, I.cells, hg, ?_, I.size, fun _ => rfl, hn⟩, fun _ => by rw [Ydi h.ne]; exact hd, h.ne⟩
 rw [Ybw _ _ _ _ hb, wr_ins Z I hZ]
theorem GrD.fin (h : GrD w bt o l I i k d r w1) (hi : d i = true) (hk : d k = true) : ∃ g, r i = .pointer (some ⟨g, 0, none⟩) ∧ Gr w bt o ((g, I) :: l) w1 := by
 obtain ⟨g, Z, e1, e2, e3, e4, e5⟩ := h.x hi
 rw [e4 hk] at e2
 refine ⟨g, e1, h.b.t, fun p hp => ?_, h.b.u, h.b.n⟩
 rcases List.mem_cons.1 hp with rfl | hp
 ·exact e2
 ·exact h.b.i p hp
end
end
section
theorem BOk.cons {c : Int} {L : List Int} (hc : 0 ≤ c ∧ c ≤ 255) (h : BOk L) : BOk (c :: L) := by
 intro i
 cases i with
 |zero => simpa using hc
 |succ i => simpa using h i
theorem BOk.nil : BOk [] := fun i => by simp
structure Dn (w : World) (v : Value) (L : List Int) (w1 : World) : Prop where
 u : Upd [] w w1
 o : Own w1 w.heap.size v L
section
variable {w w1 w2 : World} {v v' : Value} {L N : List Int}
theorem Dn.start (h : Upd [] w w1) : Dn w (.slice none 0 0) [] w1 := ⟨h, own_nil _ _⟩
theorem Dn.step (h : Dn w v L w1) (u : Upd [] w1 w2) : Dn w v L w2 := ⟨h.u.also u (by simp), h.o.keep u (by simp)⟩
theorem Dn.ins (h : Dn w v L w1) {j : Ins} (hw : (w1.alloc (.cells Ins.zero.cells 42)).setCells w1.heap.size 0 j.cells.toList = w2) : Dn w v L w2 := by
 obtain ⟨_, z2⟩ := Yau (S := []) (w0 := w1) hw (heap_alloc_new w1 (.cells Ins.zero.cells 42)) rfl ((Upd.refl [] w1).alloc _) (.inr (Nat.le_refl _))
 exact h.step z2
theorem Dn.lit (h : Dn w v L w1) (C : Array Value) (N : List Int) (hC : C.toList = N.map (.int .u8)) (hn : N.length ≤ maxLen) :
  Own (w1.alloc (.cells C 5)) w.heap.size (.slice (some ⟨w1.heap.size, 0, none⟩) N.length N.length) N := own_lit w1 _ N C hC h.u.size hn
theorem Dn.app (h : Dn w v L w1) {C : Array Value} {n : Nat} (hg : Yhl (w1.alloc (.cells C 5)) w.heap.size (.slice (some ⟨w1.heap.size, 0, none⟩) n n) N v' w2) : Dn w v L w2 := by
 have hu : Upd [] w w2 := (h.u.alloc _).also hg.u (by intro x hx; simp [Value.ownBlock] at hx; subst hx; exact .inr h.u.size)
 exact ⟨hu, (h.o.keep ((Upd.refl [] w1).alloc _) (by simp)).keep hg.u (by intro g e hx; simp [Value.ownBlock] at hx; have := (h.o.block g e).2; omega)⟩
theorem Dn.grow (h : Dn w v L w1) (hg : Yhl w1 w.heap.size v N v' w2) : Dn w v' N w2 :=
 ⟨h.u.also hg.u (by intro x hx; cases hv : v.ownBlock with | none => rw [hv] at hx; simp at hx | some g => rw [hv] at hx; simp at hx; exact .inr (by have := (h.o.block g hv).1; omega)), hg.o⟩
theorem Dn.take (h : Dn w v L w1) {C : Array Value} {n : Nat} (hg : Yhl (w1.alloc (.cells C 5)) w.heap.size (.slice (some ⟨w1.heap.size, 0, none⟩) n n) N v' w2) : Dn w v' N w2 := ⟨(h.app hg).u, hg.o⟩
end
end
section
structure Fm (w : World) (v : Value) (L : List Int) (ob : Nat) (o : Opd) (w1 : World) : Prop where
 d : Dn w v L w1
 o : w1.heap[ob]? = some (.cells o.cells 40 (0, 0))
 n : w.heap.size ≤ ob
section
variable {w w1 w2 : World} {v v' : Value} {L N : List Int} {ob : Nat} {o o' : Opd}
theorem Fm.step (h : Fm w v L ob o w1) (u : Upd [] w1 w2) : Fm w v L ob o w2 := ⟨h.d.step u, u.get h.o (by simp), h.n⟩
theorem Fm.grow (h : Fm w v L ob o w1) (hg : Yhl w1 w.heap.size v N v' w2) : Fm w v' N ob o w2 := by
 refine ⟨h.d.grow hg, hg.u.get h.o ?_, h.n⟩
 intro hx
 have := Yje h.d.o h.o (by decide)
 cases hv : v.ownBlock with
 |none => rw [hv] at hx; simp at hx
 |some g => rw [hv] at hx this; simp at hx; subst hx; exact this rfl
theorem Fm.touch (h : Fm w v L ob o w1) (u : Upd [ob] w1 w2) (ho : w2.heap[ob]? = some (.cells o'.cells 40 (0, 0))) : Fm w v L ob o' w2 := by
 refine ⟨⟨h.d.u.also u (by simp; exact h.n), h.d.o.keep u ?_⟩, ho, h.n⟩
 intro g hg hx
 simp at hx
 subst hx
 exact Yje h.d.o h.o (by decide) hg
theorem Fm.set (h : Fm w v L ob o w1) (j : Nat) (x : Value) (ho : o.cells.setIfInBounds j x = o'.cells) : Fm w v L ob o' (w1.setCell ⟨ob, j, none⟩ x) := by
 have u : Upd [ob] w1 (w1.setCell ⟨ob, j, none⟩ x) := (Upd.refl _ w1).setCell (by simp) _
 have ho' := Ys h.o j x
 rw [ho] at ho'
 exact h.touch u ho'
theorem Fm.all (h : Fm w v L ob o w1) (hw : w1.setCells ob 0 o'.cells.toList = w2) : Fm w v L ob o' w2 := by
 obtain ⟨z1, z2⟩ := Yc0 hw h.o rfl
 exact h.touch z2 z1
theorem Fm.start {w0 : World} (h : Upd [] w w0) (C : Array Value) (N : List Int) (hC : C.toList = N.map (.int .u8)) (hn : N.length ≤ maxLen) :
  Fm w (.slice (some ⟨w0.heap.size, 0, none⟩) N.length N.length) N (w0.heap.size + 1) o ((w0.alloc (.cells C 5)).alloc (.cells o.cells 40)) := by
 have h1 := heap_alloc_new (w0.alloc (.cells C 5)) (.cells o.cells 40)
 rw [show (w0.alloc (.cells C 5)).heap.size = w0.heap.size + 1 by simp] at h1
 exact ⟨⟨(h.alloc _).alloc _, ((Dn.start h).lit C N hC hn).keep ((Upd.refl [] _).alloc _) (by simp)⟩, h1, by have := h.size; omega⟩
end
theorem Yhl.form {w : World} {base : Nat} {v : Value} {L : List Int} {v' : Value} {w' : World} (h : Yhl w base v L v' w') (n : Nat) (hn : L.length = n) : ∃ b c, v' = .slice b n c := by
 subst hn
 exact Yh3 h.o
theorem Yrf (w : World) (M : List Int) (C : Array Value) (T : TypeId) (hC : C.toList = M.map (.int .u8)) : Ybz (w.alloc (.cells C T)) (.slice (some ⟨w.heap.size, 0, none⟩) M.length M.length) M w.heap.size := by
 refine .inr ⟨0, M.length, C, T, _, rfl, heap_alloc_new w _, fun i hi => ?_⟩
 rw [Nat.zero_add, ← Array.getElem?_toList, hC, List.getElem?_map, List.getD_eq_getElem?_getD, List.getElem?_eq_getElem hi]
 rfl
end
section
structure FeR where
 i : Ins
 f : Flt
 k : Bool
def Ycr (M : Mem) (pc : Int) : Nat → List Int → FeR
 |0, _ => ⟨Ins.zero, ⟨4, pc, 0, 0⟩, false⟩
 |n + 1, L =>
  if Ycv L = 0 then ⟨Ygr L, Flt.zero, true⟩
  else if Ycv L = 90 then ⟨Ins.zero, ⟨3, pc, 0, 0⟩, false⟩
  else if Ycv L = 12 then ⟨Ins.zero, ⟨4, pc, 0, 0⟩, false⟩
  else if M.readK (Yx pc L.length) 1 4 then Ycr M pc n (L ++ [M.readV (Yx pc L.length) 1 4])
  else ⟨Ins.zero, { M.rdF (Yx pc L.length) 1 4 with pc := pc }, false⟩
def Yat (M : Mem) (pc : Int) : FeR := Ycr M pc 16 []
def feW (w : World) : World := ((w.alloc (.cells Ins.zero.cells 42)).alloc (.cells #[.int .i64 0, .int .u32 0, .int .u32 0, .int .i64 0] 32)).alloc (.cells #[.bool false] 4)
theorem feW_up (w : World) : Upd [] w (feW w) := (((Upd.refl [] w).alloc _).alloc _).alloc _
theorem feW_i (w : World) : (feW w).heap[w.heap.size]? = some (.cells Ins.zero.cells 42 (0, 0)) := Yc _ (heap_alloc2_old _ _ _)
theorem feW_f (w : World) : (feW w).heap[w.heap.size + 1]? = some (.cells #[.int .i64 0, .int .u32 0, .int .u32 0, .int .i64 0] 32 (0, 0)) := Yc _ (heap_alloc2_new _ _ _)
theorem feW_k (w : World) : (feW w).heap[w.heap.size + 1 + 1]? = some (.cells #[.bool false] 4 (0, 0)) := by
 have := heap_alloc_new ((w.alloc (.cells Ins.zero.cells 42)).alloc (.cells #[.int .i64 0, .int .u32 0, .int .u32 0, .int .i64 0] 32)) (.cells #[.bool false] 4)
 rwa [show ((w.alloc (.cells Ins.zero.cells 42)).alloc (.cells #[.int .i64 0, .int .u32 0, .int .u32 0, .int .i64 0] 32)).heap.size = w.heap.size + 2 from by simp] at this
theorem Ymz (x : Int) (k : Nat) : Yx x k < 4294967296 := by unfold Yx; omega
theorem Yj5 {M : Mem} (h : M.Ok) (x r : Int) : 0 ≤ M.readV x 1 r ∧ M.readV x 1 r ≤ 255 := by
 unfold Mem.readV
 rw [show (Yb3 1).toNat = 1 from rfl]
 split
 ·have := h.B (Yx x 0).toNat
  simp only [Mem.get]
  simp
  omega
 ·decide
theorem Ynp (w : World) (O : Obj) (x : Int) (T : TypeId) : Ybz ((w.alloc O).alloc (.cells #[.int .u8 x] T)) (.slice (some ⟨w.heap.size + 1, 0, none⟩) 1 1) [x] (w.heap.size + 1) := by
 have h := Yrf (w.alloc O) [x] #[.int .u8 x] T rfl
 rwa [show (w.alloc O).heap.size = w.heap.size + 1 from by simp] at h
structure FeS (w : World) (v : Value) (L : List Int) (wr : World) : Prop where
 d : Dn (feW w) v L wr
 r : BOk L
 n : L.length ≤ 16
section
variable {w w1 w2 : World} {v : Value} {L : List Int}
theorem FeS.up (h : FeS w v L w1) : Upd [] w w1 := (feW_up w).also h.d.u (by simp)
theorem FeS.i (h : FeS w v L w1) : w1.heap[w.heap.size]? = some (.cells Ins.zero.cells 42 (0, 0)) := h.d.u.get (feW_i w) (by simp)
theorem FeS.f (h : FeS w v L w1) : w1.heap[w.heap.size + 1]? = some (.cells #[.int .i64 0, .int .u32 0, .int .u32 0, .int .i64 0] 32 (0, 0)) := h.d.u.get (feW_f w) (by simp)
theorem FeS.k (h : FeS w v L w1) : w1.heap[w.heap.size + 1 + 1]? = some (.cells #[.bool false] 4 (0, 0)) := h.d.u.get (feW_k w) (by simp)
theorem FeS.step (h : FeS w v L w1) (u : Upd [] w1 w2) : FeS w v L w2 := ⟨h.d.step u, h.r, h.n⟩
theorem FeS.ins (h : FeS w v L w1) {j : Ins} (hw : (w1.alloc (.cells Ins.zero.cells 42)).setCells w1.heap.size 0 j.cells.toList = w2) : FeS w v L w2 ∧ w2.heap[w1.heap.size]? = some (.cells j.cells 42 (0, 0)) := by
 obtain ⟨z1, z2⟩ := Yau (S := []) (w0 := w1) hw (heap_alloc_new w1 (.cells Ins.zero.cells 42)) rfl ((Upd.refl [] w1).alloc _) (.inr (Nat.le_refl _))
 exact ⟨h.step z2, z1⟩
theorem FeS.grow {v' : Value} {x : Int} (h : FeS w v L w1) (hg : Yhl w1 (feW w).heap.size v (L ++ [x]) v' w2) (hx : 0 ≤ x ∧ x ≤ 255) (hn : L.length < 16) : FeS w v' (L ++ [x]) w2 :=
 ⟨h.d.grow hg, BOk.app h.r (fun i => by cases i with | zero => simpa using hx | succ i => simp), by simp; omega⟩
theorem FeS.form (h : FeS w v L w1) : ∃ b c, v = .slice b L.length c := by
 obtain ⟨g, hb, _⟩ := h.d.o.barg h.r (by have := h.n; unfold maxLen; omega)
 exact hb.b.form
theorem FeS.bad (h : FeS w v L w1) {fn : Func} {tmps : Array Value} (hr : fn.results = Tryz.f22.results) (F : Flt) (pc : Int) (h4 : tmps.getD 4 undef = .pointer (some ⟨w.heap.size, 0, none⟩)) (h5 : tmps.getD 5 undef = .pointer (some ⟨w.heap.size + 1, 0, none⟩)) (h6 : tmps.getD 6 undef = .pointer (some ⟨w.heap.size + 1 + 1, 0, none⟩)) :
  Leaves Tryz.prog fn tmps (fun e w' => e = .returned (.tuple #[Ins.zero.val, ({ F with pc := pc } : Flt).val, .bool false]) ∧ Upd [] w w') (Yll pc (w.heap.size + 1) (w.heap.size + 1 + 1)) (.panicking [{ v := .iface 32 F.val, recovered := false }]) w1 := by
 refine Ypz F (.tuple #[Ins.zero.val, ({ F with pc := pc } : Flt).val, .bool false]) (fun w2 hf hk hU => ?_) h.f h.k (by omega) (fun w2 hU => ⟨rfl, h.up.also hU (by simp <;> omega)⟩)
 exact Ya3 hr (Yi 4 w.heap.size Ins.zero h4 (hU.get h.i (by simp <;> omega))) (Ycp 5 (w.heap.size + 1) { F with pc := pc } h5 hf) (Ynn 6 (w.heap.size + 1 + 1) false h6 hk)
end
theorem Yhh (M : Mem) (a pb : Nat) (pc : Int) (w : World) (hM : Yan w a pb M) (h0 : 0 ≤ pc ∧ pc < 4294967296) :
  Calls Tryz.prog 22 #[.pointer (some ⟨a, 0, none⟩), .int .u32 pc] w fun e w' => e = .returned (.tuple #[(Yat M pc).i.val, (Yat M pc).f.val, .bool (Yat M pc).k]) ∧ Upd [] w w' := by
 have HM := Yh_ (And.intro hM h0)
 have HS := Yh_ (show FeS w (.slice none 0 0) [] (feW w) from ⟨Dn.start (Upd.refl [] _), fun i => by simp, by simp⟩)
 clear hM h0
 go_enter_defers Tryz.func22, Tryz.ntmps22
 go_wp2_with fail
 go_loopw [7] (fun v wr => ∃ L, FeS w v L wr ∧ Yat M pc = Ycr M pc (16 - L.length) L) (fun v _ => 16 - (match v with | .slice _ n _ => n | _ => 0))
 case atStart => exact ⟨[], HS.out, rfl⟩
 case round =>
  obtain ⟨L, hB, hR⟩ := hrel
  obtain ⟨b, c, rfl⟩ := hB.form
  have HB := Yh_ hB
  have HR := Yh_ hR
  have hn := hB.n
  clear hB hR
  by_cases hlt : L.length < 16
  ·have d1 : decide ((L.length : Int) ≤ 15) = true := by simp; omega
   have d2 : decide (L.length ≤ 15) = true := by simp; omega
   have q1 : (L.length : Int) % 4294967296 = L.length := by omega
   have q2 : (pc + (L.length : Int)) % 4294967296 = Yx pc L.length := rfl
   have hs : 16 - L.length = (15 - L.length) + 1 := by omega
   have tokD : True := trivial
   have tokS : True := trivial
   obtain ⟨J, hJ⟩ : ∃ J, Ygr L = J := ⟨_, rfl⟩
   have HI_ := Yh_ hJ
   have HR2 := Yh_ (show Yat M pc = Ycr M pc ((15 - L.length) + 1) L by rw [← hs]; exact HR.out)
   have HN := Yh_ hlt
   clear HR hs
   by_cases e0 : Ycv L = 0
   ·have HE := Yh_ e0
    have HV := Yh_ (show Yat M pc = ⟨J, Flt.zero, true⟩ by rw [HR2.out, Ycr, if_pos e0, hJ])
    clear e0 hJ hlt hn
    go_wp2_with (first | (have _t := tokD; clear _t; go_at_call 35; obtain ⟨g3, hb3, _⟩ := HB.out.d.o.barg HB.out.r (by have := HB.out.n; unfold maxLen; omega); have HB3 := Yh_ hb3; clear hb3; refine (Ygh (.slice b L.length c) L g3 _ HB3.out).mono ?_; rintro e w2 ⟨rfl, hu⟩; rw [HE.out, HI_.out]; have B2 := Yh_ (HB.out.step hu); clear hu tokD HB) | (have _t := B2; clear _t; refine Ye 42 rfl ?_; refine Yb J w2.heap.size rfl _ _ rfl rfl rfl (heap_alloc_new w2 (.cells Ins.zero.cells 42)) rfl ?_; intro w3 hw; have B3 := Yh_ (B2.out.ins hw); clear hw B2) | (have _t := B3; clear _t; refine Yb9 42 rfl ?_; refine Ya1 J w2.heap.size rfl _ rfl rfl B3.out.2 ?_) | (have _t := tokS; have _t2 := B3; clear _t _t2; refine Ye 42 rfl ?_; refine Yb J w.heap.size rfl _ _ rfl rfl rfl B3.out.1.i rfl ?_; intro w5 hw; have h5 := Yau hw B3.out.1.i rfl (Upd.refl [w.heap.size] w3) (.inl (by simp)); have B5 := Yh_ (And.intro h5.1 (And.intro (h5.2.get B3.out.1.f (by simp <;> omega)) (And.intro (h5.2.get B3.out.1.k (by simp <;> omega)) (B3.out.1.up.also h5.2 (by simp <;> omega))))); clear hw h5 B3 tokS; have cf := Ya B5.out.2.1; have ff := Yh B5.out.2.1; have ck := Ya B5.out.2.2.1; have fk := Yh B5.out.2.2.1))
    have hF := Yq (a := ⟨w.heap.size + 1 + 1, 0, none⟩) (.bool true) (by simp) (Ycx B5.out.2.1 (.int .i64 0) (.int .u32 0) (.int .u32 0) (.int .i64 0))
    have UK := Yap (S := [w.heap.size + 1, w.heap.size + 1 + 1]) (b := w.heap.size + 1) (Upd.refl _ w5) (.inl (by simp)) (.int .i64 0) (.int .u32 0) (.int .u32 0) (.int .i64 0)
    have hK := Ys ((Yap (S := [w.heap.size + 1]) (b := w.heap.size + 1) (Upd.refl _ w5) (.inl (by simp)) (.int .i64 0) (.int .u32 0) (.int .u32 0) (.int .i64 0)).get B5.out.2.2.1 (by simp)) 0 (.bool true)
    have U2 := UK.setCell (p := ⟨w.heap.size + 1 + 1, 0, none⟩) (.inl (by simp)) (.bool true)
    rw [HV.out]
    refine Yuz (.tuple #[J.val, Flt.zero.val, .bool true]) ?_ ⟨rfl, B5.out.2.2.2.also U2 (by simp <;> omega)⟩
    exact Ya3 rfl (Yi 4 w.heap.size J rfl (U2.get B5.out.1 (by simp <;> omega))) (Ycp 5 (w.heap.size + 1) Flt.zero rfl hF) (Ynn 6 (w.heap.size + 1 + 1) true rfl hK)
   have hd0 : (Ycv L == 0) = false := by simpa using e0
   by_cases e1 : Ycv L = 90
   ·have HE := Yh_ e1
    have HV := Yh_ (show Yat M pc = ⟨Ins.zero, ⟨3, pc, 0, 0⟩, false⟩ by rw [HR2.out, Ycr, if_neg e0, if_pos e1])
    clear e0 e1 hJ hlt hn hd0
    go_wp2_with (first | (have _t := tokD; clear _t; go_at_call 35; obtain ⟨g3, hb3, _⟩ := HB.out.d.o.barg HB.out.r (by have := HB.out.n; unfold maxLen; omega); have HB3 := Yh_ hb3; clear hb3; refine (Ygh (.slice b L.length c) L g3 _ HB3.out).mono ?_; rintro e w2 ⟨rfl, hu⟩; rw [HE.out, HI_.out]; have B2 := Yh_ (HB.out.step hu); clear hu tokD HB) | (have _t := B2; clear _t; refine Ye 42 rfl ?_; refine Yb J w2.heap.size rfl _ _ rfl rfl rfl (heap_alloc_new w2 (.cells Ins.zero.cells 42)) rfl ?_; intro w3 hw; have B3 := Yh_ (B2.out.ins hw); clear hw B2))
    rw [HV.out]
    exact B3.out.1.bad rfl ⟨3, 0, 0, 0⟩ pc rfl rfl rfl
   by_cases e2 : Ycv L = 12
   ·have HE := Yh_ e2
    have HV := Yh_ (show Yat M pc = ⟨Ins.zero, ⟨4, pc, 0, 0⟩, false⟩ by rw [HR2.out, Ycr, if_neg e0, if_neg e1, if_pos e2])
    clear e0 e1 e2 hJ hlt hn hd0
    go_wp2_with (first | (have _t := tokD; clear _t; go_at_call 35; obtain ⟨g3, hb3, _⟩ := HB.out.d.o.barg HB.out.r (by have := HB.out.n; unfold maxLen; omega); have HB3 := Yh_ hb3; clear hb3; refine (Ygh (.slice b L.length c) L g3 _ HB3.out).mono ?_; rintro e w2 ⟨rfl, hu⟩; rw [HE.out, HI_.out]; have B2 := Yh_ (HB.out.step hu); clear hu tokD HB) | (have _t := B2; clear _t; refine Ye 42 rfl ?_; refine Yb J w2.heap.size rfl _ _ rfl rfl rfl (heap_alloc_new w2 (.cells Ins.zero.cells 42)) rfl ?_; intro w3 hw; have B3 := Yh_ (B2.out.ins hw); clear hw B2))
    rw [HV.out]
    exact B3.out.1.bad rfl ⟨4, 0, 0, 0⟩ pc rfl rfl rfl
   have hd1 : (Ycv L == 90) = false := by simpa using e1
   have hd2 : (Ycv L == 12) = false := by simpa using e2
   obtain ⟨ee, hee⟩ : ∃ ee, Ycv L = ee := ⟨_, rfl⟩
   rw [hee] at hd0 hd1 hd2
   have HE := Yh_ hee
   obtain ⟨x, hx⟩ : ∃ x, M.readV (Yx pc L.length) 1 4 = x := ⟨_, rfl⟩
   have HX := Yh_ hx
   have hxr := Yj5 HM.out.1.ok (Yx pc L.length) 4
   rw [hx] at hxr
   have q3 : x % 256 = x := by omega
   obtain ⟨⟨fk, fp, fa, fw⟩, hF⟩ : ∃ F, M.rdF (Yx pc L.length) 1 4 = F := ⟨_, rfl⟩
   have HF := Yh_ hF
   cases hk : M.readK (Yx pc L.length) 1 4
   ·have HK := Yh_ hk
    have HV := Yh_ (show Yat M pc = ⟨Ins.zero, ⟨fk, pc, fa, fw⟩, false⟩ by rw [HR2.out, Ycr, if_neg e0, if_neg e1, if_neg e2, if_neg (by rw [hk]; simp), hF])
    clear e0 e1 e2 hJ hlt hn hk hF hx hee
    go_wp2_with (first | (have _t := tokD; clear _t; go_at_call 35; obtain ⟨g3, hb3, _⟩ := HB.out.d.o.barg HB.out.r (by have := HB.out.n; unfold maxLen; omega); have HB3 := Yh_ hb3; clear hb3; refine (Ygh (.slice b L.length c) L g3 _ HB3.out).mono ?_; rintro e w2 ⟨rfl, hu⟩; rw [HE.out, HI_.out]; have B2 := Yh_ (HB.out.step hu); clear hu tokD HB) | (have _t := B2; clear _t; refine Ye 42 rfl ?_; refine Yb J w2.heap.size rfl _ _ rfl rfl rfl (heap_alloc_new w2 (.cells Ins.zero.cells 42)) rfl ?_; intro w3 hw; have B3 := Yh_ (B2.out.ins hw); clear hw B2) | (have _t := B3; clear _t; go_at_call 36; refine (Yng M a pb (Yx pc L.length) 1 4 _ (HM.out.1.keep B3.out.1.up (by simp) (by simp)) (Ybj _ _) (Ymz _ _)).mono ?_; rintro e w4 ⟨rfl, hu⟩; rw [Mem.readF_val, HF.out, HK.out, HX.out]; unfold Flt.val; have B4 := Yh_ (B3.out.1.step hu); clear hu B3))
    rw [HV.out]
    exact (B4.out.step ((Upd.refl [] w4).alloc (.cells #[.int .i64 fk, .int .u32 fp, .int .u32 fa, .int .i64 fw] 32))).bad rfl ⟨fk, fp, fa, fw⟩ pc rfl rfl rfl
   ·have HK := Yh_ hk
    have HV := Yh_ (show Yat M pc = Ycr M pc (15 - L.length) (L ++ [x]) by rw [HR2.out, Ycr, if_neg e0, if_neg e1, if_neg e2, if_pos hk, hx])
    clear e0 e1 e2 hJ hlt hn hk hF hx hee
    have HXR := Yh_ hxr
    go_wp2_with (first | (have _t := tokD; clear _t; go_at_call 35; obtain ⟨g3, hb3, _⟩ := HB.out.d.o.barg HB.out.r (by have := HB.out.n; unfold maxLen; omega); have HB3 := Yh_ hb3; clear hb3; refine (Ygh (.slice b L.length c) L g3 _ HB3.out).mono ?_; rintro e w2 ⟨rfl, hu⟩; rw [HE.out, HI_.out]; have B2 := Yh_ (HB.out.step hu); clear hu tokD HB) | (have _t := B2; clear _t; refine Ye 42 rfl ?_; refine Yb J w2.heap.size rfl _ _ rfl rfl rfl (heap_alloc_new w2 (.cells Ins.zero.cells 42)) rfl ?_; intro w3 hw; have B3 := Yh_ (B2.out.ins hw); clear hw B2) | (have _t := B3; clear _t; go_at_call 36; refine (Yng M a pb (Yx pc L.length) 1 4 _ (HM.out.1.keep B3.out.1.up (by simp) (by simp)) (Ybj _ _) (Yld _ _)).mono ?_; rintro e w4 ⟨rfl, hu⟩; rw [Mem.readF_val, HF.out, HK.out, HX.out]; unfold Flt.val; have B4 := Yh_ (B3.out.1.step hu); clear hu B3) | (have _t := B4; clear _t; at_builtin; refine Yh6 rfl _ _ rfl (feW w).heap.size (.slice b L.length c) L rfl ((B4.out.step (((Upd.refl [] w4).alloc (.cells #[.int .i64 fk, .int .u32 fp, .int .u32 fa, .int .i64 fw] 32)).alloc (.cells #[.int .u8 x] 5))).d.o) (.slice (some ⟨w4.heap.size + 1, 0, none⟩) 1 1) [x] (w4.heap.size + 1) rfl (Ynp w4 (.cells #[.int .i64 fk, .int .u32 fp, .int .u32 fa, .int .i64 fw] 32) x _) (by have := HN.out; simp; omega) (by have := B4.out.d.u.size; simp; omega) ?_; intro v2 w6 hg; have B6 := Yh_ ((B4.out.step (((Upd.refl [] w4).alloc (.cells #[.int .i64 fk, .int .u32 fp, .int .u32 fa, .int .i64 fw] 32)).alloc (.cells #[.int .u8 x] 5))).grow hg HXR.out HN.out); clear hg B4))
    obtain ⟨b2, c2, hv2⟩ := B6.out.form
    subst hv2
    exact ⟨⟨L ++ [x], B6.out, by rw [HV.out, show 16 - (L ++ [x]).length = 15 - L.length from by rw [List.length_append]; simp only [List.length_cons, List.length_nil]; omega]⟩, by have := HN.out; rw [List.length_append]; simp only [List.length_cons, List.length_nil]; omega⟩
  ·obtain hlen : L.length = 16 := by omega
   have d1 : decide ((L.length : Int) ≤ 15) = false := by simp; omega
   have d2 : decide (L.length ≤ 15) = false := by simp; omega
   have HV := Yh_ (show Yat M pc = ⟨Ins.zero, ⟨4, pc, 0, 0⟩, false⟩ by rw [HR.out, hlen]; rfl)
   clear hlen hlt hn
   go_wp2_with fail
   rw [HV.out]
   exact HB.out.bad rfl ⟨4, 0, 0, 0⟩ pc rfl rfl rfl
end
structure Rd where
 k : Nat
 sh : Bool
 bd : Bool
def Rd.short (s : Rd) : Rd := { s with sh := true }
def reB (L : List Int) (s : Rd) : Int := if s.k < L.length then L.getD s.k 0 else 0
def Ym (L : List Int) (s : Rd) : Rd := if s.k < L.length then { s with k := s.k + 1 } else s.short
def Yb1 (L : List Int) (s : Rd) : Rd := Ym L (Ym L (Ym L (Ym L s)))
def reW (L : List Int) (s : Rd) : Int := reB L s + reB L (Ym L s) * 256 + reB L (Ym L (Ym L s)) * 65536 + reB L (Ym L (Ym L (Ym L s))) * 16777216
def reT (L : List Int) (mod base x sc : Int) (s : Rd) : Opd :=
 if mod = 0 ∧ base = 5 then ⟨3, 0, reW L s, -1, x, sc⟩ else if mod = 1 then ⟨3, 0, sx8 (reB L s), base, x, sc⟩ else if mod = 2 then ⟨3, 0, reW L s, base, x, sc⟩ else ⟨3, 0, 0, base, x, sc⟩
def Ydz (L : List Int) (mod base x sc : Int) (s : Rd) : Rd :=
 if mod = 0 ∧ base = 5 then Yb1 L s else if mod = 1 then Ym L s else if mod = 2 then Yb1 L s else s
def reM (L : List Int) (s : Rd) : Opd :=
 let c := reB L s
 if c / 64 = 3 then Yn (c % 8)
 else if c % 8 = 4 then
  let t := reB L (Ym L s)
  if t / 8 % 8 = 4 then reT L (c / 64) (t % 8) (-1) 1 (Ym L (Ym L s)) else reT L (c / 64) (t % 8) (t / 8 % 8) (2 ^ (t / 64).toNat) (Ym L (Ym L s))
 else reT L (c / 64) (c % 8) (-1) 1 (Ym L s)
def Yab (L : List Int) (s : Rd) : Rd :=
 let c := reB L s
 if c / 64 = 3 then Ym L s
 else if c % 8 = 4 then
  let t := reB L (Ym L s)
  if t / 8 % 8 = 4 then Ydz L (c / 64) (t % 8) (-1) 1 (Ym L (Ym L s)) else Ydz L (c / 64) (t % 8) (t / 8 % 8) (2 ^ (t / 64).toNat) (Ym L (Ym L s))
 else Ydz L (c / 64) (c % 8) (-1) 1 (Ym L s)
def reN (L : List Int) (s : Rd) : Int := reB L s / 8 % 8
structure RI where
 i : Ins
 e : Bool
 s : Rd
def Ydx (L : List Int) (op k : Int) (s : Rd) : RI :=
 if k = 5 then ⟨⟨op, 0, Yn 0, Yac (reW L s), false, 0⟩, false, Yb1 L s⟩
 else if k = 1 then ⟨⟨op, 0, reM L s, Yn (reN L s), false, 0⟩, false, Yab L s⟩
 else ⟨⟨op, 0, Yn (reN L s), reM L s, false, 0⟩, false, Yab L s⟩
def Yc1 (L : List Int) (c : Int) (s : Rd) : Option RI :=
 if c = 104 then some ⟨⟨28, 0, Yac (reW L s), Opd.none, false, 0⟩, false, Yb1 L s⟩
 else if c = 106 then some ⟨⟨28, 0, Yac (sx8 (reB L s)), Opd.none, false, 0⟩, false, Ym L s⟩
 else if c = 144 then some ⟨Yaj 44, false, s⟩
 else if c = 153 then some ⟨Yaj 38, false, s⟩
 else if c = 165 then some ⟨Yaj 41, false, s⟩
 else if c = 169 then some ⟨⟨11, 0, Yn 0, Yac (reW L s), false, 0⟩, false, Yb1 L s⟩
 else if c = 171 then some ⟨Yaj 42, false, s⟩
 else if c = 195 then some ⟨Yaj 31, false, s⟩
 else if c = 232 then some ⟨⟨30, 0, Yac (reW L s), Opd.none, false, 0⟩, false, Yb1 L s⟩
 else if c = 233 then some ⟨⟨32, 0, Yac (reW L s), Opd.none, false, 0⟩, false, Yb1 L s⟩
 else if c = 235 then some ⟨⟨32, 0, Yac (sx8 (reB L s)), Opd.none, false, 0⟩, false, Ym L s⟩
 else if c = 252 then some ⟨Yaj 39, false, s⟩
 else if c = 253 then some ⟨Yaj 40, false, s⟩
 else if c = 205 then some ⟨⟨43, 0, Yac (reB L s), Opd.none, false, 0⟩, false, Ym L s⟩
 else if c = 243 then
  if reB L s = 165 then some ⟨⟨41, 0, Opd.none, Opd.none, true, 0⟩, false, Ym L s⟩
  else if reB L s = 171 then some ⟨⟨42, 0, Opd.none, Opd.none, true, 0⟩, false, Ym L s⟩
  else some ⟨Ins.zero, false, Ym L s⟩
 else none
def Yh0 : List Int := [129, 131, 133, 135, 136, 137, 138, 139, 141, 193, 198, 199, 209, 211, 217, 220, 221, 247, 255]
def Ya5 (c n mod : Int) : Bool :=
 if c = 193 ∨ c = 209 ∨ c = 211 then Yaa n == 0 else if c = 217 then true else if c = 220 then Yar n == 0 || mod == 3 else if c = 221 then n != 0 && n != 3
 else if c = 247 then n == 1 else if c = 255 then n == 3 || n == 5 else false
def Yeo (c n : Int) : Bool := if c = 198 ∨ c = 199 then n != 0 else if c = 255 then n == 7 else false
def Ycz (L : List Int) (c : Int) (s : Rd) : RI :=
 if L.length < 2 then ⟨Ins.zero, false, s⟩
 else
  let n := L.getD 1 0 / 8 % 8
  let mod := L.getD 1 0 / 64
  let b := if c = 198 ∨ c = 199 then n != 0 else if c = 255 ∧ n = 7 then true else s.bd
  ⟨Ins.zero, Ya5 c n mod, ⟨s.k, if Ya5 c n mod || b then false else s.sh, b⟩⟩
def Ya9 (L : List Int) (c : Int) (m : Opd) (n : Int) (s : Rd) : RI :=
 if c = 198 then if n = 0 then ⟨⟨2, 0, m, Yac (reB L { s with bd := false }), false, 0⟩, false, Ym L { s with bd := false }⟩ else ⟨Ins.zero, false, { s with bd := true }⟩
 else if c = 199 then if n = 0 then ⟨⟨1, 0, m, Yac (reW L { s with bd := false }), false, 0⟩, false, Yb1 L { s with bd := false }⟩ else ⟨Ins.zero, false, { s with bd := true }⟩
 else if c = 217 then if m.eqB (Yn 0) = true ∧ n = 4 then ⟨Yaj 51, false, s⟩ else ⟨Yaj 52, !(m.eqB (Yn 1) && n == 4), s⟩
 else if c = 220 then ⟨⟨Yar n, 0, m, Opd.none, false, 0⟩, Yar n == 0 || m.k == 1, s⟩
 else if c = 221 then ⟨⟨if n = 3 then 46 else 45, 0, m, Opd.none, false, 0⟩, (n != 0 && n != 3) || m.k == 1, s⟩
 else if c = 247 then if n = 0 then ⟨⟨11, 0, m, Yac (reW L s), false, 0⟩, false, Yb1 L s⟩ else ⟨⟨Ybd n, 0, m, Opd.none, false, 0⟩, Ybd n == 0, s⟩
 else ⟨⟨Ycn n, 0, m, Opd.none, false, 0⟩, Ycn n == 0, { s with bd := n == 7 }⟩
def Yav (L : List Int) (c : Int) (m : Opd) (n : Int) (s : Rd) : RI :=
 if c = 129 then ⟨⟨Yag n, 0, m, Yac (reW L s), false, 0⟩, false, Yb1 L s⟩
 else if c = 131 then ⟨⟨Yag n, 0, m, Yac (sx8 (reB L s)), false, 0⟩, false, Ym L s⟩
 else if c = 133 then ⟨⟨11, 0, m, Yn n, false, 0⟩, false, s⟩
 else if c = 135 then ⟨⟨27, 0, m, Yn n, false, 0⟩, false, s⟩
 else if c = 136 then ⟨⟨2, 0, m, Yn n, false, 0⟩, false, s⟩
 else if c = 137 then ⟨⟨1, 0, m, Yn n, false, 0⟩, false, s⟩
 else if c = 138 then ⟨⟨2, 0, Yn n, m, false, 0⟩, false, s⟩
 else if c = 139 then ⟨⟨1, 0, Yn n, m, false, 0⟩, false, s⟩
 else if c = 141 then ⟨⟨26, 0, Yn n, m, false, 0⟩, false, { s with bd := m.k == 1 }⟩
 else if c = 193 then if Yaa n = 0 then ⟨Ins.zero, true, s⟩ else ⟨⟨Yaa n, 0, m, Yac (reB L s), false, 0⟩, false, Ym L s⟩
 else if c = 209 then ⟨⟨Yaa n, 0, m, Yac 1, false, 0⟩, Yaa n == 0, s⟩
 else if c = 211 then ⟨⟨Yaa n, 0, m, Yn 1, false, 0⟩, Yaa n == 0, s⟩
 else Ya9 L c m n s
def Yiz (L : List Int) (s0 : Rd) : RI :=
 let c := reB L s0
 let s := Ym L s0
 if s.sh then ⟨Ins.zero, false, s⟩
 else if c = 11 then ⟨Ins.zero, false, { s with bd := true }⟩
 else if c / 16 = 8 then ⟨⟨33, c % 16, Yac (reW L s), Opd.none, false, 0⟩, false, Yb1 L s⟩
 else if c / 16 = 4 then ⟨⟨35, c % 16, Yn (reN L s), reM L s, false, 0⟩, false, Yab L s⟩
 else if c / 16 = 9 then
  if (Yab L s).sh ∧ 2 < L.length ∧ L.getD 2 0 / 8 % 8 ≠ 0 then ⟨Ins.zero, true, { Yab L s with sh := false }⟩
  else ⟨⟨34, c % 16, reM L s, Opd.none, false, 0⟩, reN L s != 0, Yab L s⟩
 else if c = 175 then ⟨⟨18, 0, Yn (reN L s), reM L s, false, 0⟩, false, Yab L s⟩
 else if c = 182 then ⟨⟨36, 0, Yn (reN L s), reM L s, false, 0⟩, false, Yab L s⟩
 else if c = 190 then ⟨⟨37, 0, Yn (reN L s), reM L s, false, 0⟩, false, Yab L s⟩
 else ⟨Ins.zero, true, s⟩
def Ybk (L : List Int) (c : Int) (s : Rd) : RI :=
 if c = 15 then Yiz L s
 else if Yh0.contains c then
  if (Yab L s).sh then Ycz L c (Yab L s) else Yav L c (reM L s) (reN L s) (Yab L s)
 else ⟨Ins.zero, true, s⟩
def Ye2 (L : List Int) (s0 : Rd) : RI :=
 let c := reB L s0
 let s := Ym L s0
 if s.sh then ⟨Ins.zero, false, s⟩
 else if c < 64 ∧ (c % 8 = 1 ∨ c % 8 = 3 ∨ c % 8 = 5) then Ydx L (Yag (c / 8)) (c % 8) s
 else if 64 ≤ c ∧ c < 72 then ⟨⟨12, 0, Yn (c % 8), Opd.none, false, 0⟩, false, s⟩
 else if 72 ≤ c ∧ c < 80 then ⟨⟨13, 0, Yn (c % 8), Opd.none, false, 0⟩, false, s⟩
 else if 80 ≤ c ∧ c < 88 then ⟨⟨28, 0, Yn (c % 8), Opd.none, false, 0⟩, false, s⟩
 else if 88 ≤ c ∧ c < 96 then ⟨⟨29, 0, Yn (c % 8), Opd.none, false, 0⟩, false, s⟩
 else if 112 ≤ c ∧ c < 128 then ⟨⟨33, c % 16, Yac (sx8 (reB L s)), Opd.none, false, 0⟩, false, Ym L s⟩
 else if 176 ≤ c ∧ c < 184 then ⟨⟨2, 0, Yn (c % 8), Yac (reB L s), false, 0⟩, false, Ym L s⟩
 else if 184 ≤ c ∧ c < 192 then ⟨⟨1, 0, Yn (c % 8), Yac (reW L s), false, 0⟩, false, Yb1 L s⟩
 else match Yc1 L c s with
  |some r => r
  |none => Ybk L c s
def Yu (o : Opd) : Bool := o.eqB Opd.none
def Yw (o : Opd) : Bool := o.k == 1 && decide (0 ≤ o.r) && decide (o.r < 8) && o.eqB (Yn o.r)
def Ya0 (o : Opd) : Bool := o.eqB (Yac o.imm) && o.k == 2
def Ya7 (o : Opd) : Bool :=
 o.k == 3 && o.r == 0 && decide (-1 ≤ o.b) && decide (o.b < 8) && decide (-1 ≤ o.x) && decide (o.x < 8) && o.x != 4 && (o.sc == 1 || decide (0 ≤ o.x) && (o.sc == 2 || o.sc == 4 || o.sc == 8))
def rmB (o : Opd) : Bool := Yw o || Ya7 o
def Yca (o : Opd) : Bool := Ya0 o && decide (o.imm < 256)
def Yo (op : Int) (a b : Opd) : Bool :=
 if op = 1 ∨ 3 ≤ op ∧ op ≤ 10 then rmB a && (Yw b || Ya0 b || Yw a && Ya7 b)
 else if op = 11 then rmB a && (Yw b || Ya0 b)
 else if op = 2 then rmB a && (Yw b || Yca b || Yw a && Ya7 b)
 else if op = 27 then rmB a && Yw b
 else if 12 ≤ op ∧ op ≤ 17 ∨ op = 19 ∨ op = 20 ∨ op = 34 then rmB a && Yu b
 else if op = 18 ∨ op = 35 ∨ op = 36 ∨ op = 37 then Yw a && rmB b
 else if 21 ≤ op ∧ op ≤ 25 then rmB a && (Yca b || Yw b && b.r == 1)
 else if op = 26 then Yw a && Ya7 b
 else if op = 28 ∨ op = 30 ∨ op = 32 then (rmB a || Ya0 a) && Yu b
 else if op = 29 then Yw a && Yu b
 else if op = 33 then Ya0 a && Yu b
 else if op = 43 then Ya0 a && a.imm == 128 && Yu b
 else if op = 45 ∨ op = 46 ∨ 47 ≤ op ∧ op ≤ 50 ∨ op = 53 then Ya7 a && Yu b
 else if op = 31 ∨ 38 ≤ op ∧ op ≤ 42 ∨ op = 44 ∨ op = 51 ∨ op = 52 then Yu a && Yu b
 else false
def isB (i : Ins) : Bool :=
 if i.len < 0 ∨ 15 < i.len ∨ i.rep = true ∧ i.op ≠ 41 ∧ i.op ≠ 42 then false
 else if i.cond < 0 ∨ 15 < i.cond ∨ i.cond ≠ 0 ∧ i.op ≠ 33 ∧ i.op ≠ 34 ∧ i.op ≠ 35 then false
 else Yo i.op i.a i.b
def refI (L : List Int) : Ins :=
 let r := Ye2 L ⟨0, false, false⟩
 if r.s.sh ∨ r.s.bd ∨ r.e = true ∨ isB r.i = false then Ins.zero else { r.i with len := r.s.k }
def refE (L : List Int) : Int :=
 let r := Ye2 L ⟨0, false, false⟩
 if r.s.sh then 10 else if r.s.bd then 90 else if r.e = true ∨ isB r.i = false then 12 else 0
def Opd.arg (o : Opd) : Value := .agg #[.int .i64 o.k, .int .i64 o.r, .int .u32 o.imm, .int .i64 o.b, .int .i64 o.x, .int .u32 o.sc]
theorem Ycu (o : Opd) (w : World) : Calls Tryz.prog 82 #[o.arg] w fun e w' => e = .returned (.bool (Yu o)) ∧ Upd [] w w' := by
 have hq := fun w : World => show (binOp .eql 40 (.agg #[.int .i64 o.k, .int .i64 o.r, .int .u32 o.imm, .int .i64 o.b, .int .i64 o.x, .int .u32 o.sc]) (.agg #[.int .i64 0, .int .i64 0, .int .u32 0, .int .i64 0, .int .i64 0, .int .u32 0])).run Tryz.prog w = .ok (.bool (Yu o)) w from Yei o Opd.none w
 unfold Opd.arg
 go_enter Tryz.func82, Tryz.ntmps82
 go_wp2
 go_ret
 exact ⟨rfl, (Upd.refl _ _).alloc _⟩
theorem Ybg (o : Opd) (w : World) : Calls Tryz.prog 78 #[o.arg] w fun e w' => e = .returned (.bool (Yw o)) ∧ Upd [] w w' := by
 unfold Opd.arg
 go_enter Tryz.func78, Tryz.ntmps78
 go_wp2
 all_goals (go_ret; refine ⟨?_, (Upd.refl _ _).alloc _⟩; simp_all [Yw, Opd.eqB, Yn] <;> omega)
theorem Ycw (o : Opd) (w : World) : Calls Tryz.prog 79 #[o.arg] w fun e w' => e = .returned (.bool (Ya0 o)) ∧ Upd [] w w' := by
 unfold Opd.arg
 go_enter Tryz.func79, Tryz.ntmps79
 go_wp2
 all_goals (go_ret; refine ⟨?_, (Upd.refl _ _).alloc _⟩; simp_all [Ya0, Opd.eqB, Yac])
theorem Ydr (o : Opd) (w : World) : Calls Tryz.prog 80 #[o.arg] w fun e w' => e = .returned (.bool (Ya7 o)) ∧ Upd [] w w' := by
 unfold Opd.arg
 go_enter Tryz.func80, Tryz.ntmps80
 go_wp2
 all_goals (go_ret; refine ⟨?_, (Upd.refl _ _).alloc _⟩; simp_all [Ya7] <;> first | omega | (rw [show decide (0 ≤ o.x) = false from decide_eq_false (by omega), Bool.false_and, Bool.or_false]))
theorem Ycc (o : Opd) (w : World) : Calls Tryz.prog 77 #[o.arg] w fun e w' => e = .returned (.bool (rmB o)) ∧ Upd [] w w' := by
 have tok : True := trivial
 unfold rmB
 cases h1 : Yw o
 ·have H1 := Yh_ h1
  clear h1
  unfold Opd.arg
  go_enter Tryz.func77, Tryz.ntmps77
  go_wp2_with (first | (go_at_call 78; refine (Ybg o _).mono ?_; rintro e w1 ⟨rfl, hu⟩; rw [H1.out]; have U1 := Yh_ (((Upd.refl [] w).alloc _).also hu (by simp)); have c1 := Ya (hu.get (heap_alloc_new w _) (by simp)); clear hu) | (have _t := U1; clear _t; go_at_call 80; refine (Ydr o _).mono ?_; rintro e w2 ⟨rfl, hu⟩; have U2 := Yh_ (U1.out.also hu (by simp)); clear hu))
  go_ret
  exact ⟨by rw [Bool.false_or]; rfl, U2.out⟩
 ·have H1 := Yh_ h1
  clear h1
  unfold Opd.arg
  go_enter Tryz.func77, Tryz.ntmps77
  go_wp2_with (first | (go_at_call 78; refine (Ybg o _).mono ?_; rintro e w1 ⟨rfl, hu⟩; rw [H1.out]; have U1 := Yh_ (((Upd.refl [] w).alloc _).also hu (by simp)); clear hu))
  go_ret
  exact ⟨by rw [Bool.true_or]; rfl, U1.out⟩
theorem Yfh (o : Opd) (w : World) : Calls Tryz.prog 81 #[o.arg] w fun e w' => e = .returned (.bool (Yca o)) ∧ Upd [] w w' := by
 unfold Yca
 cases h1 : Ya0 o
 ·have H1 := Yh_ h1
  clear h1
  unfold Opd.arg
  go_enter Tryz.func81, Tryz.ntmps81
  go_wp2_with (first | (go_at_call 79; refine (Ycw o _).mono ?_; rintro e w1 ⟨rfl, hu⟩; rw [H1.out]; have U1 := Yh_ (((Upd.refl [] w).alloc _).also hu (by simp)); clear hu))
  go_ret
  exact ⟨by rw [Bool.false_and]; rfl, U1.out⟩
 ·have H1 := Yh_ h1
  clear h1
  unfold Opd.arg
  go_enter Tryz.func81, Tryz.ntmps81
  go_wp2_with (first | (go_at_call 79; refine (Ycw o _).mono ?_; rintro e w1 ⟨rfl, hu⟩; rw [H1.out]; have U1 := Yh_ (((Upd.refl [] w).alloc _).also hu (by simp)); have c1 := Ya (hu.get (heap_alloc_new w _) (by simp)); clear hu))
  all_goals (go_ret; refine ⟨?_, U1.out⟩; simp_all)
end Go.Proofs.YteiplidhkelkbaaGreat
