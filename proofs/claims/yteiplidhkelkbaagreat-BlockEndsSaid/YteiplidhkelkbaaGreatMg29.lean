/-
  Parts of the proof (their names shortened by a program). No condition.
-/
import Derived.Test.YteiplidhkelkbaaGreatMg01
import Derived.Test.YteiplidhkelkbaaGreatMg28
import Derived.Test.YteiplidhkelkbaaGreatMg06
import Derived.Test.YteiplidhkelkbaaGreatMg15
import Derived.Test.YteiplidhkelkbaaGreatMg03
import Derived.ChangeKeysEq
import Derived.Lib.SliceRun
import Derived.Laws.IdiomStrings
import Derived.Outline
import Derived.Laws.BytesArg
namespace Go.Proofs.YteiplidhkelkbaaGreat
open Go Go.RowKit
set_option linter.unusedVariables false
set_option linter.unusedSimpArgs false
set_option maxRecDepth 100000
set_option maxHeartbeats 16000000
section
def Yfy : Obj := .cells #[.int .i64 0, .int .u32 0, .int .u32 0, .int .i64 0] 32
theorem Ygm (M : Mem) (pc : Int) : ∃ k p x t, (Yat M pc).f = ⟨k, p, x, t⟩ := ⟨_, _, _, _, rfl⟩
theorem Yfp {w1 w2 : World} {I : Ins} (hw : ((w1.alloc (.cells Ins.zero.cells 42)).alloc Yfy).setCells w1.heap.size 0 I.cells.toList = w2) :
  w2.heap[w1.heap.size]? = some (.cells I.cells 42 (0, 0)) ∧ w2.heap[w1.heap.size + 1]? = some (.cells #[.int .i64 0, .int .u32 0, .int .u32 0, .int .i64 0] 32 (0, 0)) ∧ Upd [] w1 w2 := by
 have u := ((Upd.refl [] w1).alloc (.cells Ins.zero.cells 42)).alloc Yfy
 obtain ⟨z1, z2⟩ := Yau (S := []) (w0 := w1) hw (heap_alloc2_old w1 _ _) rfl u (.inr (Nat.le_refl _))
 obtain ⟨_, z3⟩ := Yau (S := [w1.heap.size]) hw (heap_alloc2_old w1 _ _) rfl (Upd.refl _ _) (.inl (by simp))
 exact ⟨z1, z3.get (heap_alloc2_new w1 (.cells Ins.zero.cells 42) Yfy) (by simp), z2⟩
structure BlF (w : World) (I : Ins) (F : Flt) (ib : Nat) (w3 : World) : Prop where
 i : w3.heap[ib]? = some (.cells I.cells 42 (0, 0))
 f : w3.heap[ib + 1]? = some (.cells #[.int .i64 F.k, .int .u32 F.pc, .int .u32 F.a, .int .i64 F.wt] 32 (0, 0))
 z : w3.heap[w.heap.size]? = some (.cells #[.int .i64 0, .int .u32 0, .int .u32 0, .int .i64 0] 32 (0, 0))
 u : Upd [] w w3
 l : w.heap.size < ib
theorem BlF.of {w w1 w2 : World} {I : Ins} (F : Flt) (hu : Upd [] (w.alloc Yfy) w1) (h2 : w2.heap[w1.heap.size]? = some (.cells I.cells 42 (0, 0)) ∧ w2.heap[w1.heap.size + 1]? = some (.cells #[.int .i64 0, .int .u32 0, .int .u32 0, .int .i64 0] 32 (0, 0)) ∧ Upd [] w1 w2) :
  BlF w I F w1.heap.size ((((w2.setCell ⟨w1.heap.size + 1, 0, none⟩ (.int .i64 F.k)).setCell ⟨w1.heap.size + 1, 1, none⟩ (.int .u32 F.pc)).setCell ⟨w1.heap.size + 1, 2, none⟩ (.int .u32 F.a)).setCell ⟨w1.heap.size + 1, 3, none⟩ (.int .i64 F.wt)) := by
 have hz : w1.heap[w.heap.size]? = some Yfy := hu.get (heap_alloc_new w Yfy) (by simp)
 have hl := Yv hz
 have u2 := ((Upd.refl [] w).alloc Yfy).also (hu.also h2.2.2 (by simp)) (by simp)
 have u4 := Yap (S := [w1.heap.size + 1]) (b := w1.heap.size + 1) (Upd.refl _ w2) (.inl (by simp)) (.int .i64 F.k) (.int .u32 F.pc) (.int .u32 F.a) (.int .i64 F.wt)
 exact ⟨u4.get h2.1 (by simp), Ycx h2.2.1 _ _ _ _, u4.get (h2.2.2.get hz (by simp)) (by simp; omega), u2.also u4 (by simp; omega), hl⟩
theorem Find_no (M : Mem) (a pb : Nat) (pc : Int) (w : World) (hM : Yan w a pb M) (h0 : 0 ≤ pc ∧ pc < 4294967296) (hk : (Yat M pc).k = false) :
  Calls Tryz.prog 8 #[.pointer (some ⟨a, 0, none⟩), .int .u32 pc] w fun e w' => e = .returned (.tuple #[.slice none 0 0, (Yat M pc).f.val, .bool false]) ∧ Upd [] w w' := by
 have HM := Yh_ (And.intro hM h0)
 obtain ⟨I, hI⟩ : ∃ I, (Yat M pc).i = I := ⟨_, rfl⟩
 obtain ⟨fk, fp, fa, fw, hF⟩ := Ygm M pc
 have HR := Yh_ (And.intro hI (And.intro hF hk))
 rw [hF]
 have tok : True := trivial
 clear hM h0 hk hI hF
 go_enter Tryz.func8, Tryz.ntmps8
 go_wp2_with (first | (have _t := tok; clear _t; go_at_call 22; refine (Yhh M a pb pc _ (HM.out.1.keep ((Upd.refl [] w).alloc _) (by simp) (by simp)) HM.out.2).mono ?_; rintro e w1 ⟨rfl, hu⟩; rw [HR.out.1, HR.out.2.1, HR.out.2.2]; unfold Flt.val; have U1 := Yh_ hu; clear hu tok) | (have _t := U1; clear _t; refine Ye 42 rfl ?_; refine Yb I w1.heap.size rfl _ _ rfl rfl rfl (heap_alloc2_old w1 (.cells Ins.zero.cells 42) Yfy) rfl ?_; intro w2 hw; have h2 := Yfp hw; have H2 := Yh_ (BlF.of ⟨fk, fp, fa, fw⟩ U1.out h2); have c2 := Ya h2.2.1; have f2 := Yh h2.2.1; clear hw h2 U1))
 have h3 := H2.out
 clear c2 f2 H2
 generalize ((((w2.setCell ⟨w1.heap.size + 1, 0, none⟩ (.int .i64 fk)).setCell ⟨w1.heap.size + 1, 1, none⟩ (.int .u32 fp)).setCell ⟨w1.heap.size + 1, 2, none⟩ (.int .u32 fa)).setCell ⟨w1.heap.size + 1, 3, none⟩ (.int .i64 fw)) = w3 at h3 ⊢
 have H3 := Yh_ h3
 clear h3
 refine Ybc 2 (BlF w I ⟨fk, fp, fa, fw⟩ w1.heap.size) (fun _ _ => False) (by kernel_rfl) (by kernel_rfl) ⟨((Upd.refl [] w3).drew).get H3.out.i (by simp), ((Upd.refl [] w3).drew).get H3.out.f (by simp), ((Upd.refl [] w3).drew).get H3.out.z (by simp), H3.out.u.drew, H3.out.l⟩ (fun _ _ _ h => h.elim) ?_
 simp only [List.take_succ_cons, List.take_zero, List.drop_succ_cons, List.drop_zero]
 iterate 2
  apply Yao rfl rfl
  ·intro K hK w5 hB1
   have c5 := Ya hB1.f
   have HB := Yh_ hB1
   clear hB1
   go_wp2_with fail
   first
   |exact hK _ HB.out
   |exact HB.out
  ·exact ⟨_, rfl⟩
 refine Yaw (fun _ w5 hB1 => ?_)
 have c5 := Ya hB1.z
 have f5 := Yh hB1.z
 have HB := Yh_ hB1
 clear hB1
 go_wp2_with fail
 exact bodyPost_ret (Ya3 rfl (Yk 4 rfl) (Ycp 5 w.heap.size ⟨fk, fp, fa, fw⟩ rfl (Ycx HB.out.z _ _ _ _)) (Yk 6 rfl)) rfl ⟨rfl, Yap HB.out.u (.inr (Nat.le_refl _)) _ _ _ _⟩
structure BlS (w : World) (ib rb : Nat) (row : List Ins) (wr : World) : Prop where
 r : ∃ C : Array Value, wr.heap[rb]? = some (.cells C 64 (0, 0)) ∧ C.size = 128 ∧ ∀ (k : Nat) (u : Value), (Yb2 row)[k]? = some u → C[k]? = some u
 z : wr.heap[w.heap.size]? = some (.cells #[.int .i64 0, .int .u32 0, .int .u32 0, .int .i64 0] 32 (0, 0))
 u : Upd [] w wr
 l : w.heap.size < rb
 n : row.length ≤ 8
structure BlD (w : World) (rb : Nat) (row : List Ins) (I : Ins) (xb k : Nat) (d : Nat → Bool) (r : Nat → Value) (wr : World) : Prop where
 s : BlS w xb rb row wr
 i : wr.heap[xb]? = some (.cells I.cells 42 (0, 0))
 x : d k = true → ∃ g, r k = .slice (some ⟨g, 0, none⟩) 1 1 ∧ g ≠ rb ∧ wr.heap[g]? = some (.cells I.cells 42 (0, 0))
section
variable {w w1 w2 : World} {ib rb xb k : Nat} {row : List Ins} {I : Ins} {d : Nat → Bool} {r : Nat → Value}
theorem BlS.step (h : BlS w ib rb row w1) (u : Upd [] w1 w2) : BlS w ib rb row w2 := by
 obtain ⟨C, h1, h2, h3⟩ := h.r
 exact ⟨⟨C, u.get h1 (by simp), h2, h3⟩, u.get h.z (by simp), h.u.also u (by simp), h.l, h.n⟩
theorem BlS.copy (h : BlS w ib rb row w1) (hn : row.length < 8) (hw : w1.setCells rb (row.length * 16) I.cells.toList = w2) : BlS w ib rb (row ++ [I]) w2 := by
 obtain ⟨C, h1, h2, h3⟩ := h.r
 have hl := Yhu I
 have hil := h.l
 have u : Upd [rb] w1 w2 := by subst hw; exact (Upd.refl [rb] w1).setCells (.inl (by simp)) _ _
 refine ⟨⟨Go.Proofs.YteiplidhkelkbaaGreat.wr C (row.length * 16) I.cells.toList, by subst hw; exact Ybw _ _ _ _ h1, by rw [Yle]; exact h2, fun k v hk => ?_⟩, u.get h.z (by simp; omega), h.u.also u (by simp; omega), h.l, by simp; omega⟩
 rw [wr_get' _ _ _ (by omega)]
 rw [Ysz, List.getElem?_append, Yeu] at hk
 have e1 : Yb2 [I] = I.cells.toList := by simp [Yb2]
 rw [e1] at hk
 by_cases hk1 : k < row.length * 16
 ·rw [if_pos hk1] at hk
  rw [if_neg (by omega)]
  exact h3 _ _ hk
 ·rw [if_neg hk1] at hk
  have := (List.getElem?_eq_some_iff.1 hk).1
  rw [if_pos (by omega)]
  exact hk
theorem BlS.cell (h : BlS w ib rb row w1) (hn : row.length < 8) (j : Nat) (hj : j < 16) : (w1.cell? ⟨rb, row.length * 16 + j, none⟩).isSome = true ∧ w1.frozen? ⟨rb, row.length * 16 + j, none⟩ = false := by
 obtain ⟨C, h1, h2, h3⟩ := h.r
 refine ⟨?_, Yh h1 _⟩
 rw [Ya h1, Array.getElem?_eq_getElem (by omega)]
 rfl
theorem Yq8 {g : Nat} (h : w1.heap[g]? = some (.cells I.cells 42 (0, 0))) : ∀ j v, I.cells.toList[j]? = some v → w1.cell? ((⟨g, 0, none⟩ : Addr).add j) = some v := by
 intro j v hv
 have := Ye3 h j v hv
 unfold Addr.add
 by_cases e : j = 0
 ·subst e; simpa using this
 ·rw [if_neg e]; exact this
theorem BlD.start (h : BlS w xb rb row w1) (hi : w1.heap[xb]? = some (.cells I.cells 42 (0, 0))) (r : Nat → Value) : BlD w rb row I xb k (fun _ => false) r w1.drew :=
 ⟨h.step ((Upd.refl [] w1).drew), ((Upd.refl [] w1).drew).get hi (by simp), by simp⟩
theorem BlD.same (h : BlD w rb row I xb k d r w1) (q : Nat) (h1 : k ≠ q) : BlD w rb row I xb k (Ybq d q) r w1 := ⟨h.s, h.i, fun e => h.x (by rwa [Ydi h1] at e)⟩
theorem BlD.lay (h : BlD w rb row I xb k d r w1) : BlD w rb row I xb k (Ybq d k) (Ygt r k (.slice (some ⟨w1.heap.size, 0, none⟩) 1 1)) (w1.alloc (.cells I.cells 42)) := by
 have u := (Upd.refl [] w1).alloc (.cells I.cells 42)
 obtain ⟨C, h1, _⟩ := h.s.r
 have := Yv h1
 exact ⟨h.s.step u, u.get h.i (by simp), fun _ => ⟨_, bV_eq, by omega, heap_alloc_new _ _⟩⟩
theorem BlS.at (h : BlS w ib rb row w1) {x : Ins} (hx : row[k]? = some x) : w1.rangeAt rb (k * 16) x.cells.toList := by
 obtain ⟨C, h1, h2, h3⟩ := h.r
 intro j v hv
 rw [Ya h1]
 have hj := (List.getElem?_eq_some_iff.1 hv).1
 exact h3 _ _ (by rw [Ykr hx j hj]; exact hv)
theorem Ybl {ops : Array Oper} {rest : List Oper} {op : Oper} {a : Act} {w : World} {Q : Exit → Act → World → Prop} (o : Ins) (b off : Nat) (hgd : Region.wanted op (yielded ops a.tmps) = true) (x : Operand) (ho : op.op = .load 42 x) (hx : a.eval x = .pointer (some ⟨b, off, none⟩))
  (hb : w.rangeAt b off o.cells.toList) (h : wpList Tryz.prog ops Q rest (a.put op.dst (.agg o.cells)) w) : wpList Tryz.prog ops Q (op :: rest) a w :=
 Yow hgd fun _ hK => wp_load_mid 42 x ho b off hx o.cells.toList _ hb Tryz.underlying42 rfl (by rw [Array.length_toList, Ins.size]; exact Yer) (by rw [Array.toArray_toList]; exact hK _ _ h)
theorem info_ins : ∃ i B, Tryz.prog.info? 42 = some i ∧ i.zero = some (.agg Ins.zero.cells) ∧ i.size = 16 ∧ i.bytes = B ∧ B ≤ 1000 := by
 have h : (Tryz.prog.info? 42).map (fun i => (i.zero, i.size, decide (i.bytes ≤ 1000))) = some (some (.agg Ins.zero.cells), 16, true) := by kernel_rfl
 cases hq : Tryz.prog.info? 42 with
 |none => simp [hq] at h
 |some i =>
  rw [hq] at h
  simp only [Option.map_some, Option.some.injEq, Prod.mk.injEq, decide_eq_true_eq] at h
  exact ⟨i, _, rfl, h.1, h.2.1, rfl, h.2.2⟩
theorem BlS.src (h : BlS w ib rb row w1) : ∀ j u, (Yb2 row)[j]? = some u → w1.cell? ((⟨rb, 0, none⟩ : Addr).add j) = some u := by
 obtain ⟨C, h1, h2, h3⟩ := h.r
 intro j u hu
 have e : (⟨rb, 0, none⟩ : Addr).add j = ⟨rb, j, none⟩ := by rcases j with _ | j <;> simp [Addr.add]
 rw [e, Ya h1]
 exact h3 _ _ hu
theorem BlS.base (h : BlS w ib rb row w1) : w.heap.size + 1 ≤ w1.heap.size := by
 have := h.l
 obtain ⟨C, hq, _⟩ := h.r
 have := Yv hq
 omega
theorem Ykz {b n : Nat} {v : Value} (hn : n = row.length) (h1 : 1 ≤ row.length) (h : w1.ownsRow b 42 16 v n (Yb2 row)) : ∃ g, b ≤ g ∧ ISl w1 v row g := by
 subst hn
 rcases h.2 with ⟨_, h0⟩ | ⟨g, cap, cur, rfl, hg, hb, _, _, hs, ht⟩
 ·omega
 ·refine ⟨g, hg, .inr ⟨0, cap, cur, (0, 0), rfl, hb, fun k u hk => ?_⟩⟩
  have hl := (List.getElem?_eq_some_iff.1 hk).1
  rw [Yeu] at hl
  rw [← ht, List.getElem?_take_of_lt (by omega), Array.getElem?_toList] at hk
  rw [Nat.zero_add]
  exact hk
end
structure BlX (w : World) (rb : Nat) (row : List Ins) (I : Ins) (xb : Nat) (d : Nat → Bool) (r : Nat → Value) (wr : World) : Prop where
 s : BlS w xb rb (if d 5 = true then row ++ [I] else row) wr
 i : wr.heap[xb]? = some (.cells I.cells 42 (0, 0))
 x : d 4 = true → ∃ g, r 4 = .slice (some ⟨g, 0, none⟩) 1 1 ∧ wr.heap[g]? = some (.cells I.cells 42 (0, 0))
section
variable {w w1 w2 : World} {ib rb xb k : Nat} {row : List Ins} {I : Ins} {d : Nat → Bool} {r : Nat → Value}
theorem BlS.ne (h : BlS w ib rb row w1) {g : Nat} {C : Array Value} {f : Nat × Nat} (hg : w1.heap[g]? = some (.cells C 42 f)) : g ≠ rb := by
 obtain ⟨C', hq, _⟩ := h.r
 intro e
 rw [← e, hg] at hq
 injection hq with hq
 injection hq with _ hq _
 exact absurd hq (by decide)
theorem BlX.start (h : BlS w ib rb row w1) (hi : w1.heap[xb]? = some (.cells I.cells 42 (0, 0))) (r : Nat → Value) : BlX w rb row I xb (fun _ => false) r w1.drew := by
 have g := h.step ((Upd.refl [] w1).drew)
 exact ⟨by rw [if_neg (by simp)]; exact ⟨g.r, g.z, g.u, g.l, g.n⟩, ((Upd.refl [] w1).drew).get hi (by simp), by simp⟩
theorem BlX.same (h : BlX w rb row I xb d r w1) (q : Nat) (h1 : 4 ≠ q) (h2 : 5 ≠ q) : BlX w rb row I xb (Ybq d q) r w1 := ⟨by rw [Ydi h2]; exact h.s, h.i, fun e => h.x (by rwa [Ydi h1] at e)⟩
theorem BlX.lay (h : BlX w rb row I xb d r w1) : BlX w rb row I xb (Ybq d 4) (Ygt r 4 (.slice (some ⟨w1.heap.size, 0, none⟩) 1 1)) (w1.alloc (.cells I.cells 42)) := by
 have u := (Upd.refl [] w1).alloc (.cells I.cells 42)
 exact ⟨by rw [Ydi (by decide)]; exact h.s.step u, u.get h.i (by simp), fun _ => ⟨_, bV_eq, heap_alloc_new _ _⟩⟩
theorem BlX.was (h : BlX w rb row I xb d r w1) (hd : d 5 = false) : BlS w xb rb row w1 := by
 have := h.s
 rwa [if_neg (by simp [hd])] at this
theorem BlX.done (h : BlX w rb row I xb d r w1) (hd : d 5 = true) : BlS w xb rb (row ++ [I]) w1 := by
 have := h.s
 rwa [if_pos hd] at this
theorem BlX.copy (h : BlX w rb row I xb d r w1) (hd : d 5 = false) (hn : row.length < 8) (hw : w1.setCells rb (row.length * 16) I.cells.toList = w2) : BlX w rb row I xb (Ybq d 5) r w2 := by
 have g := h.was hd
 have o : ∀ (b : Nat) (C : Array Value) (f : Nat × Nat), w1.heap[b]? = some (.cells C 42 f) → w2.heap[b]? = some (.cells C 42 f) := fun b C f hb => by rw [← hw, Yfa (g.ne hb)]; exact hb
 refine ⟨by rw [if_pos bD_eq]; exact g.copy hn hw, o _ _ _ h.i, fun e => ?_⟩
 obtain ⟨q, e1, e2⟩ := h.x (by rwa [Ydi (by decide)] at e)
 exact ⟨q, e1, o _ _ _ e2⟩
end
theorem Yqf {o : Oper} {a : Act} {w : World} {K : Act → World → Prop} {Q : Exit → Act → World → Prop} (s x : Operand)
  (ho : o.op = .call { callee := .builtin .copy, args := #[s, x], argTypes := #[30, 30] })
  (b off dLen dCap : Nat) (ad : Addr) (sLen sCap : Nat) (cs : List Value) (hs : a.eval s = .slice (some ⟨b, off, none⟩) dLen dCap) (hx : a.eval x = .slice (some ad) sLen sCap) (hn : cs.length = Nat.min sLen dLen * 16)
  (hsrc : ∀ j v, cs[j]? = some v → w.cell? (ad.add j) = some v) (hc : ∀ j, j < cs.length → (w.cell? ⟨b, off + j, none⟩).isSome = true) (hf : ∀ j, j < cs.length → w.frozen? ⟨b, off + j, none⟩ = false) (h1 : ∀ v ∈ cs, v.oneCell' = true)
  (h : ∀ w', w.setCells b off cs = w' → K (a.put o.dst (goInt (Nat.min sLen dLen))) w') : o.wp Tryz.prog a w K Q := by
 unfold Oper.wp execOp
 simp only [ho, resolve, invoke, builtin, Sem.run_bind, Sem.run_pure, Result.andThen_ok, List.map_toArray, List.map_cons, List.map_nil, hs, hx, Yjt w o.type b off dLen dCap ad sLen sCap cs hn hsrc hc hf h1]
 exact h _ rfl
theorem sl_hi (w : World) (b n : Nat) (hn : n ≤ 8) : (Instr.sliceAt 64 (.pointer (some ⟨b, 0, none⟩)) none (some (.int .i64 n)) none).run Tryz.prog w = .ok (.slice (some ⟨b, 0, none⟩) n 8) w := by
 have h : n = 0 ∨ n = 1 ∨ n = 2 ∨ n = 3 ∨ n = 4 ∨ n = 5 ∨ n = 6 ∨ n = 7 ∨ n = 8 := by omega
 rcases h with rfl | rfl | rfl | rfl | rfl | rfl | rfl | rfl | rfl <;> rfl
theorem sl_lo (w : World) (b n : Nat) (hn : n ≤ 7) : (Instr.sliceAt 64 (.pointer (some ⟨b, 0, none⟩)) (some (.int .i64 n)) none none).run Tryz.prog w = .ok (.slice (some ⟨b, n * 16, none⟩) (8 - n) (8 - n)) w := by
 have h : n = 0 ∨ n = 1 ∨ n = 2 ∨ n = 3 ∨ n = 4 ∨ n = 5 ∨ n = 6 ∨ n = 7 := by omega
 rcases h with rfl | rfl | rfl | rfl | rfl | rfl | rfl | rfl <;> rfl
structure BlE (w : World) (row : List Ins) (v : Value) (w1 : World) : Prop where
 s : ∃ g, w.heap.size < g ∧ ISl w1 v row g
 z : w1.heap[w.heap.size]? = some (.cells #[.int .i64 0, .int .u32 0, .int .u32 0, .int .i64 0] 32 (0, 0))
 u : Upd [] w w1
theorem BlE.of {w w1 w2 : World} {ib rb n : Nat} {row : List Ins} {v : Value} {xs : List Value} (h : BlS w ib rb row w1) (hn : n = row.length) (h1 : 1 ≤ row.length) (hx : xs = Yb2 row) (ho : w2.ownsRow (w.heap.size + 1) 42 16 v n xs) (hg : w1.grownBy w2 none) : BlE w row v w2 := by
 subst hx
 obtain ⟨g, hb, hI⟩ := Ykz hn h1 ho
 have u : Upd [] w1 w2 := Upd.of_grown (row := none) hg
 exact ⟨⟨g, by omega, hI⟩, u.get h.z (by simp), h.u.also u (by simp)⟩
theorem Yin {w w1 : World} {L row : List Ins} {v : Value} {a b c d : Value} (h : BlE w row v w1) (e : L = row) :
  ∃ v' g, v = v' ∧ ISl ((((w1.setCell ⟨w.heap.size, 0, none⟩ a).setCell ⟨w.heap.size, 1, none⟩ b).setCell ⟨w.heap.size, 2, none⟩ c).setCell ⟨w.heap.size, 3, none⟩ d) v' L g ∧ w.heap.size ≤ g ∧ Upd [] w ((((w1.setCell ⟨w.heap.size, 0, none⟩ a).setCell ⟨w.heap.size, 1, none⟩ b).setCell ⟨w.heap.size, 2, none⟩ c).setCell ⟨w.heap.size, 3, none⟩ d) := by
 subst e
 obtain ⟨g, hg, hI⟩ := h.s
 refine ⟨v, g, rfl, hI.keep (Yap (S := [w.heap.size]) (Upd.refl _ w1) (.inl (by simp)) _ _ _ _) (by simp; omega), by omega, Yap h.u (.inr (Nat.le_refl _)) _ _ _ _⟩
theorem Find_yes (M : Mem) (a pb : Nat) (pc : Int) (w : World) (hM : Yan w a pb M) (h0 : 0 ≤ pc ∧ pc < 4294967296) (hk : (Yat M pc).k = true) :
  Calls Tryz.prog 8 #[.pointer (some ⟨a, 0, none⟩), .int .u32 pc] w fun e w' => ∃ v g, e = .returned (.tuple #[v, Flt.zero.val, .bool true]) ∧ ISl w' v (Ybp M pc) g ∧ w.heap.size ≤ g ∧ Upd [] w w' := by
 have HM := Yh_ (And.intro hM h0)
 have hlen := Ygg hk
 obtain ⟨i0, B0, hi0⟩ := info_ins
 have HI0 := Yh_ hi0
 clear hi0
 obtain ⟨I, hI⟩ : ∃ I, (Yat M pc).i = I := ⟨_, rfl⟩
 obtain ⟨fk, fp, fa, fw, hF⟩ := Ygm M pc
 rw [hI] at hlen
 have HR := Yh_ (And.intro hI (And.intro hF hk))
 have tok : True := trivial
 clear hM h0 hk hI hF
 go_enter Tryz.func8, Tryz.ntmps8
 go_wp2_with (first | (have _t := tok; clear _t; go_at_call 22; refine (Yhh M a pb pc _ (HM.out.1.keep ((Upd.refl [] w).alloc _) (by simp) (by simp)) HM.out.2).mono ?_; rintro e w1 ⟨rfl, hu⟩; rw [HR.out.1, HR.out.2.1, HR.out.2.2]; unfold Flt.val; have U1 := Yh_ hu; clear hu tok) | (have _t := U1; clear _t; refine Ye 42 rfl ?_; refine Yb I w1.heap.size rfl _ _ rfl rfl rfl (heap_alloc2_old w1 (.cells Ins.zero.cells 42) Yfy) rfl ?_; intro w2 hw; have h2 := Yfp hw; have H2 := Yh_ (BlF.of ⟨fk, fp, fa, fw⟩ U1.out h2); have c2 := Ya h2.2.1; have f2 := Yh h2.2.1; clear hw h2 U1))
 have h3 := H2.out
 have hsz : ((((w2.setCell ⟨w1.heap.size + 1, 0, none⟩ (.int .i64 fk)).setCell ⟨w1.heap.size + 1, 1, none⟩ (.int .u32 fp)).setCell ⟨w1.heap.size + 1, 2, none⟩ (.int .u32 fa)).setCell ⟨w1.heap.size + 1, 3, none⟩ (.int .i64 fw)).heap.size = w2.heap.size := by simp
 clear c2 f2 H2
 generalize ((((w2.setCell ⟨w1.heap.size + 1, 0, none⟩ (.int .i64 fk)).setCell ⟨w1.heap.size + 1, 1, none⟩ (.int .u32 fp)).setCell ⟨w1.heap.size + 1, 2, none⟩ (.int .u32 fa)).setCell ⟨w1.heap.size + 1, 3, none⟩ (.int .i64 fw)) = w3 at h3 hsz ⊢
 rw [← hsz]
 have hS : BlS w w1.heap.size w3.heap.size [] (w3.alloc (.cells Tryz.zeroCells64 64)) := by
  have u := (Upd.refl [] w3).alloc (.cells Tryz.zeroCells64 64)
  have := Yv h3.z
  exact ⟨⟨_, heap_alloc_new _ _, by kernel_rfl, by simp [Yb2]⟩, u.get h3.z (by simp), h3.u.also u (by simp), this, by simp⟩
 have H3 := Yh_ (And.intro hS (((Upd.refl [] w3).alloc (.cells Tryz.zeroCells64 64)).get h3.i (by simp)))
 clear h3 hsz hS
 refine Ydl 3 (BlD w w3.heap.size [] I w1.heap.size 2) (fun _ _ => False) (by kernel_rfl) (by kernel_rfl) (fun r0 => BlD.start H3.out.1 H3.out.2 r0) (fun _ _ _ h => h.elim) ?_
 simp only [List.take_succ_cons, List.take_zero, List.drop_succ_cons, List.drop_zero]
 apply Yaf rfl rfl
 ·intro d r0 K hd hdep hK w5 hB1
  have HB := Yh_ hB1
  clear hB1 hdep
  go_wp2_with fail
  first
  |exact hK _ (HB.out.same _ (by decide))
  |exact HB.out.same _ (by decide)
 ·exact ⟨_, rfl⟩
 apply Yaf rfl rfl
 ·intro d r0 K hd hdep hK w5 hB1
  refine Yii I w1.heap.size _ rfl rfl hB1.i ?_
  exact hK _ (hB1.same _ (by decide))
 ·exact ⟨_, rfl⟩
 refine Ydg rfl (fun _ => rfl) 28 rfl (by simp [Act.put]) ?_ ?_
 ·intro d r0 K hd w5 hB1 hK
  refine Yj4 I _ rfl rfl ?_
  exact hK _ _ hB1.lay
 refine Yc9 (fun _ r0 w5 d hall hB1 => ?_)
 obtain ⟨g, e1, hg, hgI⟩ := hB1.x (hall 2 (by decide))
 show wpList _ _ _ _ (Act.put (Yax _ _ [] _) (some 28) (r0 2)) _
 rw [e1]
 simp only [Yax]
 have HB := Yh_ (And.intro hB1.s hgI)
 have hi3 := hB1.i
 clear hB1 hgI
 have hne : w1.heap.size ≠ w3.heap.size := by
  obtain ⟨C, hq, _⟩ := HB.out.1.r
  intro e
  rw [← e, hi3] at hq
  injection hq with hq
  injection hq with _ hq _
  exact absurd hq (by decide)
 refine Ykt rfl _ _ rfl w3.heap.size 0 8 8 ⟨g, 0, none⟩ 1 1 I.cells.toList rfl rfl rfl (Yq8 HB.out.2) (fun j hj => ((HB.out.1.cell (by decide) j hj).1)) (fun j hj => ((HB.out.1.cell (by decide) j hj).2)) (fun v hv => Yeq (l := [I]) v (by simpa [Yb2] using hv)) ?_
 intro w6 hw6
 have H6 := Yh_ (HB.out.1.copy (by decide) hw6)
 have hi6 : w6.heap[w1.heap.size]? = some (.cells I.cells 42 (0, 0)) := by rw [← hw6, Yfa hne]; exact hi3
 have c6 : w6.cell? ⟨w1.heap.size, 15, none⟩ = some (.int .i64 I.len) := Ya hi6 15
 clear HB hw6 hi3 hi6
 go_wp2_with fail
 go_loopw [11, 12] (fun n t wr => ∃ (row : List Ins) (x : Int), 1 ≤ row.length ∧ row.length ≤ 8 ∧ n = .int .i64 row.length ∧ t = .int .u32 x ∧ (0 ≤ x ∧ x < 4294967296) ∧ BlS w w1.heap.size w3.heap.size row wr ∧ Ybp M pc = Yf5 M pc (9 - row.length) row x) (fun n _ _ => 8 - (intOf n).toNat)
 case atStart => exact ⟨[I], (pc + I.len) % 4294967296, by simp, by simp, rfl, by go_num, by omega, H6.out, by rw [Ybp, if_pos HR.out.2.2, HR.out.1]; rfl⟩
 case round =>
  obtain ⟨row, x, hr1, hr8, rfl, rfl, hx, hS, hfin⟩ := hrel
  have HS := Yh_ (And.intro hS hx)
  clear hS hx H6 c6
  have HX := Yh_ hfin
  clear hfin
  have tZ : True := trivial
  have hsl := fun w' => sl_hi w' w3.heap.size row.length hr8
  have KB := Yh_ (show (0 + row.length) * B0 ≤ 140737488355328 by have := HI0.out.2.2.2.2; have : (0 + row.length) * B0 ≤ 8 * 1000 := Nat.mul_le_mul (by omega) this; omega)
  by_cases h8 : row.length < 8
  ·have d8 : decide ((row.length : Int) < 8) = true := by simp; omega
   have hso := fun w' => sl_lo w' w3.heap.size row.length (by omega)
   obtain ⟨last, hlast⟩ : ∃ last, row[row.length - 1]? = some last := ⟨row[row.length - 1]'(by omega), List.getElem?_eq_getElem (by omega)⟩
   have hgd : row.getD (row.length - 1) Ins.zero = last := by rw [List.getD_eq_getElem?_getD, hlast]; rfl
   have h9 : 9 - row.length = (8 - row.length) + 1 := by omega
   rw [h9] at HX
   have HL := Yh_ hlast
   clear hlast
   cases he : Yfc last
   ·by_cases hp : (x - 1) % 4294967296 / 256 = pc / 256
    ·have dp : decide ((x - 1) % 4294967296 / 256 = pc / 256) = true := by simp [hp]
     have hgo : Yhb pc x row = true := by simp only [Yhb, hgd, he]; simp [h8, hp]
     obtain ⟨J, hJ⟩ : ∃ J, (Yat M x).i = J := ⟨_, rfl⟩
     obtain ⟨jk, jp, ja, jw, hJF⟩ := Ygm M x
     have tB : True := trivial
     cases hk2 : (Yat M x).k
     ·have HRow := Yh_ (show Ybp M pc = row by rw [HX.out]; simp [Yf5, Ye4, hk2])
      have HJ := Yh_ (And.intro hJ (And.intro hJF hk2))
      clear hJ hJF hk2 HX hgo hgd
      go_wp2_with (first | (have _t := HL; clear _t; refine Ybl last w3.heap.size ((row.length - 1) * 16) rfl _ rfl rfl (HS.out.1.at HL.out) ?_; clear HL; have tA : True := trivial) | (have _t := tA; clear _t; go_at_call 23; refine (Yh4 last _).mono ?_; rintro e wA ⟨rfl, hu⟩; rw [he]; have HS2 := Yh_ (And.intro (HS.out.1.step hu) HS.out.2); clear hu tA HS; have HS := HS2; clear HS2) | (go_at_call 24; refine (Yhm _ _ (by first | exact HM.out.2 | omega)).mono ?_; rintro e wB ⟨rfl, rfl⟩) | (have _t := tB; clear _t; go_at_call 22; refine (Yhh M a pb x _ (HM.out.1.keep HS.out.1.u (by simp) (by simp)) HS.out.2).mono ?_; rintro e wF ⟨rfl, hu⟩; rw [HJ.out.1, HJ.out.2.1, HJ.out.2.2]; unfold Flt.val; have HS2 := Yh_ (And.intro (HS.out.1.step hu) HS.out.2); clear hu tB HS; have HS := HS2; clear HS2; have tC : True := trivial) | (have _t := tC; clear _t; refine Ye 42 rfl ?_; refine Yb J wF.heap.size rfl _ _ rfl rfl rfl (heap_alloc2_old wF (.cells Ins.zero.cells 42) Yfy) rfl ?_; intro wG hw; have h2 := Yfp hw; have c2 := Ya h2.2.1; have f2 := Yh h2.2.1; have HS2 := Yh_ (And.intro (HS.out.1.step (Yap (S := []) (b := wF.heap.size + 1) h2.2.2 (.inr (by simp)) (.int .i64 jk) (.int .u32 jp) (.int .u32 ja) (.int .i64 jw))) HS.out.2); have HG := Yh_ ((Yap (S := [wF.heap.size + 1]) (b := wF.heap.size + 1) (Upd.refl _ wG) (.inl (by simp)) (.int .i64 jk) (.int .u32 jp) (.int .u32 ja) (.int .i64 jw)).get h2.1 (by simp)); have c15 := Ya HG.out 15; rw [show (J.cells)[15]? = some (.int .i64 J.len) from rfl] at c15; clear h2 hw HS tC; have HS := HS2; clear HS2) | (have _t := tZ; clear _t; at_builtin; refine wpList_append_own _ rfl _ _ 30 rfl (w.heap.size + 1) 42 i0 (.agg Ins.zero.cells) 16 B0 Tryz.underlying30 HI0.out.1 HI0.out.2.1 HI0.out.2.2.1 HI0.out.2.2.2.1 rfl (by decide) _ _ _ rfl (World.ownsRow_nil _ _ _ _) ⟨w3.heap.size, 0, none⟩ row.length 8 (Yb2 row) (by first | rfl | (rw [hr8']; rfl)) (Yeu row) HS.out.1.src Yeq (by unfold maxLen; omega) KB.out HS.out.1.base ?_; intro v' w9 hv hg _; have hE := BlE.of HS.out.1 (Nat.zero_add _) hr1 (List.nil_append _) hv hg; have c9 := Ya hE.z; have f9 := Yh hE.z; have HE := Yh_ hE; clear hv hg hE HS tZ))
      exact bodyPost_ret (Ya3 rfl (Yk 4 rfl) (Ycp 5 w.heap.size Flt.zero rfl (Ycx HE.out.z _ _ _ _)) (Yk 6 rfl)) rfl (by obtain ⟨v, g, rfl, hh⟩ := Yin (a := .int .i64 0) (b := .int .u32 0) (c := .int .u32 0) (d := .int .i64 0) HE.out HRow.out; exact ⟨_, g, rfl, hh⟩)
     ·have hjl := Ygg hk2
      rw [hJ] at hjl
      by_cases hq : (x + J.len - 1) % 4294967296 / 256 = pc / 256
      ·have dq : decide ((x + J.len - 1) % 4294967296 / 256 = pc / 256) = true := by simp [hq]
       have HRow := Yh_ (show Ybp M pc = Yf5 M pc (8 - row.length) (row ++ [J]) ((x + J.len) % 4294967296) by rw [HX.out, Yf5, if_pos ⟨hgo, by simp [Ye4, hk2, hJ, hq]⟩, hJ])
       have HJ := Yh_ (And.intro hJ (And.intro hJF hk2))
       clear hJ hJF hk2 HX hgo hgd
       go_wp2_with (first | (have _t := HL; clear _t; refine Ybl last w3.heap.size ((row.length - 1) * 16) rfl _ rfl rfl (HS.out.1.at HL.out) ?_; clear HL; have tA : True := trivial) | (have _t := tA; clear _t; go_at_call 23; refine (Yh4 last _).mono ?_; rintro e wA ⟨rfl, hu⟩; rw [he]; have HS2 := Yh_ (And.intro (HS.out.1.step hu) HS.out.2); clear hu tA HS; have HS := HS2; clear HS2) | (go_at_call 24; refine (Yhm _ _ (by first | exact HM.out.2 | omega)).mono ?_; rintro e wB ⟨rfl, rfl⟩) | (have _t := tB; clear _t; go_at_call 22; refine (Yhh M a pb x _ (HM.out.1.keep HS.out.1.u (by simp) (by simp)) HS.out.2).mono ?_; rintro e wF ⟨rfl, hu⟩; rw [HJ.out.1, HJ.out.2.1, HJ.out.2.2]; unfold Flt.val; have HS2 := Yh_ (And.intro (HS.out.1.step hu) HS.out.2); clear hu tB HS; have HS := HS2; clear HS2; have tC : True := trivial) | (have _t := tC; clear _t; refine Ye 42 rfl ?_; refine Yb J wF.heap.size rfl _ _ rfl rfl rfl (heap_alloc2_old wF (.cells Ins.zero.cells 42) Yfy) rfl ?_; intro wG hw; have h2 := Yfp hw; have c2 := Ya h2.2.1; have f2 := Yh h2.2.1; have HS2 := Yh_ (And.intro (HS.out.1.step (Yap (S := []) (b := wF.heap.size + 1) h2.2.2 (.inr (by simp)) (.int .i64 jk) (.int .u32 jp) (.int .u32 ja) (.int .i64 jw))) HS.out.2); have HG := Yh_ ((Yap (S := [wF.heap.size + 1]) (b := wF.heap.size + 1) (Upd.refl _ wG) (.inl (by simp)) (.int .i64 jk) (.int .u32 jp) (.int .u32 ja) (.int .i64 jw)).get h2.1 (by simp)); have c15 := Ya HG.out 15; rw [show (J.cells)[15]? = some (.int .i64 J.len) from rfl] at c15; clear h2 hw HS tC; have HS := HS2; clear HS2))
       have h4 := HS.out
       have g4 := HG.out
       clear HS HG c2 f2 c15
       generalize ((((wG.setCell ⟨wF.heap.size + 1, 0, none⟩ (.int .i64 jk)).setCell ⟨wF.heap.size + 1, 1, none⟩ (.int .u32 jp)).setCell ⟨wF.heap.size + 1, 2, none⟩ (.int .u32 ja)).setCell ⟨wF.heap.size + 1, 3, none⟩ (.int .i64 jw)) = w4 at h4 g4 ⊢
       have H4 := Yh_ (And.intro h4.1 g4)
       have hx4 := h4.2
       clear h4 g4
       refine Ydl 6 (BlX w w3.heap.size row J wF.heap.size) (fun _ _ => False) (by kernel_rfl) (by kernel_rfl) (fun r0 => BlX.start H4.out.1 H4.out.2 r0) (fun _ _ _ h => h.elim) ?_
       simp only [List.take_succ_cons, List.take_zero, List.drop_succ_cons, List.drop_zero]
       iterate 3
        apply Yaf rfl rfl
        ·intro d r0 K hd hdep hK w5 hB1
         have HB := Yh_ hB1
         clear hB1 hdep
         go_wp2_with fail
         first
         |exact hK _ (HB.out.same _ (by decide) (by decide))
         |exact HB.out.same _ (by decide) (by decide)
        ·exact ⟨_, rfl⟩
       apply Yaf rfl rfl
       ·intro d r0 K hd hdep hK w5 hB1
        refine Yii J wF.heap.size _ rfl rfl hB1.i ?_
        exact hK _ (hB1.same _ (by decide) (by decide))
       ·exact ⟨_, rfl⟩
       refine Ydg rfl (fun _ => rfl) 78 rfl (by simp [Act.put]) ?_ ?_
       ·intro d r0 K hd w5 hB1 hK
        refine Yj4 J _ rfl rfl ?_
        exact hK _ _ hB1.lay
       have hmin : Nat.min 1 (8 - row.length) = 1 := Nat.min_eq_left (by omega)
       refine Yt9 (a2 := fun r => (Yax _ r [4] _).put (some 79) (.int .i64 1)) rfl (fun _ => rfl) ?_ ⟨.int .i64 1, fun _ => rfl, rfl⟩ ?_
       ·intro d r0 K hd hdep hK w5 hB1
        have d4 : d 4 = true := hdep ⟨4, .data⟩ (by simp) rfl
        obtain ⟨g2, e2, hgI⟩ := hB1.x d4
        refine Yqf _ _ rfl w3.heap.size (row.length * 16) (8 - row.length) (8 - row.length) ⟨g2, 0, none⟩ 1 1 J.cells.toList rfl e2 (by rw [hmin]; rfl) (Yq8 hgI) (fun j hj => (((hB1.was hd).cell h8 j hj).1)) (fun j hj => (((hB1.was hd).cell h8 j hj).2)) (fun v hv => Yeq (l := [J]) v (by simpa [Yb2] using hv)) ?_
        intro w7 hw7
        rw [hmin]
        exact hK _ (hB1.copy hd h8 hw7)
       refine Yc9 (fun _ r0 w5 d hall hB1 => ?_)
       have H7 := Yh_ (hB1.done (hall 5 (by decide)))
       have c7 : w5.cell? ⟨wF.heap.size, 15, none⟩ = some (.int .i64 J.len) := Ya hB1.i 15
       clear hB1
       show wpList _ _ _ _ (Act.put (Yax _ _ [] _) (some 78) (r0 4)) _
       generalize r0 4 = v4
       simp only [Yax]
       go_wp2_with fail
       go_roundw
       case rel => exact ⟨row ++ [J], (x + J.len) % 4294967296, by simp, by simp <;> omega, by first | rfl | simp, by first | rfl | go_num, by omega, ⟨H7.out.r, H7.out.z, H7.out.u, H7.out.l, H7.out.n⟩, by rw [HRow.out, show 9 - (row ++ [J]).length = 8 - row.length from by simp <;> omega]⟩
       case measure => simp [intOf]; omega
      ·have dq : decide ((x + J.len - 1) % 4294967296 / 256 = pc / 256) = false := by simp [hq]
       have HRow := Yh_ (show Ybp M pc = row by rw [HX.out]; simp [Yf5, Ye4, hJ, hq])
       have HJ := Yh_ (And.intro hJ (And.intro hJF hk2))
       clear hJ hJF hk2 HX hgo hgd
       go_wp2_with (first | (have _t := HL; clear _t; refine Ybl last w3.heap.size ((row.length - 1) * 16) rfl _ rfl rfl (HS.out.1.at HL.out) ?_; clear HL; have tA : True := trivial) | (have _t := tA; clear _t; go_at_call 23; refine (Yh4 last _).mono ?_; rintro e wA ⟨rfl, hu⟩; rw [he]; have HS2 := Yh_ (And.intro (HS.out.1.step hu) HS.out.2); clear hu tA HS; have HS := HS2; clear HS2) | (go_at_call 24; refine (Yhm _ _ (by first | exact HM.out.2 | omega)).mono ?_; rintro e wB ⟨rfl, rfl⟩) | (have _t := tB; clear _t; go_at_call 22; refine (Yhh M a pb x _ (HM.out.1.keep HS.out.1.u (by simp) (by simp)) HS.out.2).mono ?_; rintro e wF ⟨rfl, hu⟩; rw [HJ.out.1, HJ.out.2.1, HJ.out.2.2]; unfold Flt.val; have HS2 := Yh_ (And.intro (HS.out.1.step hu) HS.out.2); clear hu tB HS; have HS := HS2; clear HS2; have tC : True := trivial) | (have _t := tC; clear _t; refine Ye 42 rfl ?_; refine Yb J wF.heap.size rfl _ _ rfl rfl rfl (heap_alloc2_old wF (.cells Ins.zero.cells 42) Yfy) rfl ?_; intro wG hw; have h2 := Yfp hw; have c2 := Ya h2.2.1; have f2 := Yh h2.2.1; have HS2 := Yh_ (And.intro (HS.out.1.step (Yap (S := []) (b := wF.heap.size + 1) h2.2.2 (.inr (by simp)) (.int .i64 jk) (.int .u32 jp) (.int .u32 ja) (.int .i64 jw))) HS.out.2); have HG := Yh_ ((Yap (S := [wF.heap.size + 1]) (b := wF.heap.size + 1) (Upd.refl _ wG) (.inl (by simp)) (.int .i64 jk) (.int .u32 jp) (.int .u32 ja) (.int .i64 jw)).get h2.1 (by simp)); have c15 := Ya HG.out 15; rw [show (J.cells)[15]? = some (.int .i64 J.len) from rfl] at c15; clear h2 hw HS tC; have HS := HS2; clear HS2) | (have _t := tZ; clear _t; at_builtin; refine wpList_append_own _ rfl _ _ 30 rfl (w.heap.size + 1) 42 i0 (.agg Ins.zero.cells) 16 B0 Tryz.underlying30 HI0.out.1 HI0.out.2.1 HI0.out.2.2.1 HI0.out.2.2.2.1 rfl (by decide) _ _ _ rfl (World.ownsRow_nil _ _ _ _) ⟨w3.heap.size, 0, none⟩ row.length 8 (Yb2 row) (by first | rfl | (rw [hr8']; rfl)) (Yeu row) HS.out.1.src Yeq (by unfold maxLen; omega) KB.out HS.out.1.base ?_; intro v' w9 hv hg _; have hE := BlE.of HS.out.1 (Nat.zero_add _) hr1 (List.nil_append _) hv hg; have c9 := Ya hE.z; have f9 := Yh hE.z; have HE := Yh_ hE; clear hv hg hE HS tZ))
       exact bodyPost_ret (Ya3 rfl (Yk 4 rfl) (Ycp 5 w.heap.size Flt.zero rfl (Ycx HE.out.z _ _ _ _)) (Yk 6 rfl)) rfl (by obtain ⟨v, g, rfl, hh⟩ := Yin (a := .int .i64 0) (b := .int .u32 0) (c := .int .u32 0) (d := .int .i64 0) HE.out HRow.out; exact ⟨_, g, rfl, hh⟩)
    ·have dp : decide ((x - 1) % 4294967296 / 256 = pc / 256) = false := by simp [hp]
     have HRow := Yh_ (show Ybp M pc = row by rw [HX.out]; simp [Yf5, Yhb, hp])
     clear hgd HX
     go_wp2_with (first | (have _t := HL; clear _t; refine Ybl last w3.heap.size ((row.length - 1) * 16) rfl _ rfl rfl (HS.out.1.at HL.out) ?_; clear HL; have tA : True := trivial) | (have _t := tA; clear _t; go_at_call 23; refine (Yh4 last _).mono ?_; rintro e wA ⟨rfl, hu⟩; rw [he]; have HS2 := Yh_ (And.intro (HS.out.1.step hu) HS.out.2); clear hu tA HS; have HS := HS2; clear HS2) | (go_at_call 24; refine (Yhm _ _ (by first | exact HM.out.2 | omega)).mono ?_; rintro e wB ⟨rfl, rfl⟩) | (have _t := tZ; clear _t; at_builtin; refine wpList_append_own _ rfl _ _ 30 rfl (w.heap.size + 1) 42 i0 (.agg Ins.zero.cells) 16 B0 Tryz.underlying30 HI0.out.1 HI0.out.2.1 HI0.out.2.2.1 HI0.out.2.2.2.1 rfl (by decide) _ _ _ rfl (World.ownsRow_nil _ _ _ _) ⟨w3.heap.size, 0, none⟩ row.length 8 (Yb2 row) (by first | rfl | (rw [hr8']; rfl)) (Yeu row) HS.out.1.src Yeq (by unfold maxLen; omega) KB.out HS.out.1.base ?_; intro v' w9 hv hg _; have hE := BlE.of HS.out.1 (Nat.zero_add _) hr1 (List.nil_append _) hv hg; have c9 := Ya hE.z; have f9 := Yh hE.z; have HE := Yh_ hE; clear hv hg hE HS tZ))
     exact bodyPost_ret (Ya3 rfl (Yk 4 rfl) (Ycp 5 w.heap.size Flt.zero rfl (Ycx HE.out.z _ _ _ _)) (Yk 6 rfl)) rfl (by obtain ⟨v, g, rfl, hh⟩ := Yin (a := .int .i64 0) (b := .int .u32 0) (c := .int .u32 0) (d := .int .i64 0) HE.out HRow.out; exact ⟨_, g, rfl, hh⟩)
   ·have HRow := Yh_ (show Ybp M pc = row by rw [HX.out]; simp only [Yf5, Yhb, hgd, he]; simp)
    clear hgd HX
    go_wp2_with (first | (have _t := HL; clear _t; refine Ybl last w3.heap.size ((row.length - 1) * 16) rfl _ rfl rfl (HS.out.1.at HL.out) ?_; clear HL; have tA : True := trivial) | (have _t := tA; clear _t; go_at_call 23; refine (Yh4 last _).mono ?_; rintro e wA ⟨rfl, hu⟩; rw [he]; have HS2 := Yh_ (And.intro (HS.out.1.step hu) HS.out.2); clear hu tA HS; have HS := HS2; clear HS2) | (have _t := tZ; clear _t; at_builtin; refine wpList_append_own _ rfl _ _ 30 rfl (w.heap.size + 1) 42 i0 (.agg Ins.zero.cells) 16 B0 Tryz.underlying30 HI0.out.1 HI0.out.2.1 HI0.out.2.2.1 HI0.out.2.2.2.1 rfl (by decide) _ _ _ rfl (World.ownsRow_nil _ _ _ _) ⟨w3.heap.size, 0, none⟩ row.length 8 (Yb2 row) (by first | rfl | (rw [hr8']; rfl)) (Yeu row) HS.out.1.src Yeq (by unfold maxLen; omega) KB.out HS.out.1.base ?_; intro v' w9 hv hg _; have hE := BlE.of HS.out.1 (Nat.zero_add _) hr1 (List.nil_append _) hv hg; have c9 := Ya hE.z; have f9 := Yh hE.z; have HE := Yh_ hE; clear hv hg hE HS tZ))
    exact bodyPost_ret (Ya3 rfl (Yk 4 rfl) (Ycp 5 w.heap.size Flt.zero rfl (Ycx HE.out.z _ _ _ _)) (Yk 6 rfl)) rfl (by obtain ⟨v, g, rfl, hh⟩ := Yin (a := .int .i64 0) (b := .int .u32 0) (c := .int .u32 0) (d := .int .i64 0) HE.out HRow.out; exact ⟨_, g, rfl, hh⟩)
  ·have hr8' : row.length = 8 := by omega
   have HRow := Yh_ (show Ybp M pc = row by rw [HX.out, hr8']; simp [Yf5, Yhb, hr8'])
   have d8 : decide ((row.length : Int) < 8) = false := by simp; omega
   go_wp2_with (first | (have _t := tZ; clear _t; at_builtin; refine wpList_append_own _ rfl _ _ 30 rfl (w.heap.size + 1) 42 i0 (.agg Ins.zero.cells) 16 B0 Tryz.underlying30 HI0.out.1 HI0.out.2.1 HI0.out.2.2.1 HI0.out.2.2.2.1 rfl (by decide) _ _ _ rfl (World.ownsRow_nil _ _ _ _) ⟨w3.heap.size, 0, none⟩ row.length 8 (Yb2 row) (by first | rfl | (rw [hr8']; rfl)) (Yeu row) HS.out.1.src Yeq (by unfold maxLen; omega) KB.out HS.out.1.base ?_; intro v' w9 hv hg _; have hE := BlE.of HS.out.1 (Nat.zero_add _) hr1 (List.nil_append _) hv hg; have c9 := Ya hE.z; have f9 := Yh hE.z; have HE := Yh_ hE; clear hv hg hE HS tZ))
   exact bodyPost_ret (Ya3 rfl (Yk 4 rfl) (Ycp 5 w.heap.size Flt.zero rfl (Ycx HE.out.z _ _ _ _)) (Yk 6 rfl)) rfl (by obtain ⟨v, g, rfl, hh⟩ := Yin (a := .int .i64 0) (b := .int .u32 0) (c := .int .u32 0) (d := .int .i64 0) HE.out HRow.out; exact ⟨_, g, rfl, hh⟩)
end
section
structure RnS (w : World) (v : Value) (row : List Ins) (w1 : World) : Prop where
 o : w1.ownsRow (w.heap.size + 1) 42 16 v row.length (Yb2 row)
 z : w1.heap[w.heap.size]? = some (.cells #[.int .i64 0, .int .u32 0, .int .u32 0, .int .i64 0] 32 (0, 0))
 u : Upd [] w w1
theorem RnS.step {w w1 w2 : World} {v : Value} {row : List Ins} (h : RnS w v row w1) (u : Upd [] w1 w2) : RnS w v row w2 := by
 refine ⟨h.o.kept (row := none) ⟨u.os, u.tape, u.output, u.size, fun k hk _ => u.block k hk (by simp)⟩ ?_, u.get h.z (by simp), h.u.also u (by simp)⟩
 cases v.ownBlock <;> simp
theorem RnS.form {w w1 : World} {v : Value} {row : List Ins} (h : RnS w v row w1) : ∃ b c, v = .slice b row.length c := by
 rcases h.o.2 with ⟨h1, h2⟩ | ⟨g, cap, cur, h1, _⟩
 ·exact ⟨none, 0, by rw [h1, h2]⟩
 ·exact ⟨_, _, h1⟩
theorem RnS.isl {w w1 : World} {v : Value} {row : List Ins} (h : RnS w v row w1) : ∃ g, w.heap.size < g ∧ ISl w1 v row g := by
 rcases h.o.2 with ⟨h1, h2⟩ | _
 ·exact ⟨w.heap.size + 1, by omega, .inl ⟨h1, List.eq_nil_of_length_eq_zero h2⟩⟩
 ·cases row with
  |nil =>
   rcases h.o.2 with ⟨h1, h2⟩ | ⟨g, cap, cur, h1, hg, hb, _⟩
   ·exact ⟨w.heap.size + 1, by omega, .inl ⟨h1, rfl⟩⟩
   ·exact ⟨g, by omega, .inr ⟨0, cap, cur, (0, 0), h1, hb, fun k u hk => by simp [Yb2] at hk⟩⟩
  |cons i l =>
   obtain ⟨g, h1, h2⟩ := Ykz rfl (by simp) h.o
   exact ⟨g, by omega, h2⟩
structure RnF (w : World) (v : Value) (row : List Ins) (J : Ins) (F : Flt) (ib : Nat) (w1 : World) : Prop where
 s : RnS w v row w1
 i : w1.heap[ib]? = some (.cells J.cells 42 (0, 0))
 f : w1.heap[ib + 1]? = some (.cells #[.int .i64 F.k, .int .u32 F.pc, .int .u32 F.a, .int .i64 F.wt] 32 (0, 0))
 q : ∀ z, v.ownBlock = some z → z ≠ ib
 l : w.heap.size < ib
theorem RnF.of {w w1 w2 : World} {v : Value} {row : List Ins} {J : Ins} (F : Flt) (h : RnS w v row w1) (h2 : w2.heap[w1.heap.size]? = some (.cells J.cells 42 (0, 0)) ∧ w2.heap[w1.heap.size + 1]? = some (.cells #[.int .i64 0, .int .u32 0, .int .u32 0, .int .i64 0] 32 (0, 0)) ∧ Upd [] w1 w2) :
  RnF w v row J F w1.heap.size ((((w2.setCell ⟨w1.heap.size + 1, 0, none⟩ (.int .i64 F.k)).setCell ⟨w1.heap.size + 1, 1, none⟩ (.int .u32 F.pc)).setCell ⟨w1.heap.size + 1, 2, none⟩ (.int .u32 F.a)).setCell ⟨w1.heap.size + 1, 3, none⟩ (.int .i64 F.wt)) := by
 have u4 := Yap (S := [w1.heap.size + 1]) (b := w1.heap.size + 1) (Upd.refl _ w2) (.inl (by simp)) (.int .i64 F.k) (.int .u32 F.pc) (.int .u32 F.a) (.int .i64 F.wt)
 have u5 := Yap (S := []) (b := w1.heap.size + 1) h2.2.2 (.inr (by omega)) (.int .i64 F.k) (.int .u32 F.pc) (.int .u32 F.a) (.int .i64 F.wt)
 exact ⟨h.step u5, u4.get h2.1 (by simp), Ycx h2.2.1 _ _ _ _, fun z hz e => by have := (h.o.lt z hz).2; omega, Yv h.z⟩
theorem RnF.grow {w w3 w4 : World} {v v' : Value} {row : List Ins} {J : Ins} {F : Flt} {ib m : Nat} {xs : List Value} (h : RnF w v row J F ib w3) (hm : m = (row ++ [J]).length) (hx : xs = Yb2 (row ++ [J])) (ho : w4.ownsRow (w.heap.size + 1) 42 16 v' m xs) (hg : (w3.alloc (.cells J.cells 42)).grownBy w4 v.ownBlock) :
  RnS w v' (row ++ [J]) w4 ∧ w4.heap[ib]? = some (.cells J.cells 42 (0, 0)) := by
 subst hm hx
 have ua := (Upd.refl [] w3).alloc (.cells J.cells 42)
 have uu : Upd v.ownBlock.toList w3 w4 := ua.trans (Upd.of_grown hg) (by simp) (fun z hz => .inl hz)
 have hne : ∀ z, z ∈ v.ownBlock.toList → w.heap.size + 1 ≤ z := fun z hz => (h.s.o.lt z (by simpa using hz)).1
 exact ⟨⟨ho, uu.get h.s.z (fun hb => by have := hne _ hb; omega), h.s.u.new uu (fun z hz => by have := hne z hz; omega)⟩, uu.get h.i (fun hb => h.q ib (by simpa using hb) rfl)⟩
theorem RnF.base {w w3 : World} {v : Value} {row : List Ins} {J : Ins} {F : Flt} {ib : Nat} (h : RnF w v row J F ib w3) (O : Obj) : w.heap.size + 1 ≤ (w3.alloc O).heap.size := by
 have := h.l
 have := Yv h.i
 simp
 omega
section
variable {M : Mem} {pc x : Int} {n : Nat} {row : List Ins} {J : Ins} {F : Flt}
end
structure RnD (w : World) (v : Value) (row : List Ins) (F : Flt) (ib : Nat) (d : Nat → Bool) (w1 : World) : Prop where
 i : ∃ g, w.heap.size < g ∧ ISl w1 v row g
 f : w1.heap[ib + 1]? = some (.cells #[.int .i64 F.k, .int .u32 F.pc, .int .u32 F.a, .int .i64 F.wt] 32 (0, 0))
 z : ∃ G : Flt, w1.heap[w.heap.size]? = some (.cells #[.int .i64 G.k, .int .u32 G.pc, .int .u32 G.a, .int .i64 G.wt] 32 (0, 0)) ∧ (d 6 = true → G = F)
 u : Upd [] w w1
 l : w.heap.size < ib
theorem RnD.start {w w1 : World} {v : Value} {row : List Ins} {J : Ins} {F : Flt} {ib : Nat} (h : RnF w v row J F ib w1) : RnD w v row F ib (fun _ => false) w1.drew := by
 have u := (Upd.refl [] w1).drew
 obtain ⟨g, h1, h2⟩ := h.s.isl
 exact ⟨⟨g, h1, h2.keep u (by simp)⟩, u.get h.f (by simp), ⟨Flt.zero, u.get h.s.z (by simp), by simp⟩, h.s.u.drew, h.l⟩
theorem RnD.same {w w1 : World} {v : Value} {row : List Ins} {F : Flt} {ib : Nat} {d : Nat → Bool} (h : RnD w v row F ib d w1) (i : Nat) (hi : i ≠ 6) : RnD w v row F ib (Ybq d i) w1 := by
 obtain ⟨G, h1, h2⟩ := h.z
 refine ⟨h.i, h.f, ⟨G, h1, fun hd => h2 ?_⟩, h.u, h.l⟩
 rw [Ybq, if_neg (by omega)] at hd
 exact hd
theorem RnD.put {w w1 : World} {v : Value} {row : List Ins} {F : Flt} {ib : Nat} {d e : Nat → Bool} (h : RnD w v row F ib d w1) :
  RnD w v row F ib e ((((w1.setCell ⟨w.heap.size, 0, none⟩ (.int .i64 F.k)).setCell ⟨w.heap.size, 1, none⟩ (.int .u32 F.pc)).setCell ⟨w.heap.size, 2, none⟩ (.int .u32 F.a)).setCell ⟨w.heap.size, 3, none⟩ (.int .i64 F.wt)) := by
 have u4 := Yap (S := [w.heap.size]) (b := w.heap.size) (Upd.refl _ w1) (.inl (by simp)) (.int .i64 F.k) (.int .u32 F.pc) (.int .u32 F.a) (.int .i64 F.wt)
 obtain ⟨G, h1, _⟩ := h.z
 obtain ⟨g, hg, hI⟩ := h.i
 exact ⟨⟨g, hg, hI.keep u4 (by simp; omega)⟩, u4.get h.f (by have := h.l; simp; omega), ⟨F, Ycx h1 _ _ _ _, fun _ => rfl⟩, h.u.also u4 (by simp), h.l⟩
end
theorem ISl.some {w : World} {l : List Ins} {b : Option Addr} {n c g : Nat} (h : ISl w (.slice b n c) l g) (hl : 0 < l.length) : ∃ o, b = some ⟨g, o, none⟩ := by
 rcases h with ⟨h1, h2⟩ | ⟨o, _, _, _, h1, _⟩
 ·rw [h2] at hl; simp at hl
 ·injection h1 with h1; exact ⟨o, h1⟩
theorem Yiq (M : Mem) (a pb : Nat) (pc : Int) (w : World) (hM : Yan w a pb M) (h0 : 0 ≤ pc ∧ pc < 4294967296) :
  Calls Tryz.prog 8 #[.pointer (some ⟨a, 0, none⟩), .int .u32 pc] w fun e w' => ∃ v g, e = .returned (.tuple #[v, (Ygk M pc).val, .bool (Ygz M pc)]) ∧ ISl w' v (Ybp M pc) g ∧ w.heap.size ≤ g ∧ Upd [] w w' := by
 cases hk : (Yat M pc).k
 ·refine (Find_no M a pb pc w hM h0 hk).mono ?_
  rintro e w' ⟨rfl, hu⟩
  exact ⟨_, w.heap.size, by rw [Ygk, Ygz, hk]; rfl, .inl ⟨rfl, by rw [Ybp, hk]; rfl⟩, Nat.le_refl _, hu⟩
 ·refine (Find_yes M a pb pc w hM h0 hk).mono ?_
  rintro e w' ⟨v, g, rfl, h⟩
  exact ⟨v, g, by rw [Ygk, Ygz, hk]; rfl, h⟩
def Mem.samePage (M N : Mem) (p : Nat) : Bool := (M.R p == N.R p) && (List.range 256).all fun j => M.B (p * 256 + j) == N.B (p * 256 + j)
def Mem.same (M N : Mem) : Bool := (List.range 64).all fun p => M.samePage N p
structure Ycf where
 pg : Int
 ct : Int
 rt : Int
 by_ : ByteArray
 deriving Inhabited
def Ycf.ok (s : Ycf) : Prop := -9223372036854775808 ≤ s.ct ∧ s.ct ≤ 9223372036854775807
def Yht (w : World) (v : Value) (l : List Ycf) (g : Nat) : Prop :=
 (∃ a c, v = .slice a 0 c ∧ l = []) ∨
 ∃ o c, v = .slice (some ⟨g, o, none⟩) l.length c ∧ g < w.heap.size ∧ l.length ≤ 9223372036854775807 ∧ ∀ i s, l[i]? = some s → w.cell? ⟨g, o + i * 4, none⟩ = some (.int .i64 s.pg) ∧ w.cell? ⟨g, o + i * 4 + 1, none⟩ = some (.int .i64 s.ct) ∧ w.cell? ⟨g, o + i * 4 + 2, none⟩ = some (.int .i64 s.rt) ∧ w.cell? ⟨g, o + i * 4 + 3, none⟩ = some (.string s.by_)
theorem Yht.keep {w w' : World} {v : Value} {l : List Ycf} {g : Nat} {S : List Nat} (h : Yht w v l g) (u : Upd S w w') (hg : g ∉ S) : Yht w' v l g := by
 rcases h with h | ⟨o, c, h1, h2, h4, h3⟩
 ·exact .inl h
 ·refine .inr ⟨o, c, h1, Nat.lt_of_lt_of_le h2 u.size, h4, fun i s hs => ?_⟩
  have e : ∀ k, w'.cell? ⟨g, k, none⟩ = w.cell? ⟨g, k, none⟩ := fun k => by
   simp only [World.cell?]; rw [u.block g h2 hg]
  rw [e, e, e, e]
  exact h3 i s hs
def Ydb (s : ByteArray) : List Int := s.data.toList.map fun b => (b.toNat : Int)
theorem Yel (s : ByteArray) : (Ydb s).length = s.size := by rw [Ydb, List.length_map, Array.length_toList]; rfl
theorem Yiy (s : ByteArray) (i : Nat) : 0 ≤ (Ydb s).getD i 0 ∧ (Ydb s).getD i 0 ≤ 255 := by
 rw [List.getD_eq_getElem?_getD, Ydb, List.getElem?_map]
 cases s.data.toList[i]? with
 |none => simp
 |some b =>
  have h := b.toNat_lt
  simp only [Option.map_some, Option.getD_some]
  exact ⟨by omega, by omega⟩
def Mem.spanB (M : Mem) (s : Ycf) : Bool := M.mapB s.pg s.ct s.rt && decide ((s.by_.size : Int) ≤ s.ct * 256)
def Mem.span1 (M : Mem) (s : Ycf) : Mem := (M.mapN s.pg.toNat s.ct.toNat s.rt).poke (s.pg * 256) (Ydb s.by_)
def Yc6 (l : List Ycf) : Nat → Mem
 |0 => Mem.zero
 |j + 1 => (Yc6 l j).span1 (l.getD j default)
def Ydn (l : List Ycf) : Bool := (List.range l.length).all fun i => (Yc6 l i).spanB (l.getD i default)
def loadM (l : List Ycf) : Mem := Yc6 l l.length
def Yfe (l : List Ycf) (M : Mem) : Mem := if Ydn l then loadM l else M
theorem Yju {l : List Ycf} {M : Mem} (h : Ydn l = true) : Yfe l M = loadM l := by rw [Yfe, if_pos h]
theorem Yh2 {l : List Ycf} {M : Mem} (h : Ydn l = false) : Yfe l M = M := by rw [Yfe, if_neg (by rw [h]; simp)]
theorem Ykb {M : Mem} {p n r : Int} (h : M.mapB p n r = true) : 0 ≤ p ∧ 1 ≤ n ∧ n ≤ 64 ∧ p ≤ 64 - n := by
 simp only [Mem.mapB, Mem.all, Bool.and_eq_true] at h
 exact (Ydy p n).1 h.2.1
theorem Yir {l : List Ycf} {j : Nat} (hj : j < l.length) (h : (Yc6 l j).spanB (l.getD j default) = false) : Ydn l = false := by
 rw [Ydn, List.all_eq_false]; exact ⟨j, List.mem_range.2 hj, by rw [h]; simp⟩
theorem Ylv {l : List Ycf} (h : ∀ j, j < l.length → (Yc6 l j).spanB (l.getD j default) = true) : Ydn l = true := by
 rw [Ydn, List.all_eq_true]; exact fun j hj => h j (List.mem_range.1 hj)
theorem bytes_sl (w : World) (s : ByteArray) (cap : Nat) (f : Nat × Nat) (h : s.size ≤ cap) :
  Ybz ((w.drew.alloc (.cells (bytesRow s cap) 5 f))) (.slice (some ⟨w.heap.size, 0, none⟩) s.size cap) (Ydb s) w.heap.size := by
 refine .inr ⟨0, cap, _, _, _, by rw [Yel], heap_alloc_new _ _, fun i hi => ?_⟩
 rw [Yel] at hi
 have hi' : i < s.data.size := hi
 have e : (Ydb s).getD i 0 = ((s.data[i]'hi').toNat : Int) := by
  rw [List.getD_eq_getElem?_getD, Ydb, List.getElem?_map, Array.getElem?_toList, Array.getElem?_eq_getElem hi']
  rfl
 rw [e, Nat.zero_add, bytesRow, Array.getElem?_append_left (by rw [Array.size_map]; exact hi'), Array.getElem?_map, Array.getElem?_eq_getElem hi']
 rfl
structure Ygp (w w' : World) (a pb : Nat) (M : Mem) : Prop where
 ex : ∃ qb, (qb = pb ∨ w.heap.size ≤ qb) ∧ Yan w' a qb M
theorem Ygp.mk' {w w' : World} {a pb : Nat} {M : Mem} (qb : Nat) (h : qb = pb ∨ w.heap.size ≤ qb) (k : Yan w' a qb M) : Ygp w w' a pb M := ⟨⟨qb, h, k⟩⟩
theorem Ymm {w w1 : World} {a pb na nb d : Nat} {M N : Mem} (hN : Yan w1 na nb N) (hM : Yan w a pb M) (hU : Upd [] w w1) (hna : w.heap.size ≤ na) (hnb : w.heap.size ≤ nb) (hd : 64 ≤ d)
  (h1 : w1.heap[na]? = some (.cells #[.slice (some ⟨nb, 0, none⟩) 64 d] 73 (0, 0))) : Yan (w1.setCell ⟨a, 0, none⟩ (.slice (some ⟨nb, 0, none⟩) 64 d)) a nb N := by
 obtain ⟨c, _, h2⟩ := hM.hd
 have h3 := hU.get h2 (by simp)
 obtain ⟨C, h4, h5⟩ := hN.pg
 have ha := hM.al
 exact ⟨⟨d, hd, Ys h3 0 _⟩, ⟨C, h4, Yq _ (by simp; omega) h5⟩, hN.ok⟩
theorem Ym6 (M : Mem) (a pb g : Nat) (v : Value) (l : List Ycf) (w : World) (hM : Yan w a pb M) (hl : Yht w v l g) (hok : ∀ s, s ∈ l → s.ok) :
  Calls Tryz.prog 20 #[.pointer (some ⟨a, 0, none⟩), v] w fun e w' => e = .returned (.int .i64 (errI (Ydn l) 60)) ∧ Ygp w w' a pb (Yfe l M) ∧ Upd [a] w w' := by
 have hmo : Tryz.prog.follows .mixedOrders = true := by kernel_rfl
 have HM := Yh_ hM
 have HL := Yh_ hl
 clear hM
 have hl2 := hl
 clear hl
 rcases hl2 with ⟨x, c, rfl, rfl⟩ | ⟨o, c, rfl, hg, hlen, hc⟩
 ·go_enter Tryz.func20, Tryz.ntmps20
  go_wp2_with (go_at_call 17; refine (Yio _).mono ?_; rintro e w1 ⟨na, nb, rfl, hna, hnb, hN, hU⟩; have HN := Yh_ hN; have HU := Yh_ hU; clear hN hU)
  go_loopw [11] (fun i wr => i = .int .i64 0 ∧ Yan wr na nb Mem.zero ∧ Upd [] w wr) (fun _ _ => 0)
  case atStart => exact ⟨rfl, HN.out, HU.out⟩
  case round =>
   obtain ⟨rfl, hN, hU⟩ := hrel
   have HN := Yh_ hN
   have HU := Yh_ hU
   clear hN hU
   obtain ⟨d, hd, h1⟩ := HN.out.hd
   have H1 := Yh_ h1
   have ca : wr.cell? ⟨na, 0, none⟩ = some (.slice (some ⟨nb, 0, none⟩) 64 d) := by rw [Ya h1]; rfl
   obtain ⟨d2, hd2, h2⟩ := HM.out.hd
   have h2' := HU.out.get h2 (by simp)
   have H2 := Yh_ h2'
   have hfr : wr.frozen? ⟨a, 0, none⟩ = false := Yh h2' 0
   have hcb : wr.cell? ⟨a, 0, none⟩ = some (.slice (some ⟨pb, 0, none⟩) 64 d2) := by rw [Ya h2']; rfl
   clear h1 h2 h2'
   go_wp2
   go_ret
   exact ⟨rfl, Ygp.mk' (M := Yfe [] M) nb (.inr hnb) (Ymm HN.out HM.out HU.out hna hnb hd H1.out), (HU.out.mono (by simp)).setCell (by simp) _⟩
 ·have hcv := fun (w : World) (s : ByteArray) => run_bytes_of_string (P := Tryz.prog) w 9 45 5 s (by kernel_rfl) (by kernel_rfl) (by kernel_rfl)
  have HC := Yh_ hc
  clear hc
  have HO := Yh_ hok
  clear hok
  go_enter Tryz.func20, Tryz.ntmps20
  go_wp2_with (go_at_call 17; refine (Yio _).mono ?_; rintro e w1 ⟨na, nb, rfl, hna, hnb, hN, hU⟩; have HN := Yh_ hN; have HU := Yh_ hU; clear hN hU)
  go_loopw [11] (fun i wr => ∃ j : Nat, j ≤ l.length ∧ i = .int .i64 j ∧ (∀ k, k < j → (Yc6 l k).spanB (l.getD k default) = true) ∧ Yan wr na nb (Yc6 l j) ∧ Upd [] w wr) (fun i _ => l.length - (intOf i).toNat)
  case atStart => exact ⟨0, Nat.zero_le _, rfl, by omega, HN.out, HU.out⟩
  case round =>
   obtain ⟨j, hj, rfl, hall, hN, hU⟩ := hrel
   clear HN HU
   have HN := Yh_ hN
   have HU := Yh_ hU
   have HA := Yh_ hall
   clear hN hU hall
   by_cases hlt : j < l.length
   ·obtain ⟨s, hs⟩ : ∃ s, l[j]? = some s := ⟨l[j], List.getElem?_eq_getElem hlt⟩
    have hsd : l.getD j default = s := by rw [List.getD_eq_getElem?_getD, hs]; rfl
    have hcs := HL.out.keep HU.out (by simp)
    obtain ⟨c0, c1, c2, c3⟩ : wr.cell? ⟨g, o + j * 4, none⟩ = some (.int .i64 s.pg) ∧ wr.cell? ⟨g, o + j * 4 + 1, none⟩ = some (.int .i64 s.ct) ∧ wr.cell? ⟨g, o + j * 4 + 2, none⟩ = some (.int .i64 s.rt) ∧ wr.cell? ⟨g, o + j * 4 + 3, none⟩ = some (.string s.by_) := by
     rcases hcs with ⟨_, _, hv, _⟩ | ⟨o', c', hv, _, _, h⟩
     ·injection hv with _ e _; omega
     ·injection hv with e _ _
      injection e with e
      injection e with _ e _
      subst e
      exact h j s hs
    have hsm : s.ok := HO.out s (List.mem_of_getElem? hs)
    have HS := Yh_ hsm
    have HSD := Yh_ hsd
    clear hcs hs hsm hsd
    have hmb : (Yc6 l j).mapB s.pg s.ct s.rt = true ∨ (Yc6 l j).mapB s.pg s.ct s.rt = false := by cases (Yc6 l j).mapB s.pg s.ct s.rt <;> simp
    rcases hmb with hmb | hmb
    ·have hrow := Ykb hmb
     have HB := Yh_ hmb
     clear hmb
     by_cases hsz : (s.by_.size : Int) ≤ s.ct * 256
     ·obtain ⟨p1, p2, p3, p4⟩ := hrow
      have q1 : s.pg * 256 % 4294967296 = s.pg * 256 := by omega
      have q2 : 0 ≤ s.pg * 256 := by omega
      have q3 : s.pg * 256 < 4294967296 := by omega
      go_wp2_with (first | (go_at_call 18; refine (Ylo (Yc6 l j) na nb s.pg s.ct s.rt _ (HN.out.keep ((Upd.refl [] _).alloc _) (by simp) (by simp)) HS.out.1 HB.out).mono ?_; rintro e w2 ⟨rfl, hM2, hU2⟩; have HM2 := Yh_ hM2; have HU2 := Yh_ hU2; have cs2 : ∀ o, w2.cell? ⟨wr.heap.size, o, none⟩ = #[Value.int .i64 s.pg, .int .i64 s.ct, .int .i64 s.rt, .string s.by_][o]? := Ya (hU2.get (heap_alloc_new _ _) (by have := HN.out.pl; simp; omega)); clear hM2 hU2) | (go_at_call 19; refine (Ync _ na nb (s.pg * 256) _ (Ydb s.by_) w2.heap.size _ (HM2.out.keep (((Upd.refl [] _).drew).alloc _) (by simp) (by simp)) q2 q3 (bytes_sl _ _ _ _ (grownCap_ge _ _ _ _)) (by have := HM2.out.pl; omega) (Yiy _) (by rw [Yel]; unfold maxLen; omega)).mono ?_; rintro e w3 ⟨rfl, hM3, hU3⟩; have HM3 := Yh_ hM3; have HU3 := Yh_ hU3; clear hM3 hU3))
      go_roundw
      case rel =>
       refine ⟨j + 1, by omega, by go_num, fun k hk => ?_, ?_, ?_⟩
       ·by_cases e : k = j
        ·subst e
         rw [HSD.out, Mem.spanB, HB.out]
         simpa using hsz
        ·exact HA.out k (by omega)
       ·have h := HM3.out
        rw [Yc6, HSD.out]
        exact h
       ·have hn : ∀ x, x ∈ [nb] → x ∈ ([] : List Nat) ∨ w.heap.size ≤ x := by simpa using hnb
        exact ((((HU.out.alloc _).also HU2.out hn).drew).alloc _).also HU3.out hn
      case measure => simp [intOf]; omega
     ·obtain ⟨p1, p2, p3, p4⟩ := hrow
      have hsz' : s.ct * 256 < s.by_.size := by omega
      go_wp2_with (go_at_call 18; refine (Ylo (Yc6 l j) na nb s.pg s.ct s.rt _ (HN.out.keep ((Upd.refl [] _).alloc _) (by simp) (by simp)) HS.out.1 HB.out).mono ?_; rintro e w2 ⟨rfl, hM2, hU2⟩; have HM2 := Yh_ hM2; have HU2 := Yh_ hU2; have cs2 : ∀ o, w2.cell? ⟨wr.heap.size, o, none⟩ = #[Value.int .i64 s.pg, .int .i64 s.ct, .int .i64 s.rt, .string s.by_][o]? := Ya (hU2.get (heap_alloc_new _ _) (by have := HN.out.pl; simp; omega)); clear hM2 hU2)
      go_ret
      have hn : ∀ x, x ∈ [nb] → x ∈ ([] : List Nat) ∨ w.heap.size ≤ x := by simpa using hnb
      have hno : Ydn l = false := Yir hlt (by rw [HSD.out, Mem.spanB]; simp; omega)
      have hU' := (HU.out.alloc _).also HU2.out hn
      exact ⟨by rw [hno]; rfl, by rw [Yh2 hno]; exact Ygp.mk' pb (.inl rfl) (HM.out.keep hU' (by simp) (by simp)), hU'.mono (by simp)⟩
    ·have HB := Yh_ hmb
     clear hmb
     go_wp2_with (go_at_call 18; refine (Map_no (Yc6 l j) na nb s.pg s.ct s.rt _ (HN.out.keep ((Upd.refl [] _).alloc _) (by simp) (by simp)) HS.out.1 HB.out).mono ?_; rintro e w2 ⟨rfl, hU2⟩; have HU2 := Yh_ hU2; clear hU2)
     go_ret
     have hno : Ydn l = false := Yir hlt (by rw [HSD.out, Mem.spanB, HB.out]; rfl)
     have hU' := (HU.out.alloc _).also HU2.out (by simp)
     exact ⟨by rw [hno]; rfl, by rw [Yh2 hno]; exact Ygp.mk' pb (.inl rfl) (HM.out.keep hU' (by simp) (by simp)), hU'.mono (by simp)⟩
   ·obtain ⟨d, hd, h1⟩ := HN.out.hd
    have H1 := Yh_ h1
    have ca : wr.cell? ⟨na, 0, none⟩ = some (.slice (some ⟨nb, 0, none⟩) 64 d) := by rw [Ya h1]; rfl
    obtain ⟨d2, hd2, h2⟩ := HM.out.hd
    have h2' := HU.out.get h2 (by simp)
    have H2 := Yh_ h2'
    have hfr : wr.frozen? ⟨a, 0, none⟩ = false := Yh h2' 0
    have hcb : wr.cell? ⟨a, 0, none⟩ = some (.slice (some ⟨pb, 0, none⟩) 64 d2) := by rw [Ya h2']; rfl
    clear h1 h2 h2'
    go_wp2
    go_ret
    have e : j = l.length := by omega
    subst e
    have hyes := Ylv HA.out
    exact ⟨by rw [hyes]; rfl, by rw [Yju hyes]; exact Ygp.mk' nb (.inr hnb) (Ymm HN.out HM.out HU.out hna hnb hd H1.out), (HU.out.mono (by simp)).setCell (by simp) _⟩
theorem Ysh {w : World} {base : Nat} {l : List Int} {v : Value} (h : w.ownsRow base 5 1 v l.length (l.map (Value.int .u8))) :
  (convert 45 9 v).run Tryz.prog w = .ok (.string (strOfNums l)) w := by
 have hk := h
 obtain ⟨_, ⟨h1, h2⟩ | ⟨g, cap, cur, h1, _⟩⟩ := h
 ·have : l = [] := List.length_eq_zero_iff.1 h2
  subst this
  rw [h1]
  exact run_convert_bytes_nil w 45 5 (by kernel_rfl) (by kernel_rfl) _ _ _ (by kernel_rfl)
 ·rw [h1]
  refine run_convert_bytes_arg w 45 5 (by kernel_rfl) (by kernel_rfl) g 0 _ cap l rfl (fun i hi => ?_) _ (by kernel_rfl)
  have := hk.cells (g := g) (by rw [h1]; rfl) i (.int .u8 (l.getD i 0)) (by rw [List.getElem?_map, List.getD_eq_getElem?_getD, List.getElem?_eq_getElem hi]; rfl)
  rw [Nat.zero_add]
  rcases i with _ | i <;> simpa [Addr.add] using this
end Go.Proofs.YteiplidhkelkbaaGreat
