/-
  Parts of the proof (their names shortened by a program). No condition.
-/
import Derived.Test.YteiplidhkelkbaaGreatMg01
import Derived.Test.YteiplidhkelkbaaGreatMg28
import Derived.Test.YteiplidhkelkbaaGreatMg06
namespace Go.Proofs.YteiplidhkelkbaaGreat
open Go Go.RowKit
set_option linter.unusedVariables false
set_option linter.unusedSimpArgs false
set_option maxRecDepth 100000
set_option maxHeartbeats 16000000
section
def Yfj : Obj := .cells #[.int .i64 0, .int .u32 0, .int .u32 0, .int .i64 0] 32
theorem Yhx (M : Mem) (pc : Int) : ∃ k p x t, (Yai M pc).f = ⟨k, p, x, t⟩ := ⟨_, _, _, _, rfl⟩
theorem Yfe {w1 w2 : World} {I : Ins} (hw : ((w1.alloc (.cells Ins.zero.cells 42)).alloc Yfj).setCells w1.heap.size 0 I.cells.toList = w2) :
  w2.heap[w1.heap.size]? = some (.cells I.cells 42 (0, 0)) ∧ w2.heap[w1.heap.size + 1]? = some (.cells #[.int .i64 0, .int .u32 0, .int .u32 0, .int .i64 0] 32 (0, 0)) ∧ Upd [] w1 w2 := by
 have u := ((Upd.refl [] w1).alloc (.cells Ins.zero.cells 42)).alloc Yfj
 obtain ⟨z1, z2⟩ := Yaw (S := []) (w0 := w1) hw (heap_alloc2_old w1 _ _) rfl u (.inr (Nat.le_refl _))
 obtain ⟨_, z3⟩ := Yaw (S := [w1.heap.size]) hw (heap_alloc2_old w1 _ _) rfl (Upd.refl _ _) (.inl (by simp))
 exact ⟨z1, z3.get (heap_alloc2_new w1 (.cells Ins.zero.cells 42) Yfj) (by simp), z2⟩
structure BlF (w : World) (I : Ins) (F : Flt) (ib : Nat) (w3 : World) : Prop where
 i : w3.heap[ib]? = some (.cells I.cells 42 (0, 0))
 f : w3.heap[ib + 1]? = some (.cells #[.int .i64 F.k, .int .u32 F.pc, .int .u32 F.a, .int .i64 F.wt] 32 (0, 0))
 z : w3.heap[w.heap.size]? = some (.cells #[.int .i64 0, .int .u32 0, .int .u32 0, .int .i64 0] 32 (0, 0))
 u : Upd [] w w3
 l : w.heap.size < ib
theorem BlF.of {w w1 w2 : World} {I : Ins} (F : Flt) (hu : Upd [] (w.alloc Yfj) w1) (h2 : w2.heap[w1.heap.size]? = some (.cells I.cells 42 (0, 0)) ∧ w2.heap[w1.heap.size + 1]? = some (.cells #[.int .i64 0, .int .u32 0, .int .u32 0, .int .i64 0] 32 (0, 0)) ∧ Upd [] w1 w2) :
  BlF w I F w1.heap.size ((((w2.setCell ⟨w1.heap.size + 1, 0, none⟩ (.int .i64 F.k)).setCell ⟨w1.heap.size + 1, 1, none⟩ (.int .u32 F.pc)).setCell ⟨w1.heap.size + 1, 2, none⟩ (.int .u32 F.a)).setCell ⟨w1.heap.size + 1, 3, none⟩ (.int .i64 F.wt)) := by
 have hz : w1.heap[w.heap.size]? = some Yfj := hu.get (heap_alloc_new w Yfj) (by simp)
 have hl := Yt hz
 have u2 := ((Upd.refl [] w).alloc Yfj).also (hu.also h2.2.2 (by simp)) (by simp)
 have u4 := Ya0 (S := [w1.heap.size + 1]) (b := w1.heap.size + 1) (Upd.refl _ w2) (.inl (by simp)) (.int .i64 F.k) (.int .u32 F.pc) (.int .u32 F.a) (.int .i64 F.wt)
 exact ⟨u4.get h2.1 (by simp), Ycf h2.2.1 _ _ _ _, u4.get (h2.2.2.get hz (by simp)) (by simp; omega), u2.also u4 (by simp; omega), hl⟩
theorem Find_no (M : Mem) (a pb : Nat) (pc : Int) (w : World) (hM : Yap w a pb M) (h0 : 0 ≤ pc ∧ pc < 4294967296) (hk : (Yai M pc).k = false) :
  Calls Tryz.prog 8 #[.pointer (some ⟨a, 0, none⟩), .int .u32 pc] w fun e w' => e = .returned (.tuple #[.slice none 0 0, (Yai M pc).f.val, .bool false]) ∧ Upd [] w w' := by
 have HM := Yh_ (And.intro hM h0)
 obtain ⟨I, hI⟩ : ∃ I, (Yai M pc).i = I := ⟨_, rfl⟩
 obtain ⟨fk, fp, fa, fw, hF⟩ := Yhx M pc
 have HR := Yh_ (And.intro hI (And.intro hF hk))
 rw [hF]
 have tok : True := trivial
 clear hM h0 hk hI hF
 go_enter Tryz.func8, Tryz.ntmps8
 go_wp2_with (first | (have _t := tok; clear _t; go_at_call 22; refine (Yhk M a pb pc _ (HM.out.1.keep ((Upd.refl [] w).alloc _) (by simp) (by simp)) HM.out.2).mono ?_; rintro e w1 ⟨rfl, hu⟩; rw [HR.out.1, HR.out.2.1, HR.out.2.2]; unfold Flt.val; have U1 := Yh_ hu; clear hu tok) | (have _t := U1; clear _t; refine Ye 42 rfl ?_; refine Yb I w1.heap.size rfl _ _ rfl rfl rfl (heap_alloc2_old w1 (.cells Ins.zero.cells 42) Yfj) rfl ?_; intro w2 hw; have h2 := Yfe hw; have H2 := Yh_ (BlF.of ⟨fk, fp, fa, fw⟩ U1.out h2); have c2 := Ya h2.2.1; have f2 := Yh h2.2.1; clear hw h2 U1))
 have h3 := H2.out
 clear c2 f2 H2
 generalize ((((w2.setCell ⟨w1.heap.size + 1, 0, none⟩ (.int .i64 fk)).setCell ⟨w1.heap.size + 1, 1, none⟩ (.int .u32 fp)).setCell ⟨w1.heap.size + 1, 2, none⟩ (.int .u32 fa)).setCell ⟨w1.heap.size + 1, 3, none⟩ (.int .i64 fw)) = w3 at h3 ⊢
 have H3 := Yh_ h3
 clear h3
 refine Ybc 2 (BlF w I ⟨fk, fp, fa, fw⟩ w1.heap.size) (fun _ _ => False) (by kernel_rfl) (by kernel_rfl) ⟨((Upd.refl [] w3).drew).get H3.out.i (by simp), ((Upd.refl [] w3).drew).get H3.out.f (by simp), ((Upd.refl [] w3).drew).get H3.out.z (by simp), H3.out.u.drew, H3.out.l⟩ (fun _ _ _ h => h.elim) ?_
 simp only [List.take_succ_cons, List.take_zero, List.drop_succ_cons, List.drop_zero]
 iterate 2
  apply Yae rfl rfl
  ·intro K hK w5 hB1
   have c5 := Ya hB1.f
   have HB := Yh_ hB1
   clear hB1
   go_wp2_with fail
   first
   |exact hK _ HB.out
   |exact HB.out
  ·exact ⟨_, rfl⟩
 refine Yav (fun _ w5 hB1 => ?_)
 have c5 := Ya hB1.z
 have f5 := Yh hB1.z
 have HB := Yh_ hB1
 clear hB1
 go_wp2_with fail
 exact bodyPost_ret (Yas rfl (Yj 4 rfl) (Yb3 5 w.heap.size ⟨fk, fp, fa, fw⟩ rfl (Ycf HB.out.z _ _ _ _)) (Yj 6 rfl)) rfl ⟨rfl, Ya0 HB.out.u (.inr (Nat.le_refl _)) _ _ _ _⟩
structure BlS (w : World) (ib rb : Nat) (row : List Ins) (wr : World) : Prop where
 r : ∃ C : Array Value, wr.heap[rb]? = some (.cells C 64 (0, 0)) ∧ C.size = 128 ∧ ∀ (k : Nat) (u : Value), (Ybm row)[k]? = some u → C[k]? = some u
 z : wr.heap[w.heap.size]? = some (.cells #[.int .i64 0, .int .u32 0, .int .u32 0, .int .i64 0] 32 (0, 0))
 u : Upd [] w wr
 l : w.heap.size < rb
 n : row.length ≤ 8
structure BlD (w : World) (rb : Nat) (row : List Ins) (I : Ins) (xb k : Nat) (d : Nat → Bool) (r : Nat → Value) (wr : World) : Prop where
 s : BlS w xb rb row wr
 i : wr.heap[xb]? = some (.cells I.cells 42 (0, 0))
 x : d k = true → ∃ g, r k = .slice (some ⟨g, 0, none⟩) 1 1 ∧ g ≠ rb ∧ wr.heap[g]? = some (.cells I.cells 42 (0, 0))
section
variable {w w1 w2 : World} {ib rb xb k : Nat} {row : List Ins} {I : Ins} {d : Nat → Bool} {r : Nat → Value}
theorem BlS.step (h : BlS w ib rb row w1) (u : Upd [] w1 w2) : BlS w ib rb row w2 := by
 obtain ⟨C, h1, h2, h3⟩ := h.r
 exact ⟨⟨C, u.get h1 (by simp), h2, h3⟩, u.get h.z (by simp), h.u.also u (by simp), h.l, h.n⟩
theorem BlS.copy (h : BlS w ib rb row w1) (hn : row.length < 8) (hw : w1.setCells rb (row.length * 16) I.cells.toList = w2) : BlS w ib rb (row ++ [I]) w2 := by
 obtain ⟨C, h1, h2, h3⟩ := h.r
 have hl := Yh0 I
 have hil := h.l
 have u : Upd [rb] w1 w2 := by subst hw; exact (Upd.refl [rb] w1).setCells (.inl (by simp)) _ _
 refine ⟨⟨Go.Proofs.YteiplidhkelkbaaGreat.wr C (row.length * 16) I.cells.toList, by subst hw; exact Ybw _ _ _ _ h1, by rw [Yl0]; exact h2, fun k v hk => ?_⟩, u.get h.z (by simp; omega), h.u.also u (by simp; omega), h.l, by simp; omega⟩
 rw [wr_get' _ _ _ (by omega)]
 rw [Yhw, List.getElem?_append, Ye3] at hk
 have e1 : Ybm [I] = I.cells.toList := by simp [Ybm]
 rw [e1] at hk
 by_cases hk1 : k < row.length * 16
 ·rw [if_pos hk1] at hk
  rw [if_neg (by omega)]
  exact h3 _ _ hk
 ·rw [if_neg hk1] at hk
  have := (List.getElem?_eq_some_iff.1 hk).1
  rw [if_pos (by omega)]
  exact hk
theorem BlS.cell (h : BlS w ib rb row w1) (hn : row.length < 8) (j : Nat) (hj : j < 16) : (w1.cell? ⟨rb, row.length * 16 + j, none⟩).isSome = true ∧ w1.frozen? ⟨rb, row.length * 16 + j, none⟩ = false := by
 obtain ⟨C, h1, h2, h3⟩ := h.r
 refine ⟨?_, Yh h1 _⟩
 rw [Ya h1, Array.getElem?_eq_getElem (by omega)]
 rfl
theorem Yis {g : Nat} (h : w1.heap[g]? = some (.cells I.cells 42 (0, 0))) : ∀ j v, I.cells.toList[j]? = some v → w1.cell? ((⟨g, 0, none⟩ : Addr).add j) = some v := by
 intro j v hv
 have := Yfc h j v hv
 unfold Addr.add
 by_cases e : j = 0
 ·subst e; simpa using this
 ·rw [if_neg e]; exact this
theorem BlD.start (h : BlS w xb rb row w1) (hi : w1.heap[xb]? = some (.cells I.cells 42 (0, 0))) (r : Nat → Value) : BlD w rb row I xb k (fun _ => false) r w1.drew :=
 ⟨h.step ((Upd.refl [] w1).drew), ((Upd.refl [] w1).drew).get hi (by simp), by simp⟩
theorem BlD.same (h : BlD w rb row I xb k d r w1) (q : Nat) (h1 : k ≠ q) : BlD w rb row I xb k (Ybq d q) r w1 := ⟨h.s, h.i, fun e => h.x (by rwa [Ydh h1] at e)⟩
theorem BlD.lay (h : BlD w rb row I xb k d r w1) : BlD w rb row I xb k (Ybq d k) (Ygw r k (.slice (some ⟨w1.heap.size, 0, none⟩) 1 1)) (w1.alloc (.cells I.cells 42)) := by
 have u := (Upd.refl [] w1).alloc (.cells I.cells 42)
 obtain ⟨C, h1, _⟩ := h.s.r
 have := Yt h1
 exact ⟨h.s.step u, u.get h.i (by simp), fun _ => ⟨_, bV_eq, by omega, heap_alloc_new _ _⟩⟩
theorem BlS.at (h : BlS w ib rb row w1) {x : Ins} (hx : row[k]? = some x) : w1.rangeAt rb (k * 16) x.cells.toList := by
 obtain ⟨C, h1, h2, h3⟩ := h.r
 intro j v hv
 rw [Ya h1]
 have hj := (List.getElem?_eq_some_iff.1 hv).1
 exact h3 _ _ (by rw [Ylw hx j hj]; exact hv)
theorem Ydu {ops : Array Oper} {rest : List Oper} {op : Oper} {a : Act} {w : World} {Q : Exit → Act → World → Prop} (o : Ins) (b off : Nat) (hgd : Region.wanted op (yielded ops a.tmps) = true) (x : Operand) (ho : op.op = .load 42 x) (hx : a.eval x = .pointer (some ⟨b, off, none⟩))
  (hb : w.rangeAt b off o.cells.toList) (h : wpList Tryz.prog ops Q rest (a.put op.dst (.agg o.cells)) w) : wpList Tryz.prog ops Q (op :: rest) a w :=
 Yqa hgd fun _ hK => wp_load_mid 42 x ho b off hx o.cells.toList _ hb Tryz.underlying42 rfl (by rw [Array.length_toList, Ins.size]; exact Yd2) (by rw [Array.toArray_toList]; exact hK _ _ h)
theorem Yoh : ∃ i B, Tryz.prog.info? 42 = some i ∧ i.zero = some (.agg Ins.zero.cells) ∧ i.size = 16 ∧ i.bytes = B ∧ B ≤ 1000 := by
 have h : (Tryz.prog.info? 42).map (fun i => (i.zero, i.size, decide (i.bytes ≤ 1000))) = some (some (.agg Ins.zero.cells), 16, true) := by kernel_rfl
 cases hq : Tryz.prog.info? 42 with
 |none => simp [hq] at h
 |some i =>
  rw [hq] at h
  simp only [Option.map_some, Option.some.injEq, Prod.mk.injEq, decide_eq_true_eq] at h
  exact ⟨i, _, rfl, h.1, h.2.1, rfl, h.2.2⟩
theorem BlS.src (h : BlS w ib rb row w1) : ∀ j u, (Ybm row)[j]? = some u → w1.cell? ((⟨rb, 0, none⟩ : Addr).add j) = some u := by
 obtain ⟨C, h1, h2, h3⟩ := h.r
 intro j u hu
 have e : (⟨rb, 0, none⟩ : Addr).add j = ⟨rb, j, none⟩ := by rcases j with _ | j <;> simp [Addr.add]
 rw [e, Ya h1]
 exact h3 _ _ hu
theorem BlS.base (h : BlS w ib rb row w1) : w.heap.size + 1 ≤ w1.heap.size := by
 have := h.l
 obtain ⟨C, hq, _⟩ := h.r
 have := Yt hq
 omega
theorem Ylz {b n : Nat} {v : Value} (hn : n = row.length) (h1 : 1 ≤ row.length) (h : w1.ownsRow b 42 16 v n (Ybm row)) : ∃ g, b ≤ g ∧ ISl w1 v row g := by
 subst hn
 rcases h.2 with ⟨_, h0⟩ | ⟨g, cap, cur, rfl, hg, hb, _, _, hs, ht⟩
 ·omega
 ·refine ⟨g, hg, .inr ⟨0, cap, cur, (0, 0), rfl, hb, fun k u hk => ?_⟩⟩
  have hl := (List.getElem?_eq_some_iff.1 hk).1
  rw [Ye3] at hl
  rw [← ht, List.getElem?_take_of_lt (by omega), Array.getElem?_toList] at hk
  rw [Nat.zero_add]
  exact hk
end
structure BlX (w : World) (rb : Nat) (row : List Ins) (I : Ins) (xb : Nat) (d : Nat → Bool) (r : Nat → Value) (wr : World) : Prop where
 s : BlS w xb rb (if d 5 = true then row ++ [I] else row) wr
 i : wr.heap[xb]? = some (.cells I.cells 42 (0, 0))
 x : d 4 = true → ∃ g, r 4 = .slice (some ⟨g, 0, none⟩) 1 1 ∧ wr.heap[g]? = some (.cells I.cells 42 (0, 0))
section
variable {w w1 w2 : World} {ib rb xb k : Nat} {row : List Ins} {I : Ins} {d : Nat → Bool} {r : Nat → Value}
theorem BlS.ne (h : BlS w ib rb row w1) {g : Nat} {C : Array Value} {f : Nat × Nat} (hg : w1.heap[g]? = some (.cells C 42 f)) : g ≠ rb := by
 obtain ⟨C', hq, _⟩ := h.r
 intro e
 rw [← e, hg] at hq
 injection hq with hq
 injection hq with _ hq _
 exact absurd hq (by decide)
theorem BlX.start (h : BlS w ib rb row w1) (hi : w1.heap[xb]? = some (.cells I.cells 42 (0, 0))) (r : Nat → Value) : BlX w rb row I xb (fun _ => false) r w1.drew := by
 have g := h.step ((Upd.refl [] w1).drew)
 exact ⟨by rw [if_neg (by simp)]; exact ⟨g.r, g.z, g.u, g.l, g.n⟩, ((Upd.refl [] w1).drew).get hi (by simp), by simp⟩
theorem BlX.same (h : BlX w rb row I xb d r w1) (q : Nat) (h1 : 4 ≠ q) (h2 : 5 ≠ q) : BlX w rb row I xb (Ybq d q) r w1 := ⟨by rw [Ydh h2]; exact h.s, h.i, fun e => h.x (by rwa [Ydh h1] at e)⟩
theorem BlX.lay (h : BlX w rb row I xb d r w1) : BlX w rb row I xb (Ybq d 4) (Ygw r 4 (.slice (some ⟨w1.heap.size, 0, none⟩) 1 1)) (w1.alloc (.cells I.cells 42)) := by
 have u := (Upd.refl [] w1).alloc (.cells I.cells 42)
 exact ⟨by rw [Ydh (by decide)]; exact h.s.step u, u.get h.i (by simp), fun _ => ⟨_, bV_eq, heap_alloc_new _ _⟩⟩
theorem BlX.was (h : BlX w rb row I xb d r w1) (hd : d 5 = false) : BlS w xb rb row w1 := by
 have := h.s
 rwa [if_neg (by simp [hd])] at this
theorem BlX.done (h : BlX w rb row I xb d r w1) (hd : d 5 = true) : BlS w xb rb (row ++ [I]) w1 := by
 have := h.s
 rwa [if_pos hd] at this
theorem BlX.copy (h : BlX w rb row I xb d r w1) (hd : d 5 = false) (hn : row.length < 8) (hw : w1.setCells rb (row.length * 16) I.cells.toList = w2) : BlX w rb row I xb (Ybq d 5) r w2 := by
 have g := h.was hd
 have o : ∀ (b : Nat) (C : Array Value) (f : Nat × Nat), w1.heap[b]? = some (.cells C 42 f) → w2.heap[b]? = some (.cells C 42 f) := fun b C f hb => by rw [← hw, Yfk (g.ne hb)]; exact hb
 refine ⟨by rw [if_pos bD_eq]; exact g.copy hn hw, o _ _ _ h.i, fun e => ?_⟩
 obtain ⟨q, e1, e2⟩ := h.x (by rwa [Ydh (by decide)] at e)
 exact ⟨q, e1, o _ _ _ e2⟩
end
theorem Yqb {o : Oper} {a : Act} {w : World} {K : Act → World → Prop} {Q : Exit → Act → World → Prop} (s x : Operand)
  (ho : o.op = .call { callee := .builtin .copy, args := #[s, x], argTypes := #[30, 30] })
  (b off dLen dCap : Nat) (ad : Addr) (sLen sCap : Nat) (cs : List Value) (hs : a.eval s = .slice (some ⟨b, off, none⟩) dLen dCap) (hx : a.eval x = .slice (some ad) sLen sCap) (hn : cs.length = Nat.min sLen dLen * 16)
  (hsrc : ∀ j v, cs[j]? = some v → w.cell? (ad.add j) = some v) (hc : ∀ j, j < cs.length → (w.cell? ⟨b, off + j, none⟩).isSome = true) (hf : ∀ j, j < cs.length → w.frozen? ⟨b, off + j, none⟩ = false) (h1 : ∀ v ∈ cs, v.oneCell' = true)
  (h : ∀ w', w.setCells b off cs = w' → K (a.put o.dst (goInt (Nat.min sLen dLen))) w') : o.wp Tryz.prog a w K Q := by
 unfold Oper.wp execOp
 simp only [ho, resolve, invoke, builtin, Sem.run_bind, Sem.run_pure, Result.andThen_ok, List.map_toArray, List.map_cons, List.map_nil, hs, hx, Yjt w o.type b off dLen dCap ad sLen sCap cs hn hsrc hc hf h1]
 exact h _ rfl
theorem sl_hi (w : World) (b n : Nat) (hn : n ≤ 8) : (Instr.sliceAt 64 (.pointer (some ⟨b, 0, none⟩)) none (some (.int .i64 n)) none).run Tryz.prog w = .ok (.slice (some ⟨b, 0, none⟩) n 8) w := by
 have h : n = 0 ∨ n = 1 ∨ n = 2 ∨ n = 3 ∨ n = 4 ∨ n = 5 ∨ n = 6 ∨ n = 7 ∨ n = 8 := by omega
 rcases h with rfl | rfl | rfl | rfl | rfl | rfl | rfl | rfl | rfl <;> rfl
theorem sl_lo (w : World) (b n : Nat) (hn : n ≤ 7) : (Instr.sliceAt 64 (.pointer (some ⟨b, 0, none⟩)) (some (.int .i64 n)) none none).run Tryz.prog w = .ok (.slice (some ⟨b, n * 16, none⟩) (8 - n) (8 - n)) w := by
 have h : n = 0 ∨ n = 1 ∨ n = 2 ∨ n = 3 ∨ n = 4 ∨ n = 5 ∨ n = 6 ∨ n = 7 := by omega
 rcases h with rfl | rfl | rfl | rfl | rfl | rfl | rfl | rfl <;> rfl
structure BlE (w : World) (row : List Ins) (v : Value) (w1 : World) : Prop where
 s : ∃ g, w.heap.size < g ∧ ISl w1 v row g
 z : w1.heap[w.heap.size]? = some (.cells #[.int .i64 0, .int .u32 0, .int .u32 0, .int .i64 0] 32 (0, 0))
 u : Upd [] w w1
theorem BlE.of {w w1 w2 : World} {ib rb n : Nat} {row : List Ins} {v : Value} {xs : List Value} (h : BlS w ib rb row w1) (hn : n = row.length) (h1 : 1 ≤ row.length) (hx : xs = Ybm row) (ho : w2.ownsRow (w.heap.size + 1) 42 16 v n xs) (hg : w1.grownBy w2 none) : BlE w row v w2 := by
 subst hx
 obtain ⟨g, hb, hI⟩ := Ylz hn h1 ho
 have u : Upd [] w1 w2 := Upd.of_grown (row := none) hg
 exact ⟨⟨g, by omega, hI⟩, u.get h.z (by simp), h.u.also u (by simp)⟩
theorem Yiw {w w1 : World} {L row : List Ins} {v : Value} {a b c d : Value} (h : BlE w row v w1) (e : L = row) :
  ∃ v' g, v = v' ∧ ISl ((((w1.setCell ⟨w.heap.size, 0, none⟩ a).setCell ⟨w.heap.size, 1, none⟩ b).setCell ⟨w.heap.size, 2, none⟩ c).setCell ⟨w.heap.size, 3, none⟩ d) v' L g ∧ w.heap.size ≤ g ∧ Upd [] w ((((w1.setCell ⟨w.heap.size, 0, none⟩ a).setCell ⟨w.heap.size, 1, none⟩ b).setCell ⟨w.heap.size, 2, none⟩ c).setCell ⟨w.heap.size, 3, none⟩ d) := by
 subst e
 obtain ⟨g, hg, hI⟩ := h.s
 refine ⟨v, g, rfl, hI.keep (Ya0 (S := [w.heap.size]) (Upd.refl _ w1) (.inl (by simp)) _ _ _ _) (by simp; omega), by omega, Ya0 h.u (.inr (Nat.le_refl _)) _ _ _ _⟩
theorem Find_yes (M : Mem) (a pb : Nat) (pc : Int) (w : World) (hM : Yap w a pb M) (h0 : 0 ≤ pc ∧ pc < 4294967296) (hk : (Yai M pc).k = true) :
  Calls Tryz.prog 8 #[.pointer (some ⟨a, 0, none⟩), .int .u32 pc] w fun e w' => ∃ v g, e = .returned (.tuple #[v, Flt.zero.val, .bool true]) ∧ ISl w' v (Ybi M pc) g ∧ w.heap.size ≤ g ∧ Upd [] w w' := by
 have HM := Yh_ (And.intro hM h0)
 have hlen := Yj2 hk
 obtain ⟨i0, B0, hi0⟩ := Yoh
 have HI0 := Yh_ hi0
 clear hi0
 obtain ⟨I, hI⟩ : ∃ I, (Yai M pc).i = I := ⟨_, rfl⟩
 obtain ⟨fk, fp, fa, fw, hF⟩ := Yhx M pc
 rw [hI] at hlen
 have HR := Yh_ (And.intro hI (And.intro hF hk))
 have tok : True := trivial
 clear hM h0 hk hI hF
 go_enter Tryz.func8, Tryz.ntmps8
 go_wp2_with (first | (have _t := tok; clear _t; go_at_call 22; refine (Yhk M a pb pc _ (HM.out.1.keep ((Upd.refl [] w).alloc _) (by simp) (by simp)) HM.out.2).mono ?_; rintro e w1 ⟨rfl, hu⟩; rw [HR.out.1, HR.out.2.1, HR.out.2.2]; unfold Flt.val; have U1 := Yh_ hu; clear hu tok) | (have _t := U1; clear _t; refine Ye 42 rfl ?_; refine Yb I w1.heap.size rfl _ _ rfl rfl rfl (heap_alloc2_old w1 (.cells Ins.zero.cells 42) Yfj) rfl ?_; intro w2 hw; have h2 := Yfe hw; have H2 := Yh_ (BlF.of ⟨fk, fp, fa, fw⟩ U1.out h2); have c2 := Ya h2.2.1; have f2 := Yh h2.2.1; clear hw h2 U1))
 have h3 := H2.out
 have hsz : ((((w2.setCell ⟨w1.heap.size + 1, 0, none⟩ (.int .i64 fk)).setCell ⟨w1.heap.size + 1, 1, none⟩ (.int .u32 fp)).setCell ⟨w1.heap.size + 1, 2, none⟩ (.int .u32 fa)).setCell ⟨w1.heap.size + 1, 3, none⟩ (.int .i64 fw)).heap.size = w2.heap.size := by simp
 clear c2 f2 H2
 generalize ((((w2.setCell ⟨w1.heap.size + 1, 0, none⟩ (.int .i64 fk)).setCell ⟨w1.heap.size + 1, 1, none⟩ (.int .u32 fp)).setCell ⟨w1.heap.size + 1, 2, none⟩ (.int .u32 fa)).setCell ⟨w1.heap.size + 1, 3, none⟩ (.int .i64 fw)) = w3 at h3 hsz ⊢
 rw [← hsz]
 have hS : BlS w w1.heap.size w3.heap.size [] (w3.alloc (.cells Tryz.zeroCells64 64)) := by
  have u := (Upd.refl [] w3).alloc (.cells Tryz.zeroCells64 64)
  have := Yt h3.z
  exact ⟨⟨_, heap_alloc_new _ _, by kernel_rfl, by simp [Ybm]⟩, u.get h3.z (by simp), h3.u.also u (by simp), this, by simp⟩
 have H3 := Yh_ (And.intro hS (((Upd.refl [] w3).alloc (.cells Tryz.zeroCells64 64)).get h3.i (by simp)))
 clear h3 hsz hS
 refine Ydk 3 (BlD w w3.heap.size [] I w1.heap.size 2) (fun _ _ => False) (by kernel_rfl) (by kernel_rfl) (fun r0 => BlD.start H3.out.1 H3.out.2 r0) (fun _ _ _ h => h.elim) ?_
 simp only [List.take_succ_cons, List.take_zero, List.drop_succ_cons, List.drop_zero]
 apply Yag rfl rfl
 ·intro d r0 K hd hdep hK w5 hB1
  have HB := Yh_ hB1
  clear hB1 hdep
  go_wp2_with fail
  first
  |exact hK _ (HB.out.same _ (by decide))
  |exact HB.out.same _ (by decide)
 ·exact ⟨_, rfl⟩
 apply Yag rfl rfl
 ·intro d r0 K hd hdep hK w5 hB1
  refine Yip I w1.heap.size _ rfl rfl hB1.i ?_
  exact hK _ (hB1.same _ (by decide))
 ·exact ⟨_, rfl⟩
 refine Ydf rfl (fun _ => rfl) 28 rfl (by simp [Act.put]) ?_ ?_
 ·intro d r0 K hd w5 hB1 hK
  refine Yil I _ rfl rfl ?_
  exact hK _ _ hB1.lay
 refine Yc8 (fun _ r0 w5 d hall hB1 => ?_)
 obtain ⟨g, e1, hg, hgI⟩ := hB1.x (hall 2 (by decide))
 show wpList _ _ _ _ (Act.put (Yay _ _ [] _) (some 28) (r0 2)) _
 rw [e1]
 simp only [Yay]
 have HB := Yh_ (And.intro hB1.s hgI)
 have hi3 := hB1.i
 clear hB1 hgI
 have hne : w1.heap.size ≠ w3.heap.size := by
  obtain ⟨C, hq, _⟩ := HB.out.1.r
  intro e
  rw [← e, hi3] at hq
  injection hq with hq
  injection hq with _ hq _
  exact absurd hq (by decide)
 refine Yli rfl _ _ rfl w3.heap.size 0 8 8 ⟨g, 0, none⟩ 1 1 I.cells.toList rfl rfl rfl (Yis HB.out.2) (fun j hj => ((HB.out.1.cell (by decide) j hj).1)) (fun j hj => ((HB.out.1.cell (by decide) j hj).2)) (fun v hv => Ydm (l := [I]) v (by simpa [Ybm] using hv)) ?_
 intro w6 hw6
 have H6 := Yh_ (HB.out.1.copy (by decide) hw6)
 have hi6 : w6.heap[w1.heap.size]? = some (.cells I.cells 42 (0, 0)) := by rw [← hw6, Yfk hne]; exact hi3
 have c6 : w6.cell? ⟨w1.heap.size, 15, none⟩ = some (.int .i64 I.len) := Ya hi6 15
 clear HB hw6 hi3 hi6
 go_wp2_with fail
 go_loopw [11, 12] (fun n t wr => ∃ (row : List Ins) (x : Int), 1 ≤ row.length ∧ row.length ≤ 8 ∧ n = .int .i64 row.length ∧ t = .int .u32 x ∧ (0 ≤ x ∧ x < 4294967296) ∧ BlS w w1.heap.size w3.heap.size row wr ∧ Ybi M pc = Yee M pc (9 - row.length) row x) (fun n _ _ => 8 - (intOf n).toNat)
 case atStart => exact ⟨[I], (pc + I.len) % 4294967296, by simp, by simp, rfl, by go_num, by omega, H6.out, by rw [Ybi, if_pos HR.out.2.2, HR.out.1]; rfl⟩
 case round =>
  obtain ⟨row, x, hr1, hr8, rfl, rfl, hx, hS, hfin⟩ := hrel
  have HS := Yh_ (And.intro hS hx)
  clear hS hx H6 c6
  have HX := Yh_ hfin
  clear hfin
  have tZ : True := trivial
  have hsl := fun w' => sl_hi w' w3.heap.size row.length hr8
  have KB := Yh_ (show (0 + row.length) * B0 ≤ 140737488355328 by have := HI0.out.2.2.2.2; have : (0 + row.length) * B0 ≤ 8 * 1000 := Nat.mul_le_mul (by omega) this; omega)
  by_cases h8 : row.length < 8
  ·have d8 : decide ((row.length : Int) < 8) = true := by simp; omega
   have hso := fun w' => sl_lo w' w3.heap.size row.length (by omega)
   obtain ⟨last, hlast⟩ : ∃ last, row[row.length - 1]? = some last := ⟨row[row.length - 1]'(by omega), List.getElem?_eq_getElem (by omega)⟩
   have hgd : row.getD (row.length - 1) Ins.zero = last := by rw [List.getD_eq_getElem?_getD, hlast]; rfl
   have h9 : 9 - row.length = (8 - row.length) + 1 := by omega
   rw [h9] at HX
   have HL := Yh_ hlast
   clear hlast
   cases he : Yen last
   ·by_cases hp : (x - 1) % 4294967296 / 256 = pc / 256
    ·have dp : decide ((x - 1) % 4294967296 / 256 = pc / 256) = true := by simp [hp]
     have hgo : Yev pc x row = true := by simp only [Yev, hgd, he]; simp [h8, hp]
     obtain ⟨J, hJ⟩ : ∃ J, (Yai M x).i = J := ⟨_, rfl⟩
     obtain ⟨jk, jp, ja, jw, hJF⟩ := Yhx M x
     have tB : True := trivial
     cases hk2 : (Yai M x).k
     ·have HRow := Yh_ (show Ybi M pc = row by rw [HX.out]; simp [Yee, Yfh, hk2])
      have HJ := Yh_ (And.intro hJ (And.intro hJF hk2))
      clear hJ hJF hk2 HX hgo hgd
      go_wp2_with (first | (have _t := HL; clear _t; refine Ydu last w3.heap.size ((row.length - 1) * 16) rfl _ rfl rfl (HS.out.1.at HL.out) ?_; clear HL; have tA : True := trivial) | (have _t := tA; clear _t; go_at_call 23; refine (Yid last _).mono ?_; rintro e wA ⟨rfl, hu⟩; rw [he]; have HS2 := Yh_ (And.intro (HS.out.1.step hu) HS.out.2); clear hu tA HS; have HS := HS2; clear HS2) | (go_at_call 24; refine (Yhs _ _ (by first | exact HM.out.2 | omega)).mono ?_; rintro e wB ⟨rfl, rfl⟩) | (have _t := tB; clear _t; go_at_call 22; refine (Yhk M a pb x _ (HM.out.1.keep HS.out.1.u (by simp) (by simp)) HS.out.2).mono ?_; rintro e wF ⟨rfl, hu⟩; rw [HJ.out.1, HJ.out.2.1, HJ.out.2.2]; unfold Flt.val; have HS2 := Yh_ (And.intro (HS.out.1.step hu) HS.out.2); clear hu tB HS; have HS := HS2; clear HS2; have tC : True := trivial) | (have _t := tC; clear _t; refine Ye 42 rfl ?_; refine Yb J wF.heap.size rfl _ _ rfl rfl rfl (heap_alloc2_old wF (.cells Ins.zero.cells 42) Yfj) rfl ?_; intro wG hw; have h2 := Yfe hw; have c2 := Ya h2.2.1; have f2 := Yh h2.2.1; have HS2 := Yh_ (And.intro (HS.out.1.step (Ya0 (S := []) (b := wF.heap.size + 1) h2.2.2 (.inr (by simp)) (.int .i64 jk) (.int .u32 jp) (.int .u32 ja) (.int .i64 jw))) HS.out.2); have HG := Yh_ ((Ya0 (S := [wF.heap.size + 1]) (b := wF.heap.size + 1) (Upd.refl _ wG) (.inl (by simp)) (.int .i64 jk) (.int .u32 jp) (.int .u32 ja) (.int .i64 jw)).get h2.1 (by simp)); have c15 := Ya HG.out 15; rw [show (J.cells)[15]? = some (.int .i64 J.len) from rfl] at c15; clear h2 hw HS tC; have HS := HS2; clear HS2) | (have _t := tZ; clear _t; at_builtin; refine wpList_append_own _ rfl _ _ 30 rfl (w.heap.size + 1) 42 i0 (.agg Ins.zero.cells) 16 B0 Tryz.underlying30 HI0.out.1 HI0.out.2.1 HI0.out.2.2.1 HI0.out.2.2.2.1 rfl (by decide) _ _ _ rfl (World.ownsRow_nil _ _ _ _) ⟨w3.heap.size, 0, none⟩ row.length 8 (Ybm row) (by first | rfl | (rw [hr8']; rfl)) (Ye3 row) HS.out.1.src Ydm (by unfold maxLen; omega) KB.out HS.out.1.base ?_; intro v' w9 hv hg _; have hE := BlE.of HS.out.1 (Nat.zero_add _) hr1 (List.nil_append _) hv hg; have c9 := Ya hE.z; have f9 := Yh hE.z; have HE := Yh_ hE; clear hv hg hE HS tZ))
      exact bodyPost_ret (Yas rfl (Yj 4 rfl) (Yb3 5 w.heap.size Flt.zero rfl (Ycf HE.out.z _ _ _ _)) (Yj 6 rfl)) rfl (by obtain ⟨v, g, rfl, hh⟩ := Yiw (a := .int .i64 0) (b := .int .u32 0) (c := .int .u32 0) (d := .int .i64 0) HE.out HRow.out; exact ⟨_, g, rfl, hh⟩)
     ·have hjl := Yj2 hk2
      rw [hJ] at hjl
      by_cases hq : (x + J.len - 1) % 4294967296 / 256 = pc / 256
      ·have dq : decide ((x + J.len - 1) % 4294967296 / 256 = pc / 256) = true := by simp [hq]
       have HRow := Yh_ (show Ybi M pc = Yee M pc (8 - row.length) (row ++ [J]) ((x + J.len) % 4294967296) by rw [HX.out, Yee, if_pos ⟨hgo, by simp [Yfh, hk2, hJ, hq]⟩, hJ])
       have HJ := Yh_ (And.intro hJ (And.intro hJF hk2))
       clear hJ hJF hk2 HX hgo hgd
       go_wp2_with (first | (have _t := HL; clear _t; refine Ydu last w3.heap.size ((row.length - 1) * 16) rfl _ rfl rfl (HS.out.1.at HL.out) ?_; clear HL; have tA : True := trivial) | (have _t := tA; clear _t; go_at_call 23; refine (Yid last _).mono ?_; rintro e wA ⟨rfl, hu⟩; rw [he]; have HS2 := Yh_ (And.intro (HS.out.1.step hu) HS.out.2); clear hu tA HS; have HS := HS2; clear HS2) | (go_at_call 24; refine (Yhs _ _ (by first | exact HM.out.2 | omega)).mono ?_; rintro e wB ⟨rfl, rfl⟩) | (have _t := tB; clear _t; go_at_call 22; refine (Yhk M a pb x _ (HM.out.1.keep HS.out.1.u (by simp) (by simp)) HS.out.2).mono ?_; rintro e wF ⟨rfl, hu⟩; rw [HJ.out.1, HJ.out.2.1, HJ.out.2.2]; unfold Flt.val; have HS2 := Yh_ (And.intro (HS.out.1.step hu) HS.out.2); clear hu tB HS; have HS := HS2; clear HS2; have tC : True := trivial) | (have _t := tC; clear _t; refine Ye 42 rfl ?_; refine Yb J wF.heap.size rfl _ _ rfl rfl rfl (heap_alloc2_old wF (.cells Ins.zero.cells 42) Yfj) rfl ?_; intro wG hw; have h2 := Yfe hw; have c2 := Ya h2.2.1; have f2 := Yh h2.2.1; have HS2 := Yh_ (And.intro (HS.out.1.step (Ya0 (S := []) (b := wF.heap.size + 1) h2.2.2 (.inr (by simp)) (.int .i64 jk) (.int .u32 jp) (.int .u32 ja) (.int .i64 jw))) HS.out.2); have HG := Yh_ ((Ya0 (S := [wF.heap.size + 1]) (b := wF.heap.size + 1) (Upd.refl _ wG) (.inl (by simp)) (.int .i64 jk) (.int .u32 jp) (.int .u32 ja) (.int .i64 jw)).get h2.1 (by simp)); have c15 := Ya HG.out 15; rw [show (J.cells)[15]? = some (.int .i64 J.len) from rfl] at c15; clear h2 hw HS tC; have HS := HS2; clear HS2))
       have h4 := HS.out
       have g4 := HG.out
       clear HS HG c2 f2 c15
       generalize ((((wG.setCell ⟨wF.heap.size + 1, 0, none⟩ (.int .i64 jk)).setCell ⟨wF.heap.size + 1, 1, none⟩ (.int .u32 jp)).setCell ⟨wF.heap.size + 1, 2, none⟩ (.int .u32 ja)).setCell ⟨wF.heap.size + 1, 3, none⟩ (.int .i64 jw)) = w4 at h4 g4 ⊢
       have H4 := Yh_ (And.intro h4.1 g4)
       have hx4 := h4.2
       clear h4 g4
       refine Ydk 6 (BlX w w3.heap.size row J wF.heap.size) (fun _ _ => False) (by kernel_rfl) (by kernel_rfl) (fun r0 => BlX.start H4.out.1 H4.out.2 r0) (fun _ _ _ h => h.elim) ?_
       simp only [List.take_succ_cons, List.take_zero, List.drop_succ_cons, List.drop_zero]
       iterate 3
        apply Yag rfl rfl
        ·intro d r0 K hd hdep hK w5 hB1
         have HB := Yh_ hB1
         clear hB1 hdep
         go_wp2_with fail
         first
         |exact hK _ (HB.out.same _ (by decide) (by decide))
         |exact HB.out.same _ (by decide) (by decide)
        ·exact ⟨_, rfl⟩
       apply Yag rfl rfl
       ·intro d r0 K hd hdep hK w5 hB1
        refine Yip J wF.heap.size _ rfl rfl hB1.i ?_
        exact hK _ (hB1.same _ (by decide) (by decide))
       ·exact ⟨_, rfl⟩
       refine Ydf rfl (fun _ => rfl) 78 rfl (by simp [Act.put]) ?_ ?_
       ·intro d r0 K hd w5 hB1 hK
        refine Yil J _ rfl rfl ?_
        exact hK _ _ hB1.lay
       have hmin : Nat.min 1 (8 - row.length) = 1 := Nat.min_eq_left (by omega)
       refine Yvj (a2 := fun r => (Yay _ r [4] _).put (some 79) (.int .i64 1)) rfl (fun _ => rfl) ?_ ⟨.int .i64 1, fun _ => rfl, rfl⟩ ?_
       ·intro d r0 K hd hdep hK w5 hB1
        have d4 : d 4 = true := hdep ⟨4, .data⟩ (by simp) rfl
        obtain ⟨g2, e2, hgI⟩ := hB1.x d4
        refine Yqb _ _ rfl w3.heap.size (row.length * 16) (8 - row.length) (8 - row.length) ⟨g2, 0, none⟩ 1 1 J.cells.toList rfl e2 (by rw [hmin]; rfl) (Yis hgI) (fun j hj => (((hB1.was hd).cell h8 j hj).1)) (fun j hj => (((hB1.was hd).cell h8 j hj).2)) (fun v hv => Ydm (l := [J]) v (by simpa [Ybm] using hv)) ?_
        intro w7 hw7
        rw [hmin]
        exact hK _ (hB1.copy hd h8 hw7)
       refine Yc8 (fun _ r0 w5 d hall hB1 => ?_)
       have H7 := Yh_ (hB1.done (hall 5 (by decide)))
       have c7 : w5.cell? ⟨wF.heap.size, 15, none⟩ = some (.int .i64 J.len) := Ya hB1.i 15
       clear hB1
       show wpList _ _ _ _ (Act.put (Yay _ _ [] _) (some 78) (r0 4)) _
       generalize r0 4 = v4
       simp only [Yay]
       go_wp2_with fail
       go_roundw
       case rel => exact ⟨row ++ [J], (x + J.len) % 4294967296, by simp, by simp <;> omega, by first | rfl | simp, by first | rfl | go_num, by omega, ⟨H7.out.r, H7.out.z, H7.out.u, H7.out.l, H7.out.n⟩, by rw [HRow.out, show 9 - (row ++ [J]).length = 8 - row.length from by simp <;> omega]⟩
       case measure => simp [intOf]; omega
      ·have dq : decide ((x + J.len - 1) % 4294967296 / 256 = pc / 256) = false := by simp [hq]
       have HRow := Yh_ (show Ybi M pc = row by rw [HX.out]; simp [Yee, Yfh, hJ, hq])
       have HJ := Yh_ (And.intro hJ (And.intro hJF hk2))
       clear hJ hJF hk2 HX hgo hgd
       go_wp2_with (first | (have _t := HL; clear _t; refine Ydu last w3.heap.size ((row.length - 1) * 16) rfl _ rfl rfl (HS.out.1.at HL.out) ?_; clear HL; have tA : True := trivial) | (have _t := tA; clear _t; go_at_call 23; refine (Yid last _).mono ?_; rintro e wA ⟨rfl, hu⟩; rw [he]; have HS2 := Yh_ (And.intro (HS.out.1.step hu) HS.out.2); clear hu tA HS; have HS := HS2; clear HS2) | (go_at_call 24; refine (Yhs _ _ (by first | exact HM.out.2 | omega)).mono ?_; rintro e wB ⟨rfl, rfl⟩) | (have _t := tB; clear _t; go_at_call 22; refine (Yhk M a pb x _ (HM.out.1.keep HS.out.1.u (by simp) (by simp)) HS.out.2).mono ?_; rintro e wF ⟨rfl, hu⟩; rw [HJ.out.1, HJ.out.2.1, HJ.out.2.2]; unfold Flt.val; have HS2 := Yh_ (And.intro (HS.out.1.step hu) HS.out.2); clear hu tB HS; have HS := HS2; clear HS2; have tC : True := trivial) | (have _t := tC; clear _t; refine Ye 42 rfl ?_; refine Yb J wF.heap.size rfl _ _ rfl rfl rfl (heap_alloc2_old wF (.cells Ins.zero.cells 42) Yfj) rfl ?_; intro wG hw; have h2 := Yfe hw; have c2 := Ya h2.2.1; have f2 := Yh h2.2.1; have HS2 := Yh_ (And.intro (HS.out.1.step (Ya0 (S := []) (b := wF.heap.size + 1) h2.2.2 (.inr (by simp)) (.int .i64 jk) (.int .u32 jp) (.int .u32 ja) (.int .i64 jw))) HS.out.2); have HG := Yh_ ((Ya0 (S := [wF.heap.size + 1]) (b := wF.heap.size + 1) (Upd.refl _ wG) (.inl (by simp)) (.int .i64 jk) (.int .u32 jp) (.int .u32 ja) (.int .i64 jw)).get h2.1 (by simp)); have c15 := Ya HG.out 15; rw [show (J.cells)[15]? = some (.int .i64 J.len) from rfl] at c15; clear h2 hw HS tC; have HS := HS2; clear HS2) | (have _t := tZ; clear _t; at_builtin; refine wpList_append_own _ rfl _ _ 30 rfl (w.heap.size + 1) 42 i0 (.agg Ins.zero.cells) 16 B0 Tryz.underlying30 HI0.out.1 HI0.out.2.1 HI0.out.2.2.1 HI0.out.2.2.2.1 rfl (by decide) _ _ _ rfl (World.ownsRow_nil _ _ _ _) ⟨w3.heap.size, 0, none⟩ row.length 8 (Ybm row) (by first | rfl | (rw [hr8']; rfl)) (Ye3 row) HS.out.1.src Ydm (by unfold maxLen; omega) KB.out HS.out.1.base ?_; intro v' w9 hv hg _; have hE := BlE.of HS.out.1 (Nat.zero_add _) hr1 (List.nil_append _) hv hg; have c9 := Ya hE.z; have f9 := Yh hE.z; have HE := Yh_ hE; clear hv hg hE HS tZ))
       exact bodyPost_ret (Yas rfl (Yj 4 rfl) (Yb3 5 w.heap.size Flt.zero rfl (Ycf HE.out.z _ _ _ _)) (Yj 6 rfl)) rfl (by obtain ⟨v, g, rfl, hh⟩ := Yiw (a := .int .i64 0) (b := .int .u32 0) (c := .int .u32 0) (d := .int .i64 0) HE.out HRow.out; exact ⟨_, g, rfl, hh⟩)
    ·have dp : decide ((x - 1) % 4294967296 / 256 = pc / 256) = false := by simp [hp]
     have HRow := Yh_ (show Ybi M pc = row by rw [HX.out]; simp [Yee, Yev, hp])
     clear hgd HX
     go_wp2_with (first | (have _t := HL; clear _t; refine Ydu last w3.heap.size ((row.length - 1) * 16) rfl _ rfl rfl (HS.out.1.at HL.out) ?_; clear HL; have tA : True := trivial) | (have _t := tA; clear _t; go_at_call 23; refine (Yid last _).mono ?_; rintro e wA ⟨rfl, hu⟩; rw [he]; have HS2 := Yh_ (And.intro (HS.out.1.step hu) HS.out.2); clear hu tA HS; have HS := HS2; clear HS2) | (go_at_call 24; refine (Yhs _ _ (by first | exact HM.out.2 | omega)).mono ?_; rintro e wB ⟨rfl, rfl⟩) | (have _t := tZ; clear _t; at_builtin; refine wpList_append_own _ rfl _ _ 30 rfl (w.heap.size + 1) 42 i0 (.agg Ins.zero.cells) 16 B0 Tryz.underlying30 HI0.out.1 HI0.out.2.1 HI0.out.2.2.1 HI0.out.2.2.2.1 rfl (by decide) _ _ _ rfl (World.ownsRow_nil _ _ _ _) ⟨w3.heap.size, 0, none⟩ row.length 8 (Ybm row) (by first | rfl | (rw [hr8']; rfl)) (Ye3 row) HS.out.1.src Ydm (by unfold maxLen; omega) KB.out HS.out.1.base ?_; intro v' w9 hv hg _; have hE := BlE.of HS.out.1 (Nat.zero_add _) hr1 (List.nil_append _) hv hg; have c9 := Ya hE.z; have f9 := Yh hE.z; have HE := Yh_ hE; clear hv hg hE HS tZ))
     exact bodyPost_ret (Yas rfl (Yj 4 rfl) (Yb3 5 w.heap.size Flt.zero rfl (Ycf HE.out.z _ _ _ _)) (Yj 6 rfl)) rfl (by obtain ⟨v, g, rfl, hh⟩ := Yiw (a := .int .i64 0) (b := .int .u32 0) (c := .int .u32 0) (d := .int .i64 0) HE.out HRow.out; exact ⟨_, g, rfl, hh⟩)
   ·have HRow := Yh_ (show Ybi M pc = row by rw [HX.out]; simp only [Yee, Yev, hgd, he]; simp)
    clear hgd HX
    go_wp2_with (first | (have _t := HL; clear _t; refine Ydu last w3.heap.size ((row.length - 1) * 16) rfl _ rfl rfl (HS.out.1.at HL.out) ?_; clear HL; have tA : True := trivial) | (have _t := tA; clear _t; go_at_call 23; refine (Yid last _).mono ?_; rintro e wA ⟨rfl, hu⟩; rw [he]; have HS2 := Yh_ (And.intro (HS.out.1.step hu) HS.out.2); clear hu tA HS; have HS := HS2; clear HS2) | (have _t := tZ; clear _t; at_builtin; refine wpList_append_own _ rfl _ _ 30 rfl (w.heap.size + 1) 42 i0 (.agg Ins.zero.cells) 16 B0 Tryz.underlying30 HI0.out.1 HI0.out.2.1 HI0.out.2.2.1 HI0.out.2.2.2.1 rfl (by decide) _ _ _ rfl (World.ownsRow_nil _ _ _ _) ⟨w3.heap.size, 0, none⟩ row.length 8 (Ybm row) (by first | rfl | (rw [hr8']; rfl)) (Ye3 row) HS.out.1.src Ydm (by unfold maxLen; omega) KB.out HS.out.1.base ?_; intro v' w9 hv hg _; have hE := BlE.of HS.out.1 (Nat.zero_add _) hr1 (List.nil_append _) hv hg; have c9 := Ya hE.z; have f9 := Yh hE.z; have HE := Yh_ hE; clear hv hg hE HS tZ))
    exact bodyPost_ret (Yas rfl (Yj 4 rfl) (Yb3 5 w.heap.size Flt.zero rfl (Ycf HE.out.z _ _ _ _)) (Yj 6 rfl)) rfl (by obtain ⟨v, g, rfl, hh⟩ := Yiw (a := .int .i64 0) (b := .int .u32 0) (c := .int .u32 0) (d := .int .i64 0) HE.out HRow.out; exact ⟨_, g, rfl, hh⟩)
  ·have hr8' : row.length = 8 := by omega
   have HRow := Yh_ (show Ybi M pc = row by rw [HX.out, hr8']; simp [Yee, Yev, hr8'])
   have d8 : decide ((row.length : Int) < 8) = false := by simp; omega
   go_wp2_with (first | (have _t := tZ; clear _t; at_builtin; refine wpList_append_own _ rfl _ _ 30 rfl (w.heap.size + 1) 42 i0 (.agg Ins.zero.cells) 16 B0 Tryz.underlying30 HI0.out.1 HI0.out.2.1 HI0.out.2.2.1 HI0.out.2.2.2.1 rfl (by decide) _ _ _ rfl (World.ownsRow_nil _ _ _ _) ⟨w3.heap.size, 0, none⟩ row.length 8 (Ybm row) (by first | rfl | (rw [hr8']; rfl)) (Ye3 row) HS.out.1.src Ydm (by unfold maxLen; omega) KB.out HS.out.1.base ?_; intro v' w9 hv hg _; have hE := BlE.of HS.out.1 (Nat.zero_add _) hr1 (List.nil_append _) hv hg; have c9 := Ya hE.z; have f9 := Yh hE.z; have HE := Yh_ hE; clear hv hg hE HS tZ))
   exact bodyPost_ret (Yas rfl (Yj 4 rfl) (Yb3 5 w.heap.size Flt.zero rfl (Ycf HE.out.z _ _ _ _)) (Yj 6 rfl)) rfl (by obtain ⟨v, g, rfl, hh⟩ := Yiw (a := .int .i64 0) (b := .int .u32 0) (c := .int .u32 0) (d := .int .i64 0) HE.out HRow.out; exact ⟨_, g, rfl, hh⟩)
end
end Go.Proofs.YteiplidhkelkbaaGreat
