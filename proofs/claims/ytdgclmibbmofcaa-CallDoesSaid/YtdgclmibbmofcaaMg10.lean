/-
  Package call: Do, each of its ways. No condition.
-/
import Derived.Test.YtdgclmibbmofcaaMg09
namespace Go.Proofs.Ytdgclmibbmofcaa
open Go Go.RowKit Go.Maps
set_option linter.unusedVariables false
set_option linter.unusedSimpArgs false

theorem Cq.start {w : World} {a pb c b k n : Nat} {M : Mem} {inp : ByteArray} {D : DataW Value} {rv : Value} (hM : IsMem w a pb M) (hc : w.heap[c]? = some (.cells #[rv, .string inp, .map (some b), .int .i64 n] 77 (0, 0))) (hp : w.ownsMap Try.prog 3 evR b k D) (ne : c ≠ a ∧ c ≠ pb ∧ b ≠ a ∧ b ≠ pb ∧ c ≠ b) :
    Cq w a pb M c b #[rv, .string inp, .map (some b), .int .i64 n] k D [] w :=
  ⟨hM, hc, hp, Upd.refl _ _, fun p hp => by simp at hp, List.Pairwise.nil, fun p hp => by simp at hp, ⟨hM.al, hM.pl, lt_of_heap hc, hp.lt⟩, ne⟩
theorem Cq.isCl {w w1 : World} {a pb c b g k n : Nat} {M : Mem} {l : List Int} {inp : ByteArray} {D : DataW Value} {L : List (Nat × Obj)} {rv : Value} (h : Cq w a pb M c b #[rv, .string inp, .map (some b), .int .i64 n] k D L w1) (hr : Rp w rv l g) (hg : g ≠ c ∧ g ≠ b ∧ g ≠ pb) : IsCl w1 c b g l inp k n D :=
  ⟨⟨rv, h.hc, hr.keep h.u (by simp; omega)⟩, h.p, h.ne.2.2.2.2, ⟨fun e => hg.1 e.symm, fun e => hg.2.1 e.symm⟩⟩
theorem Cq.back {w w1 w2 : World} {a pb c b k : Nat} {M M2 : Mem} {C4 C5 : Array Value} {D : DataW Value} {L : List (Nat × Obj)} (h : Cq w a pb M c b C4 k D L w1) (u : Upd [c, pb] w1 w2) (hm : IsMem w2 a pb M2) (hc : w2.heap[c]? = some (.cells C5 77 (0, 0))) : Cq w a pb M2 c b C5 k D L w2 :=
  ⟨hm, hc, ownsMap_keep h.p u (by simp; exact ⟨fun e => h.ne.2.2.2.2 e.symm, h.ne.2.2.2.1⟩), h.u.also u (by simp), fun p hp => u.get (h.v p hp) (by have := h.t p hp; have := h.o; simp; omega), h.s, h.t, h.o, h.ne⟩
/-- Along Do's last statement: the state is stored (4). -/
def CqE (w : World) (a pb : Nat) (M : Mem) (c b : Nat) (C4 : Array Value) (k : Nat) (D : DataW Value) (x0 x1 x2 x3 : Nat) (o0 o1 o3 : Obj) (T : St) (dn : Nat → Bool) (r : Nat → Value) (w1 : World) : Prop :=
  Cq w a pb M c b C4 k D [(x0, o0), (x1, o1), (x2, .cells (cond (dn 4) T.cells St.zero.cells) 39 (0, 0)), (x3, o3)] w1
section
variable {w w1 : World} {a pb c b k x0 x1 x2 x3 : Nat} {M : Mem} {C4 : Array Value} {D : DataW Value} {o0 o1 o3 : Obj} {T : St} {dn : Nat → Bool} {r : Nat → Value}
theorem CqE.same (h : CqE w a pb M c b C4 k D x0 x1 x2 x3 o0 o1 o3 T dn r w1) (j : Nat) (hj : 4 ≠ j) : CqE w a pb M c b C4 k D x0 x1 x2 x3 o0 o1 o3 T (updD dn j) r w1 := by
  unfold CqE at *; rw [cq_ne hj]; exact h
theorem CqE.put (h : CqE w a pb M c b C4 k D x0 x1 x2 x3 o0 o1 o3 T dn r w1) : CqE w a pb M c b C4 k D x0 x1 x2 x3 o0 o1 o3 T (updD dn 4) r (w1.setCells x2 0 T.cells.toList) := by
  unfold CqE at *; rw [cq_eq]
  exact Cq.putS h 2 rfl (by cases dn 4 <;> rfl) rfl
theorem CqE.start (h : Cq w a pb M c b C4 k D [(x0, o0), (x1, o1), (x2, .cells St.zero.cells 39 (0, 0)), (x3, o3)] w1) (r : Nat → Value) : CqE w a pb M c b C4 k D x0 x1 x2 x3 o0 o1 o3 T (fun _ => false) r w1 := h
end
theorem wp_store_stateC {op : Oper} {a : Act} {w : World} {K : Act → World → Prop} {Q : Exit → Act → World → Prop} (s : St) (b : Nat) (x y : Operand) (ho : op.op = .store 39 x y) (hx : a.eval x = .pointer (some ⟨b, 0, none⟩)) (hy : a.eval y = .agg s.cells)
    {c : Array Value} (hb : w.heap[b]? = some (.cells c 39 (0, 0))) (hc : c.size = 17) (hK : ∀ w', w.setCells b 0 s.cells.toList = w' → K (a.put op.dst undef) w') : op.wp Try.prog a w K Q := by
  refine wp_store_mid 39 x y ho b 0 s.cells hx hy (there_of hb 0 s.cells.size (by rw [hc, St.size]; exact Nat.le_refl _)) (by rw [St.size]; exact state_info) s.one ?_
  exact hK _ rfl

theorem res_stateC {tmps : Array Value} {w : World} (a : Tmp) (b : Nat) (s : St) (ha : tmps.getD a undef = .pointer (some ⟨b, 0, none⟩)) (hb : w.heap[b]? = some (.cells s.cells 39 (0, 0))) :
    (resRun tmps (.cell a 39)).run Try.prog w = .ok (.agg s.cells) w :=
  res_row a 39 b _ _ ha hb Try.underlying39 rfl state_info
set_option maxRecDepth 100000 in
set_option maxHeartbeats 4000000 in
theorem Do_exit (M : Mem) (a pb c b g n : Nat) (l : List Int) (inp : ByteArray) (D : DataW Value) (s : St) (w : World) (hM : IsMem w a pb M) (hC : IsCl w c b g l inp n n D) (ne : c ≠ a ∧ c ≠ pb ∧ b ≠ a ∧ b ≠ pb ∧ g ≠ a ∧ g ≠ pb) (hs : s.Ok) (hn : n < 1000000) (hq : s.R 0 = 1) :
    Calls Try.prog 8 #[.pointer (some ⟨c, 0, none⟩), .pointer (some ⟨a, 0, none⟩), .agg s.cells] w fun e w' => e = .returned (.tuple #[.agg (s.setR 0 (s.R 3)).cells, .bool true]) ∧ IsMem w' a pb M ∧ IsCl w' c b g l inp (n + 1) (n + 1) ((D.put (.int .i64 n) (.held (Ev.val ⟨s.R 0, s.R 3, s.R 1, s.R 2, (s.R 3), ByteArray.empty⟩))).del (.int .i64 (n - 200))) ∧ Upd [c, b, pb] w w' := by
  obtain ⟨rv, hc0, hr0⟩ := hC.hd
  obtain ⟨sa, sc, rfl⟩ := hr0.form
  have K0 := Lib.hid (Cq.start (k := n) hM hc0 hC.mp ⟨ne.1, ne.2.1, ne.2.2.1, ne.2.2.2.1, hC.cb⟩)
  have HR := Lib.hid (And.intro hr0 (show g ≠ c ∧ g ≠ b ∧ g ≠ pb from ⟨fun e => hC.cg.1 e.symm, fun e => hC.cg.2 e.symm, ne.2.2.2.2.2⟩))
  have HNE := Lib.hid ne
  have HS := Lib.hid hs
  have HN := Lib.hid hn
  have hsR := hs.R
  obtain ⟨x0, h0⟩ : ∃ x, s.R 0 = x := ⟨_, rfl⟩
  obtain ⟨x1, h1⟩ : ∃ x, s.R 1 = x := ⟨_, rfl⟩
  obtain ⟨x2, h2⟩ : ∃ x, s.R 2 = x := ⟨_, rfl⟩
  obtain ⟨x3, h3⟩ : ∃ x, s.R 3 = x := ⟨_, rfl⟩
  have hx0 := hsR 0
  have hx1 := hsR 1
  have hx2 := hsR 2
  have hx3 := hsR 3
  rw [h0] at hx0
  rw [h1] at hx1
  rw [h2] at hx2
  rw [h3] at hx3
  have HX := Lib.hid (And.intro hx0 (And.intro hx1 (And.intro hx2 hx3)))
  have q1 : (x0 == 1) = true := by rw [← h0]; simp; exact hq
  clear hq
  have c0 : ∀ o1, (w.alloc (.cells s.cells 39) |>.alloc o1).cell? ⟨w.heap.size, 0, none⟩ = some (.int .u32 x0) := fun o1 => by rw [cells_of (heap_alloc2_old w (.cells s.cells 39) o1), St.cR s 0 (by decide), h0]
  have c1 : ∀ o1, (w.alloc (.cells s.cells 39) |>.alloc o1).cell? ⟨w.heap.size, 1, none⟩ = some (.int .u32 x1) := fun o1 => by rw [cells_of (heap_alloc2_old w (.cells s.cells 39) o1), St.cR s 1 (by decide), h1]
  have c2 : ∀ o1, (w.alloc (.cells s.cells 39) |>.alloc o1).cell? ⟨w.heap.size, 2, none⟩ = some (.int .u32 x2) := fun o1 => by rw [cells_of (heap_alloc2_old w (.cells s.cells 39) o1), St.cR s 2 (by decide), h2]
  have c3 : ∀ o1, (w.alloc (.cells s.cells 39) |>.alloc o1).cell? ⟨w.heap.size, 3, none⟩ = some (.int .u32 x3) := fun o1 => by rw [cells_of (heap_alloc2_old w (.cells s.cells 39) o1), St.cR s 3 (by decide), h3]
  have H03 := Lib.hid (And.intro h0 (And.intro h1 (And.intro h2 h3)))
  have tk1 : True := trivial
  clear hM hC ne hs hn hsR hx0 hx1 hx2 hx3 h0 h1 h2 h3 hc0 hr0
  go_enter Try.func8, Try.ntmps8
  go_upto_region 4 with (have _t := tk1; clear _t; go_at_call 23; refine (kinds_any _).mono ?_; rintro e w2 ⟨rfl, hu⟩; have K1 := Lib.hid (show Cq w a pb M c b #[.slice sa l.length sc, .string inp, .map (some b), .int .i64 n] n D [(w.heap.size + 1 + 1, .cells #[.int .u32 x0, .int .u32 x3, .int .u32 x1, .int .u32 x2, .int .u32 0, .string ByteArray.empty] 70 (0, 0)), (w.heap.size + 1, .cells St.zero.cells 39 (0, 0)), (w.heap.size, .cells s.cells 39 (0, 0))] w2 from by have h := ((K0.out.lay s.cells 39).lay St.zero.cells 39).lay #[.int .u32 x0, .int .u32 x3, .int .u32 x1, .int .u32 x2, .int .u32 0, .string ByteArray.empty] 70; simp at h; exact h.quiet hu); clear hu K0 c0 c1 c2 c3 tk1)
  have K2 := Lib.hid (K1.out.lay #[.int .u32 91, .int .u32 125, .int .u32 192] 40)
  clear K1
  have f3 := cells_of (K2.out.get 1 rfl)
  have f4 := free_of (K2.out.get 1 rfl)
  go_upto_region 14 with fail
  have hk := K2.out.cell 1 rfl 4 (.int .u32 x3)
  dsimp only [List.set] at hk
  have K3 := Lib.hid (show Cq w a pb M c b #[.slice sa l.length sc, .string inp, .map (some b), .int .i64 n] n D [(w2.heap.size, .cells #[.int .u32 91, .int .u32 125, .int .u32 192] 40 (0, 0)), (w.heap.size + 1 + 1, .cells #[.int .u32 x0, .int .u32 x3, .int .u32 x1, .int .u32 x2, .int .u32 x3, .string ByteArray.empty] 70 (0, 0)), (w.heap.size + 1, .cells St.zero.cells 39 (0, 0)), (w.heap.size, .cells s.cells 39 (0, 0))] _ from hk)
  clear hk K2 f3 f4
  refine wp_draw 9 (Cq w a pb M c b #[.slice sa l.length sc, .string inp, .map (some b), .int .i64 n] n D [(w2.heap.size, .cells #[.int .u32 91, .int .u32 125, .int .u32 192] 40 (0, 0)), (w.heap.size + 1 + 1, .cells #[.int .u32 x0, .int .u32 x3, .int .u32 x1, .int .u32 x2, .int .u32 x3, .string ByteArray.empty] 70 (0, 0)), (w.heap.size + 1, .cells St.zero.cells 39 (0, 0)), (w.heap.size, .cells (St.cells s) 39 (0, 0))] ) (fun _ _ => False) (by kernel_rfl) (by decide +kernel) (K3.out.quiet (Upd.refl [] _).drew) (fun _ _ _ h => h.elim) ?_
  simp only [List.take_succ_cons, List.take_zero, List.drop_succ_cons, List.drop_zero]
  iterate 9
    apply headW_val rfl rfl
    · intro K hK w5 hB1
      have f1 := cells_of hB1.hc
      have f2 := cells_of (hB1.get 1 rfl)
      have HB := Lib.hid hB1
      clear hB1
      go_wp2_with fail
      first
      | exact hK _ HB.out
      | exact HB.out
    · exact ⟨_, rfl⟩
  refine headW_nil (fun _ w6 hB1 => ?_)
  have K4 := Lib.hid hB1
  clear hB1 K3
  go_upto_region 15 with (at_mapUpdate; refine wpList_mapUpdate_own _ rfl _ _ _ 75 rfl 3 70 (int_keyed Try.underlying3) Try.underlying75 evR b n D rfl K4.out.p (by have := HN.out; unfold maxLen; omega) (.int .i64 n) (.agg #[.int .u32 x0, .int .u32 x3, .int .u32 x1, .int .u32 x2, .int .u32 x3, .string ByteArray.empty]) (.int .i64 n) rfl rfl (keyOf_int_mk Try.underlying3 (WalkArith.wf_i64 (by have := HN.out; omega))) (.held (.agg #[.int .u32 x0, .int .u32 x3, .int .u32 x1, .int .u32 x2, .int .u32 x3, .string ByteArray.empty])) [] rfl ?_; intro w7 hown hg; have K5 := Lib.hid (show Cq w a pb M c b #[.slice sa l.length sc, .string inp, .map (some b), .int .i64 n] (n + 1) (D.put (.int .i64 n) (.held (.agg #[.int .u32 x0, .int .u32 x3, .int .u32 x1, .int .u32 x2, .int .u32 x3, .string ByteArray.empty]))) [(w2.heap.size, .cells #[.int .u32 91, .int .u32 125, .int .u32 192] 40 (0, 0)), (w.heap.size + 1 + 1, .cells #[.int .u32 x0, .int .u32 x3, .int .u32 x1, .int .u32 x2, .int .u32 x3, .string ByteArray.empty] 70 (0, 0)), (w.heap.size + 1, .cells St.zero.cells 39 (0, 0)), (w.heap.size, .cells (St.cells s) 39 (0, 0))] w7 from K4.out.map hown (Upd.of_grown (row := some b) hg)); clear hown hg K4)
  refine wp_draw 9 (Cq w a pb M c b #[.slice sa l.length sc, .string inp, .map (some b), .int .i64 n] (n + 1) (D.put (.int .i64 n) (.held (.agg #[.int .u32 x0, .int .u32 x3, .int .u32 x1, .int .u32 x2, .int .u32 x3, .string ByteArray.empty]))) [(w2.heap.size, .cells #[.int .u32 91, .int .u32 125, .int .u32 192] 40 (0, 0)), (w.heap.size + 1 + 1, .cells #[.int .u32 x0, .int .u32 x3, .int .u32 x1, .int .u32 x2, .int .u32 x3, .string ByteArray.empty] 70 (0, 0)), (w.heap.size + 1, .cells St.zero.cells 39 (0, 0)), (w.heap.size, .cells (St.cells s) 39 (0, 0))] ) (fun _ _ => False) (by kernel_rfl) (by decide +kernel) (K5.out.quiet (Upd.refl [] _).drew) (fun _ _ _ h => h.elim) ?_
  simp only [List.take_succ_cons, List.take_zero, List.drop_succ_cons, List.drop_zero]
  iterate 9
    apply headW_val rfl rfl
    · intro K hK w5 hB1
      have f1 := cells_of hB1.hc
      have f2 := cells_of (hB1.get 1 rfl)
      have HB := Lib.hid hB1
      clear hB1
      go_wp2_with fail
      first
      | exact hK _ HB.out
      | exact HB.out
    · exact ⟨_, rfl⟩
  refine headW_nil (fun _ w6 hB1 => ?_)
  have K6 := Lib.hid hB1
  have e200 : wrap64 ((n : Int) - 200) = (n : Int) - 200 := by have := HN.out; unfold wrap64; omega
  clear hB1 K5
  try simp only [e200]
  go_upto_region 16 with (at_delete; refine wpList_delete_own _ rfl _ _ 75 3 rfl 70 (int_keyed Try.underlying3) Try.underlying75 evR b (n + 1) _ rfl K6.out.p (.int .i64 ((n : Int) - 200)) (.int .i64 ((n : Int) - 200)) rfl (keyOf_int_mk Try.underlying3 (WalkArith.wf_i64 (by have := HN.out; omega))) ?_; intro w8 hown hturn; have K7 := Lib.hid (show Cq w a pb M c b #[.slice sa l.length sc, .string inp, .map (some b), .int .i64 n] (n + 1) ((D.put (.int .i64 n) (.held (.agg #[.int .u32 x0, .int .u32 x3, .int .u32 x1, .int .u32 x2, .int .u32 x3, .string ByteArray.empty]))).del (.int .i64 (n - 200))) [(w2.heap.size, .cells #[.int .u32 91, .int .u32 125, .int .u32 192] 40 (0, 0)), (w.heap.size + 1 + 1, .cells #[.int .u32 x0, .int .u32 x3, .int .u32 x1, .int .u32 x2, .int .u32 x3, .string ByteArray.empty] 70 (0, 0)), (w.heap.size + 1, .cells St.zero.cells 39 (0, 0)), (w.heap.size, .cells (St.cells s) 39 (0, 0))] w8 from K6.out.map hown (Upd.of_grown (row := some b) hturn.grown)); clear hown hturn K6)
  have f1 := cells_of K7.out.hc
  have f2 := free_of K7.out.hc
  have f3 := cells_of (K7.out.get 1 rfl)
  have f4 : w8.cell? ⟨w.heap.size, 0, none⟩ = some (.int .u32 x0) := by rw [cells_of (K7.out.get 3 rfl), St.cR s 0 (by decide), H03.out.1]
  have f5 := free_of (K7.out.get 3 rfl)
  have e201 : wrap64 ((n : Int) + 1) = (n : Int) + 1 := by have := HN.out; unfold wrap64; omega
  have hcs : c ≠ w.heap.size := by have := K7.out.o; omega
  go_upto_region 18 with fail
  have hk := (K7.out.putC 3 (.int .i64 ((n : Int) + 1))).cell 3 rfl 0 (.int .u32 x3)
  dsimp only [List.set] at hk
  rw [St.cells_setR s 0 x3 (by decide)] at hk
  have K8 := Lib.hid (show Cq w a pb M c b #[.slice sa l.length sc, .string inp, .map (some b), .int .i64 ((n : Int) + 1)] (n + 1) ((D.put (.int .i64 n) (.held (.agg #[.int .u32 x0, .int .u32 x3, .int .u32 x1, .int .u32 x2, .int .u32 x3, .string ByteArray.empty]))).del (.int .i64 (n - 200))) [(w2.heap.size, .cells #[.int .u32 91, .int .u32 125, .int .u32 192] 40 (0, 0)), (w.heap.size + 1 + 1, .cells #[.int .u32 x0, .int .u32 x3, .int .u32 x1, .int .u32 x2, .int .u32 x3, .string ByteArray.empty] 70 (0, 0)), (w.heap.size + 1, .cells St.zero.cells 39 (0, 0)), (w.heap.size, .cells (St.cells (s.setR 0 x3)) 39 (0, 0))] _ from hk)
  clear hk K7 f1 f2 f3 f4 f5 e200 e201 hcs
  refine wp_drawE 5 (CqE w a pb M c b #[.slice sa l.length sc, .string inp, .map (some b), .int .i64 ((n : Int) + 1)] (n + 1) ((D.put (.int .i64 n) (.held (.agg #[.int .u32 x0, .int .u32 x3, .int .u32 x1, .int .u32 x2, .int .u32 x3, .string ByteArray.empty]))).del (.int .i64 (n - 200))) w2.heap.size (w.heap.size + 1 + 1) (w.heap.size + 1) w.heap.size (.cells #[.int .u32 91, .int .u32 125, .int .u32 192] 40 (0, 0)) (.cells #[.int .u32 x0, .int .u32 x3, .int .u32 x1, .int .u32 x2, .int .u32 x3, .string ByteArray.empty] 70 (0, 0)) (.cells (St.cells (s.setR 0 x3)) 39 (0, 0)) (s.setR 0 x3)) (fun _ _ => False) (by kernel_rfl) (by decide +kernel) (fun r0 => CqE.start (K8.out.quiet (Upd.refl [] _).drew) r0) (fun _ _ _ h => h.elim) ?_
  simp only [List.take_succ_cons, List.take_zero, List.drop_succ_cons, List.drop_zero]
  apply headE_val0 rfl rfl
  · intro dn r0 K hd hdep hK w5 hB1
    refine wp_load_state (s.setR 0 x3) _ _ rfl rfl (Cq.get hB1 3 rfl) ?_
    exact hK _ (hB1.same 0 (by decide))
  · exact ⟨_, rfl⟩
  apply headE_val0 rfl rfl
  · intro dn r0 K hd hdep hK w5 hB1
    have f2 := cells_of (Cq.get hB1 1 rfl)
    have HB := Lib.hid hB1
    clear hB1 hdep
    go_wp2_with fail
    first
    | exact hK _ (HB.out.same 1 (by decide))
    | exact HB.out.same 1 (by decide)
  · exact ⟨_, rfl⟩
  apply headE_val0 rfl rfl
  · intro dn r0 K hd hdep hK w5 hB1
    have f2 := cells_of (Cq.get hB1 1 rfl)
    have HB := Lib.hid hB1
    clear hB1 hdep
    go_wp2_with fail
    first
    | exact hK _ (HB.out.same 2 (by decide))
    | exact HB.out.same 2 (by decide)
  · exact ⟨_, rfl⟩
  apply headE_val0 rfl rfl
  · intro dn r0 K hd hdep hK w5 hB1
    have f2 := cells_of (Cq.get hB1 1 rfl)
    have HB := Lib.hid hB1
    clear hB1 hdep
    go_wp2_with fail
    first
    | exact hK _ (HB.out.same 3 (by decide))
    | exact HB.out.same 3 (by decide)
  · exact ⟨_, rfl⟩
  apply headE_val0 rfl rfl
  · intro dn r0 K hd hdep hK w5 hB1
    refine wp_store_stateC (s.setR 0 x3) (w.heap.size + 1) _ _ rfl rfl rfl (Cq.get hB1 2 rfl) (by cases dn 4 <;> rfl) ?_
    intro w6 hw; rw [← hw]
    exact hK _ hB1.put
  · exact ⟨undef, rfl⟩
  refine headE_nil (fun _ r0 w9 dn hall hB2 => ?_)
  unfold CqE at hB2
  rw [hall 4 (by decide)] at hB2
  have K9 := Lib.hid (show Cq w a pb M c b #[.slice sa l.length sc, .string inp, .map (some b), .int .i64 ((n : Int) + 1)] (n + 1) ((D.put (.int .i64 n) (.held (.agg #[.int .u32 x0, .int .u32 x3, .int .u32 x1, .int .u32 x2, .int .u32 x3, .string ByteArray.empty]))).del (.int .i64 (n - 200))) [(w2.heap.size, .cells #[.int .u32 91, .int .u32 125, .int .u32 192] 40 (0, 0)), (w.heap.size + 1 + 1, .cells #[.int .u32 x0, .int .u32 x3, .int .u32 x1, .int .u32 x2, .int .u32 x3, .string ByteArray.empty] 70 (0, 0)), (w.heap.size + 1, .cells (s.setR 0 x3).cells 39 (0, 0)), (w.heap.size, .cells (s.setR 0 x3).cells 39 (0, 0))] w9 from hB2)
  clear hall hB2 K8
  simp only [fillE]
  go_wp2_with fail
  refine bodyPost_ret (results_two' rfl (res_stateC 6 (w.heap.size + 1) (s.setR 0 x3) rfl (K9.out.get 2 rfl)) (res_tmp 7 rfl)) rfl ?_
  obtain ⟨h0, h1, h2, h3⟩ := H03.out
  rw [h0, h1, h2, h3]
  exact ⟨rfl, K9.out.m, Cq.isCl (n := n + 1) K9.out HR.out.1 HR.out.2, K9.out.u⟩
set_option maxRecDepth 100000 in
set_option maxHeartbeats 4000000 in
theorem Do_none (M : Mem) (a pb c b g n : Nat) (l : List Int) (inp : ByteArray) (D : DataW Value) (s : St) (w : World) (hM : IsMem w a pb M) (hC : IsCl w c b g l inp n n D) (ne : c ≠ a ∧ c ≠ pb ∧ b ≠ a ∧ b ≠ pb ∧ g ≠ a ∧ g ≠ pb) (hs : s.Ok) (hn : n < 1000000) (hq : s.R 0 ≠ 1 ∧ s.R 0 ≠ 3 ∧ s.R 0 ≠ 4 ∧ s.R 0 ≠ 91 ∧ s.R 0 ≠ 125 ∧ s.R 0 ≠ 192) (hl : l = []) :
    Calls Try.prog 8 #[.pointer (some ⟨c, 0, none⟩), .pointer (some ⟨a, 0, none⟩), .agg s.cells] w fun e w' => e = .returned (.tuple #[.agg (s.setR 0 4294967258).cells, .bool false]) ∧ IsMem w' a pb M ∧ IsCl w' c b g l inp (n + 1) (n + 1) ((D.put (.int .i64 n) (.held (Ev.val ⟨s.R 0, s.R 3, s.R 1, s.R 2, 4294967258, ByteArray.empty⟩))).del (.int .i64 (n - 200))) ∧ Upd [c, b, pb] w w' := by
  obtain ⟨rv, hc0, hr0⟩ := hC.hd
  obtain ⟨sa, sc, rfl⟩ := hr0.form
  have K0 := Lib.hid (Cq.start (k := n) hM hc0 hC.mp ⟨ne.1, ne.2.1, ne.2.2.1, ne.2.2.2.1, hC.cb⟩)
  have HR := Lib.hid (And.intro hr0 (show g ≠ c ∧ g ≠ b ∧ g ≠ pb from ⟨fun e => hC.cg.1 e.symm, fun e => hC.cg.2 e.symm, ne.2.2.2.2.2⟩))
  have HNE := Lib.hid ne
  have HS := Lib.hid hs
  have HN := Lib.hid hn
  have hsR := hs.R
  obtain ⟨x0, h0⟩ : ∃ x, s.R 0 = x := ⟨_, rfl⟩
  obtain ⟨x1, h1⟩ : ∃ x, s.R 1 = x := ⟨_, rfl⟩
  obtain ⟨x2, h2⟩ : ∃ x, s.R 2 = x := ⟨_, rfl⟩
  obtain ⟨x3, h3⟩ : ∃ x, s.R 3 = x := ⟨_, rfl⟩
  have hx0 := hsR 0
  have hx1 := hsR 1
  have hx2 := hsR 2
  have hx3 := hsR 3
  rw [h0] at hx0
  rw [h1] at hx1
  rw [h2] at hx2
  rw [h3] at hx3
  have HX := Lib.hid (And.intro hx0 (And.intro hx1 (And.intro hx2 hx3)))
  rw [h0] at hq
  have q1 : (x0 == 1) = false := by simp; omega
  have q3 : (x0 == 3) = false := by simp; omega
  have q4 : (x0 == 4) = false := by simp; omega
  have hct : (([91, 125, 192] : List Int).contains x0) = false := by simp; omega
  have HCT := Lib.hid hct
  clear hct hq
  have dl : decide ((0 : Int) < (l.length : Int)) = false := by rw [hl]; rfl
  have dl2 : decide (0 < l.length) = false := by rw [hl]; rfl
  have dl3 : ¬ (0 < l.length) := by rw [hl]; decide
  clear hl
  have c0 : ∀ o1, (w.alloc (.cells s.cells 39) |>.alloc o1).cell? ⟨w.heap.size, 0, none⟩ = some (.int .u32 x0) := fun o1 => by rw [cells_of (heap_alloc2_old w (.cells s.cells 39) o1), St.cR s 0 (by decide), h0]
  have c1 : ∀ o1, (w.alloc (.cells s.cells 39) |>.alloc o1).cell? ⟨w.heap.size, 1, none⟩ = some (.int .u32 x1) := fun o1 => by rw [cells_of (heap_alloc2_old w (.cells s.cells 39) o1), St.cR s 1 (by decide), h1]
  have c2 : ∀ o1, (w.alloc (.cells s.cells 39) |>.alloc o1).cell? ⟨w.heap.size, 2, none⟩ = some (.int .u32 x2) := fun o1 => by rw [cells_of (heap_alloc2_old w (.cells s.cells 39) o1), St.cR s 2 (by decide), h2]
  have c3 : ∀ o1, (w.alloc (.cells s.cells 39) |>.alloc o1).cell? ⟨w.heap.size, 3, none⟩ = some (.int .u32 x3) := fun o1 => by rw [cells_of (heap_alloc2_old w (.cells s.cells 39) o1), St.cR s 3 (by decide), h3]
  have H03 := Lib.hid (And.intro h0 (And.intro h1 (And.intro h2 h3)))
  have tk1 : True := trivial
  clear hM hC ne hs hn hsR hx0 hx1 hx2 hx3 h0 h1 h2 h3 hc0 hr0
  go_enter Try.func8, Try.ntmps8
  go_upto_region 4 with (have _t := tk1; clear _t; go_at_call 23; refine (kinds_any _).mono ?_; rintro e w2 ⟨rfl, hu⟩; have K1 := Lib.hid (show Cq w a pb M c b #[.slice sa l.length sc, .string inp, .map (some b), .int .i64 n] n D [(w.heap.size + 1 + 1, .cells #[.int .u32 x0, .int .u32 x3, .int .u32 x1, .int .u32 x2, .int .u32 0, .string ByteArray.empty] 70 (0, 0)), (w.heap.size + 1, .cells St.zero.cells 39 (0, 0)), (w.heap.size, .cells s.cells 39 (0, 0))] w2 from by have h := ((K0.out.lay s.cells 39).lay St.zero.cells 39).lay #[.int .u32 x0, .int .u32 x3, .int .u32 x1, .int .u32 x2, .int .u32 0, .string ByteArray.empty] 70; simp at h; exact h.quiet hu); clear hu K0 c0 c1 c2 c3 tk1)
  have K2 := Lib.hid (K1.out.lay #[.int .u32 91, .int .u32 125, .int .u32 192] 40)
  clear K1
  have f2 := cells_of (K2.out.get 1 rfl)
  go_upto_region 10 with fail
  clear f2
  refine wp_draw 3 (Cq w a pb M c b #[.slice sa l.length sc, .string inp, .map (some b), .int .i64 n] n D [(w2.heap.size, .cells #[.int .u32 91, .int .u32 125, .int .u32 192] 40 (0, 0)), (w.heap.size + 1 + 1, .cells #[.int .u32 x0, .int .u32 x3, .int .u32 x1, .int .u32 x2, .int .u32 0, .string ByteArray.empty] 70 (0, 0)), (w.heap.size + 1, .cells St.zero.cells 39 (0, 0)), (w.heap.size, .cells s.cells 39 (0, 0))] ) (fun _ _ => False) (by kernel_rfl) (by decide +kernel) (K2.out.quiet (Upd.refl [] _).drew) (fun _ _ _ h => h.elim) ?_
  simp only [List.take_succ_cons, List.take_zero, List.drop_succ_cons, List.drop_zero]
  iterate 3
    apply headW_val rfl rfl
    · intro K hK w5 hB1
      have f1 := cells_of hB1.hc
      have f2 := cells_of (hB1.get 1 rfl)
      have HB := Lib.hid hB1
      clear hB1
      go_wp2_with fail
      first
      | exact hK _ HB.out
      | exact HB.out
    · exact ⟨_, rfl⟩
  refine headW_nil (fun _ w6 hB1 => ?_)
  have K2a := Lib.hid hB1
  clear hB1 K2
  go_upto_region 14 with (first | (have _t := K2a; clear _t; go_at_call 26; refine (Contains32_any [91, 125, 192] w2.heap.size 3 #[.int .u32 91, .int .u32 125, .int .u32 192] x0 _ (.inr (K2a.out.get 0 rfl)) (by intro i hi; match i, hi with | 0, _ => rfl | 1, _ => rfl | 2, _ => rfl) (by decide)).mono ?_; rintro e w4 ⟨rfl, hu⟩; rw [HCT.out]; have K2b := Lib.hid (show Cq w a pb M c b #[.slice sa l.length sc, .string inp, .map (some b), .int .i64 n] n D [(w2.heap.size, .cells #[.int .u32 91, .int .u32 125, .int .u32 192] 40 (0, 0)), (w.heap.size + 1 + 1, .cells #[.int .u32 x0, .int .u32 x3, .int .u32 x1, .int .u32 x2, .int .u32 0, .string ByteArray.empty] 70 (0, 0)), (w.heap.size + 1, .cells St.zero.cells 39 (0, 0)), (w.heap.size, .cells s.cells 39 (0, 0))] w4 from K2a.out.quiet hu); have f1 := cells_of K2b.out.hc; have f2 := cells_of (K2b.out.get 1 rfl); have f3 := free_of (K2b.out.get 1 rfl); clear hu K2a) | (have _t := K2b; clear _t; go_at_call 28; refine (result_any (-38) (by decide) _).mono ?_; rintro e w5 ⟨rfl, hu⟩; have K2c := Lib.hid (show Cq w a pb M c b #[.slice sa l.length sc, .string inp, .map (some b), .int .i64 n] n D [(w2.heap.size, .cells #[.int .u32 91, .int .u32 125, .int .u32 192] 40 (0, 0)), (w.heap.size + 1 + 1, .cells #[.int .u32 x0, .int .u32 x3, .int .u32 x1, .int .u32 x2, .int .u32 0, .string ByteArray.empty] 70 (0, 0)), (w.heap.size + 1, .cells St.zero.cells 39 (0, 0)), (w.heap.size, .cells s.cells 39 (0, 0))] w5 from K2b.out.quiet hu); have f4 := cells_of (K2c.out.get 1 rfl); have f5 := free_of (K2c.out.get 1 rfl); clear hu K2b f1 f2 f3))
  have hk := ((K2c.out).cell 1 rfl 4 (.int .u32 4294967258))
  dsimp only [List.set] at hk
  have K3 := Lib.hid (show Cq w a pb M c b #[.slice sa l.length sc, .string inp, .map (some b), .int .i64 n] n D [(w2.heap.size, .cells #[.int .u32 91, .int .u32 125, .int .u32 192] 40 (0, 0)), (w.heap.size + 1 + 1, .cells #[.int .u32 x0, .int .u32 x3, .int .u32 x1, .int .u32 x2, .int .u32 4294967258, .string ByteArray.empty] 70 (0, 0)), (w.heap.size + 1, .cells St.zero.cells 39 (0, 0)), (w.heap.size, .cells s.cells 39 (0, 0))] _ from hk)
  clear hk
  clear K2c f4 f5
  refine wp_draw 9 (Cq w a pb M c b #[.slice sa l.length sc, .string inp, .map (some b), .int .i64 n] n D [(w2.heap.size, .cells #[.int .u32 91, .int .u32 125, .int .u32 192] 40 (0, 0)), (w.heap.size + 1 + 1, .cells #[.int .u32 x0, .int .u32 x3, .int .u32 x1, .int .u32 x2, .int .u32 4294967258, .string ByteArray.empty] 70 (0, 0)), (w.heap.size + 1, .cells St.zero.cells 39 (0, 0)), (w.heap.size, .cells (St.cells s) 39 (0, 0))] ) (fun _ _ => False) (by kernel_rfl) (by decide +kernel) (K3.out.quiet (Upd.refl [] _).drew) (fun _ _ _ h => h.elim) ?_
  simp only [List.take_succ_cons, List.take_zero, List.drop_succ_cons, List.drop_zero]
  iterate 9
    apply headW_val rfl rfl
    · intro K hK w5 hB1
      have f1 := cells_of hB1.hc
      have f2 := cells_of (hB1.get 1 rfl)
      have HB := Lib.hid hB1
      clear hB1
      go_wp2_with fail
      first
      | exact hK _ HB.out
      | exact HB.out
    · exact ⟨_, rfl⟩
  refine headW_nil (fun _ w6 hB1 => ?_)
  have K4 := Lib.hid hB1
  clear hB1 K3
  go_upto_region 15 with (at_mapUpdate; refine wpList_mapUpdate_own _ rfl _ _ _ 75 rfl 3 70 (int_keyed Try.underlying3) Try.underlying75 evR b n D rfl K4.out.p (by have := HN.out; unfold maxLen; omega) (.int .i64 n) (.agg #[.int .u32 x0, .int .u32 x3, .int .u32 x1, .int .u32 x2, .int .u32 4294967258, .string ByteArray.empty]) (.int .i64 n) rfl rfl (keyOf_int_mk Try.underlying3 (WalkArith.wf_i64 (by have := HN.out; omega))) (.held (.agg #[.int .u32 x0, .int .u32 x3, .int .u32 x1, .int .u32 x2, .int .u32 4294967258, .string ByteArray.empty])) [] rfl ?_; intro w7 hown hg; have K5 := Lib.hid (show Cq w a pb M c b #[.slice sa l.length sc, .string inp, .map (some b), .int .i64 n] (n + 1) (D.put (.int .i64 n) (.held (.agg #[.int .u32 x0, .int .u32 x3, .int .u32 x1, .int .u32 x2, .int .u32 4294967258, .string ByteArray.empty]))) [(w2.heap.size, .cells #[.int .u32 91, .int .u32 125, .int .u32 192] 40 (0, 0)), (w.heap.size + 1 + 1, .cells #[.int .u32 x0, .int .u32 x3, .int .u32 x1, .int .u32 x2, .int .u32 4294967258, .string ByteArray.empty] 70 (0, 0)), (w.heap.size + 1, .cells St.zero.cells 39 (0, 0)), (w.heap.size, .cells (St.cells s) 39 (0, 0))] w7 from K4.out.map hown (Upd.of_grown (row := some b) hg)); clear hown hg K4)
  refine wp_draw 9 (Cq w a pb M c b #[.slice sa l.length sc, .string inp, .map (some b), .int .i64 n] (n + 1) (D.put (.int .i64 n) (.held (.agg #[.int .u32 x0, .int .u32 x3, .int .u32 x1, .int .u32 x2, .int .u32 4294967258, .string ByteArray.empty]))) [(w2.heap.size, .cells #[.int .u32 91, .int .u32 125, .int .u32 192] 40 (0, 0)), (w.heap.size + 1 + 1, .cells #[.int .u32 x0, .int .u32 x3, .int .u32 x1, .int .u32 x2, .int .u32 4294967258, .string ByteArray.empty] 70 (0, 0)), (w.heap.size + 1, .cells St.zero.cells 39 (0, 0)), (w.heap.size, .cells (St.cells s) 39 (0, 0))] ) (fun _ _ => False) (by kernel_rfl) (by decide +kernel) (K5.out.quiet (Upd.refl [] _).drew) (fun _ _ _ h => h.elim) ?_
  simp only [List.take_succ_cons, List.take_zero, List.drop_succ_cons, List.drop_zero]
  iterate 9
    apply headW_val rfl rfl
    · intro K hK w5 hB1
      have f1 := cells_of hB1.hc
      have f2 := cells_of (hB1.get 1 rfl)
      have HB := Lib.hid hB1
      clear hB1
      go_wp2_with fail
      first
      | exact hK _ HB.out
      | exact HB.out
    · exact ⟨_, rfl⟩
  refine headW_nil (fun _ w6 hB1 => ?_)
  have K6 := Lib.hid hB1
  have e200 : wrap64 ((n : Int) - 200) = (n : Int) - 200 := by have := HN.out; unfold wrap64; omega
  clear hB1 K5
  try simp only [e200]
  go_upto_region 16 with (at_delete; refine wpList_delete_own _ rfl _ _ 75 3 rfl 70 (int_keyed Try.underlying3) Try.underlying75 evR b (n + 1) _ rfl K6.out.p (.int .i64 ((n : Int) - 200)) (.int .i64 ((n : Int) - 200)) rfl (keyOf_int_mk Try.underlying3 (WalkArith.wf_i64 (by have := HN.out; omega))) ?_; intro w8 hown hturn; have K7 := Lib.hid (show Cq w a pb M c b #[.slice sa l.length sc, .string inp, .map (some b), .int .i64 n] (n + 1) ((D.put (.int .i64 n) (.held (.agg #[.int .u32 x0, .int .u32 x3, .int .u32 x1, .int .u32 x2, .int .u32 4294967258, .string ByteArray.empty]))).del (.int .i64 (n - 200))) [(w2.heap.size, .cells #[.int .u32 91, .int .u32 125, .int .u32 192] 40 (0, 0)), (w.heap.size + 1 + 1, .cells #[.int .u32 x0, .int .u32 x3, .int .u32 x1, .int .u32 x2, .int .u32 4294967258, .string ByteArray.empty] 70 (0, 0)), (w.heap.size + 1, .cells St.zero.cells 39 (0, 0)), (w.heap.size, .cells (St.cells s) 39 (0, 0))] w8 from K6.out.map hown (Upd.of_grown (row := some b) hturn.grown)); clear hown hturn K6)
  have f1 := cells_of K7.out.hc
  have f2 := free_of K7.out.hc
  have f3 := cells_of (K7.out.get 1 rfl)
  have f4 : w8.cell? ⟨w.heap.size, 0, none⟩ = some (.int .u32 x0) := by rw [cells_of (K7.out.get 3 rfl), St.cR s 0 (by decide), H03.out.1]
  have f5 := free_of (K7.out.get 3 rfl)
  have e201 : wrap64 ((n : Int) + 1) = (n : Int) + 1 := by have := HN.out; unfold wrap64; omega
  have hcs : c ≠ w.heap.size := by have := K7.out.o; omega
  go_upto_region 18 with fail
  have hk := (K7.out.putC 3 (.int .i64 ((n : Int) + 1))).cell 3 rfl 0 (.int .u32 4294967258)
  dsimp only [List.set] at hk
  rw [St.cells_setR s 0 4294967258 (by decide)] at hk
  have K8 := Lib.hid (show Cq w a pb M c b #[.slice sa l.length sc, .string inp, .map (some b), .int .i64 ((n : Int) + 1)] (n + 1) ((D.put (.int .i64 n) (.held (.agg #[.int .u32 x0, .int .u32 x3, .int .u32 x1, .int .u32 x2, .int .u32 4294967258, .string ByteArray.empty]))).del (.int .i64 (n - 200))) [(w2.heap.size, .cells #[.int .u32 91, .int .u32 125, .int .u32 192] 40 (0, 0)), (w.heap.size + 1 + 1, .cells #[.int .u32 x0, .int .u32 x3, .int .u32 x1, .int .u32 x2, .int .u32 4294967258, .string ByteArray.empty] 70 (0, 0)), (w.heap.size + 1, .cells St.zero.cells 39 (0, 0)), (w.heap.size, .cells (St.cells (s.setR 0 4294967258)) 39 (0, 0))] _ from hk)
  clear hk K7 f1 f2 f3 f4 f5 e200 e201 hcs
  refine wp_drawE 5 (CqE w a pb M c b #[.slice sa l.length sc, .string inp, .map (some b), .int .i64 ((n : Int) + 1)] (n + 1) ((D.put (.int .i64 n) (.held (.agg #[.int .u32 x0, .int .u32 x3, .int .u32 x1, .int .u32 x2, .int .u32 4294967258, .string ByteArray.empty]))).del (.int .i64 (n - 200))) w2.heap.size (w.heap.size + 1 + 1) (w.heap.size + 1) w.heap.size (.cells #[.int .u32 91, .int .u32 125, .int .u32 192] 40 (0, 0)) (.cells #[.int .u32 x0, .int .u32 x3, .int .u32 x1, .int .u32 x2, .int .u32 4294967258, .string ByteArray.empty] 70 (0, 0)) (.cells (St.cells (s.setR 0 4294967258)) 39 (0, 0)) (s.setR 0 4294967258)) (fun _ _ => False) (by kernel_rfl) (by decide +kernel) (fun r0 => CqE.start (K8.out.quiet (Upd.refl [] _).drew) r0) (fun _ _ _ h => h.elim) ?_
  simp only [List.take_succ_cons, List.take_zero, List.drop_succ_cons, List.drop_zero]
  apply headE_val0 rfl rfl
  · intro dn r0 K hd hdep hK w5 hB1
    refine wp_load_state (s.setR 0 4294967258) _ _ rfl rfl (Cq.get hB1 3 rfl) ?_
    exact hK _ (hB1.same 0 (by decide))
  · exact ⟨_, rfl⟩
  apply headE_val0 rfl rfl
  · intro dn r0 K hd hdep hK w5 hB1
    have f2 := cells_of (Cq.get hB1 1 rfl)
    have HB := Lib.hid hB1
    clear hB1 hdep
    go_wp2_with fail
    first
    | exact hK _ (HB.out.same 1 (by decide))
    | exact HB.out.same 1 (by decide)
  · exact ⟨_, rfl⟩
  apply headE_val0 rfl rfl
  · intro dn r0 K hd hdep hK w5 hB1
    have f2 := cells_of (Cq.get hB1 1 rfl)
    have HB := Lib.hid hB1
    clear hB1 hdep
    go_wp2_with fail
    first
    | exact hK _ (HB.out.same 2 (by decide))
    | exact HB.out.same 2 (by decide)
  · exact ⟨_, rfl⟩
  apply headE_val0 rfl rfl
  · intro dn r0 K hd hdep hK w5 hB1
    have f2 := cells_of (Cq.get hB1 1 rfl)
    have HB := Lib.hid hB1
    clear hB1 hdep
    go_wp2_with fail
    first
    | exact hK _ (HB.out.same 3 (by decide))
    | exact HB.out.same 3 (by decide)
  · exact ⟨_, rfl⟩
  apply headE_val0 rfl rfl
  · intro dn r0 K hd hdep hK w5 hB1
    refine wp_store_stateC (s.setR 0 4294967258) (w.heap.size + 1) _ _ rfl rfl rfl (Cq.get hB1 2 rfl) (by cases dn 4 <;> rfl) ?_
    intro w6 hw; rw [← hw]
    exact hK _ hB1.put
  · exact ⟨undef, rfl⟩
  refine headE_nil (fun _ r0 w9 dn hall hB2 => ?_)
  unfold CqE at hB2
  rw [hall 4 (by decide)] at hB2
  have K9 := Lib.hid (show Cq w a pb M c b #[.slice sa l.length sc, .string inp, .map (some b), .int .i64 ((n : Int) + 1)] (n + 1) ((D.put (.int .i64 n) (.held (.agg #[.int .u32 x0, .int .u32 x3, .int .u32 x1, .int .u32 x2, .int .u32 4294967258, .string ByteArray.empty]))).del (.int .i64 (n - 200))) [(w2.heap.size, .cells #[.int .u32 91, .int .u32 125, .int .u32 192] 40 (0, 0)), (w.heap.size + 1 + 1, .cells #[.int .u32 x0, .int .u32 x3, .int .u32 x1, .int .u32 x2, .int .u32 4294967258, .string ByteArray.empty] 70 (0, 0)), (w.heap.size + 1, .cells (s.setR 0 4294967258).cells 39 (0, 0)), (w.heap.size, .cells (s.setR 0 4294967258).cells 39 (0, 0))] w9 from hB2)
  clear hall hB2 K8
  simp only [fillE]
  go_wp2_with fail
  refine bodyPost_ret (results_two' rfl (res_stateC 6 (w.heap.size + 1) (s.setR 0 4294967258) rfl (K9.out.get 2 rfl)) (res_tmp 7 rfl)) rfl ?_
  obtain ⟨h0, h1, h2, h3⟩ := H03.out
  rw [h0, h1, h2, h3]
  exact ⟨rfl, K9.out.m, Cq.isCl (n := n + 1) K9.out HR.out.1 HR.out.2, K9.out.u⟩
set_option maxRecDepth 100000 in
set_option maxHeartbeats 4000000 in
theorem Do_pages (M : Mem) (a pb c b g n : Nat) (l : List Int) (inp : ByteArray) (D : DataW Value) (s : St) (w : World) (hM : IsMem w a pb M) (hC : IsCl w c b g l inp n n D) (ne : c ≠ a ∧ c ≠ pb ∧ b ≠ a ∧ b ≠ pb ∧ g ≠ a ∧ g ≠ pb) (hs : s.Ok) (hn : n < 1000000) (hq : s.R 0 = 91 ∨ s.R 0 = 125 ∨ s.R 0 = 192) :
    Calls Try.prog 8 #[.pointer (some ⟨c, 0, none⟩), .pointer (some ⟨a, 0, none⟩), .agg s.cells] w fun e w' => e = .returned (.tuple #[.agg (s.setR 0 (chR M (s.R 0) (s.R 3) (s.R 1) (s.R 2))).cells, .bool false]) ∧ IsMem w' a pb (chM M (s.R 0) (s.R 3) (s.R 1) (s.R 2)) ∧ IsCl w' c b g l inp (n + 1) (n + 1) ((D.put (.int .i64 n) (.held (Ev.val ⟨s.R 0, s.R 3, s.R 1, s.R 2, (chR M (s.R 0) (s.R 3) (s.R 1) (s.R 2)), ByteArray.empty⟩))).del (.int .i64 (n - 200))) ∧ Upd [c, b, pb] w w' := by
  obtain ⟨rv, hc0, hr0⟩ := hC.hd
  obtain ⟨sa, sc, rfl⟩ := hr0.form
  have K0 := Lib.hid (Cq.start (k := n) hM hc0 hC.mp ⟨ne.1, ne.2.1, ne.2.2.1, ne.2.2.2.1, hC.cb⟩)
  have HR := Lib.hid (And.intro hr0 (show g ≠ c ∧ g ≠ b ∧ g ≠ pb from ⟨fun e => hC.cg.1 e.symm, fun e => hC.cg.2 e.symm, ne.2.2.2.2.2⟩))
  have HNE := Lib.hid ne
  have HS := Lib.hid hs
  have HN := Lib.hid hn
  have hsR := hs.R
  obtain ⟨x0, h0⟩ : ∃ x, s.R 0 = x := ⟨_, rfl⟩
  obtain ⟨x1, h1⟩ : ∃ x, s.R 1 = x := ⟨_, rfl⟩
  obtain ⟨x2, h2⟩ : ∃ x, s.R 2 = x := ⟨_, rfl⟩
  obtain ⟨x3, h3⟩ : ∃ x, s.R 3 = x := ⟨_, rfl⟩
  have hx0 := hsR 0
  have hx1 := hsR 1
  have hx2 := hsR 2
  have hx3 := hsR 3
  rw [h0] at hx0
  rw [h1] at hx1
  rw [h2] at hx2
  rw [h3] at hx3
  have HX := Lib.hid (And.intro hx0 (And.intro hx1 (And.intro hx2 hx3)))
  rw [h0] at hq
  have q1 : (x0 == 1) = false := by simp; omega
  have q3 : (x0 == 3) = false := by simp; omega
  have q4 : (x0 == 4) = false := by simp; omega
  have hct : (([91, 125, 192] : List Int).contains x0) = true := by simp; exact hq
  have HCT := Lib.hid hct
  clear hct hq
  have c0 : ∀ o1, (w.alloc (.cells s.cells 39) |>.alloc o1).cell? ⟨w.heap.size, 0, none⟩ = some (.int .u32 x0) := fun o1 => by rw [cells_of (heap_alloc2_old w (.cells s.cells 39) o1), St.cR s 0 (by decide), h0]
  have c1 : ∀ o1, (w.alloc (.cells s.cells 39) |>.alloc o1).cell? ⟨w.heap.size, 1, none⟩ = some (.int .u32 x1) := fun o1 => by rw [cells_of (heap_alloc2_old w (.cells s.cells 39) o1), St.cR s 1 (by decide), h1]
  have c2 : ∀ o1, (w.alloc (.cells s.cells 39) |>.alloc o1).cell? ⟨w.heap.size, 2, none⟩ = some (.int .u32 x2) := fun o1 => by rw [cells_of (heap_alloc2_old w (.cells s.cells 39) o1), St.cR s 2 (by decide), h2]
  have c3 : ∀ o1, (w.alloc (.cells s.cells 39) |>.alloc o1).cell? ⟨w.heap.size, 3, none⟩ = some (.int .u32 x3) := fun o1 => by rw [cells_of (heap_alloc2_old w (.cells s.cells 39) o1), St.cR s 3 (by decide), h3]
  have H03 := Lib.hid (And.intro h0 (And.intro h1 (And.intro h2 h3)))
  have tk1 : True := trivial
  clear hM hC ne hs hn hsR hx0 hx1 hx2 hx3 h0 h1 h2 h3 hc0 hr0
  go_enter Try.func8, Try.ntmps8
  go_upto_region 4 with (have _t := tk1; clear _t; go_at_call 23; refine (kinds_any _).mono ?_; rintro e w2 ⟨rfl, hu⟩; have K1 := Lib.hid (show Cq w a pb M c b #[.slice sa l.length sc, .string inp, .map (some b), .int .i64 n] n D [(w.heap.size + 1 + 1, .cells #[.int .u32 x0, .int .u32 x3, .int .u32 x1, .int .u32 x2, .int .u32 0, .string ByteArray.empty] 70 (0, 0)), (w.heap.size + 1, .cells St.zero.cells 39 (0, 0)), (w.heap.size, .cells s.cells 39 (0, 0))] w2 from by have h := ((K0.out.lay s.cells 39).lay St.zero.cells 39).lay #[.int .u32 x0, .int .u32 x3, .int .u32 x1, .int .u32 x2, .int .u32 0, .string ByteArray.empty] 70; simp at h; exact h.quiet hu); clear hu K0 c0 c1 c2 c3 tk1)
  have K2 := Lib.hid (K1.out.lay #[.int .u32 91, .int .u32 125, .int .u32 192] 40)
  clear K1
  have f2 := cells_of (K2.out.get 1 rfl)
  go_upto_region 10 with fail
  clear f2
  refine wp_draw 3 (Cq w a pb M c b #[.slice sa l.length sc, .string inp, .map (some b), .int .i64 n] n D [(w2.heap.size, .cells #[.int .u32 91, .int .u32 125, .int .u32 192] 40 (0, 0)), (w.heap.size + 1 + 1, .cells #[.int .u32 x0, .int .u32 x3, .int .u32 x1, .int .u32 x2, .int .u32 0, .string ByteArray.empty] 70 (0, 0)), (w.heap.size + 1, .cells St.zero.cells 39 (0, 0)), (w.heap.size, .cells s.cells 39 (0, 0))] ) (fun _ _ => False) (by kernel_rfl) (by decide +kernel) (K2.out.quiet (Upd.refl [] _).drew) (fun _ _ _ h => h.elim) ?_
  simp only [List.take_succ_cons, List.take_zero, List.drop_succ_cons, List.drop_zero]
  iterate 3
    apply headW_val rfl rfl
    · intro K hK w5 hB1
      have f1 := cells_of hB1.hc
      have f2 := cells_of (hB1.get 1 rfl)
      have HB := Lib.hid hB1
      clear hB1
      go_wp2_with fail
      first
      | exact hK _ HB.out
      | exact HB.out
    · exact ⟨_, rfl⟩
  refine headW_nil (fun _ w6 hB1 => ?_)
  have K2a := Lib.hid hB1
  clear hB1 K2
  go_upto_region 14 with (first | (have _t := K2a; clear _t; go_at_call 26; refine (Contains32_any [91, 125, 192] w2.heap.size 3 #[.int .u32 91, .int .u32 125, .int .u32 192] x0 _ (.inr (K2a.out.get 0 rfl)) (by intro i hi; match i, hi with | 0, _ => rfl | 1, _ => rfl | 2, _ => rfl) (by decide)).mono ?_; rintro e w4 ⟨rfl, hu⟩; rw [HCT.out]; have K2b := Lib.hid (show Cq w a pb M c b #[.slice sa l.length sc, .string inp, .map (some b), .int .i64 n] n D [(w2.heap.size, .cells #[.int .u32 91, .int .u32 125, .int .u32 192] 40 (0, 0)), (w.heap.size + 1 + 1, .cells #[.int .u32 x0, .int .u32 x3, .int .u32 x1, .int .u32 x2, .int .u32 0, .string ByteArray.empty] 70 (0, 0)), (w.heap.size + 1, .cells St.zero.cells 39 (0, 0)), (w.heap.size, .cells s.cells 39 (0, 0))] w4 from K2a.out.quiet hu); have f1 := cells_of K2b.out.hc; have f2 := cells_of (K2b.out.get 1 rfl); have f3 := free_of (K2b.out.get 1 rfl); clear hu K2a) | (have _t := K2b; clear _t; go_at_call 27; refine (changes_any M a pb x0 x3 x1 x2 0 ByteArray.empty _ K2b.out.m HX.out.2.2.2 HX.out.2.1 HX.out.2.2.1).mono ?_; rintro e w5 ⟨rfl, hm, hu⟩; have K2c := Lib.hid (show Cq w a pb (chM M x0 x3 x1 x2) c b #[.slice sa l.length sc, .string inp, .map (some b), .int .i64 n] n D [(w2.heap.size, .cells #[.int .u32 91, .int .u32 125, .int .u32 192] 40 (0, 0)), (w.heap.size + 1 + 1, .cells #[.int .u32 x0, .int .u32 x3, .int .u32 x1, .int .u32 x2, .int .u32 0, .string ByteArray.empty] 70 (0, 0)), (w.heap.size + 1, .cells St.zero.cells 39 (0, 0)), (w.heap.size, .cells s.cells 39 (0, 0))] w5 from K2b.out.mem hm hu); have f4 := cells_of (K2c.out.get 1 rfl); have f5 := free_of (K2c.out.get 1 rfl); clear hm hu K2b f1 f2 f3))
  have hk := ((K2c.out).cell 1 rfl 4 (.int .u32 (chR M x0 x3 x1 x2)))
  dsimp only [List.set] at hk
  have K3 := Lib.hid (show Cq w a pb (chM M x0 x3 x1 x2) c b #[.slice sa l.length sc, .string inp, .map (some b), .int .i64 n] n D [(w2.heap.size, .cells #[.int .u32 91, .int .u32 125, .int .u32 192] 40 (0, 0)), (w.heap.size + 1 + 1, .cells #[.int .u32 x0, .int .u32 x3, .int .u32 x1, .int .u32 x2, .int .u32 (chR M x0 x3 x1 x2), .string ByteArray.empty] 70 (0, 0)), (w.heap.size + 1, .cells St.zero.cells 39 (0, 0)), (w.heap.size, .cells s.cells 39 (0, 0))] _ from hk)
  clear hk
  clear K2c f4 f5
  refine wp_draw 9 (Cq w a pb (chM M x0 x3 x1 x2) c b #[.slice sa l.length sc, .string inp, .map (some b), .int .i64 n] n D [(w2.heap.size, .cells #[.int .u32 91, .int .u32 125, .int .u32 192] 40 (0, 0)), (w.heap.size + 1 + 1, .cells #[.int .u32 x0, .int .u32 x3, .int .u32 x1, .int .u32 x2, .int .u32 (chR M x0 x3 x1 x2), .string ByteArray.empty] 70 (0, 0)), (w.heap.size + 1, .cells St.zero.cells 39 (0, 0)), (w.heap.size, .cells (St.cells s) 39 (0, 0))] ) (fun _ _ => False) (by kernel_rfl) (by decide +kernel) (K3.out.quiet (Upd.refl [] _).drew) (fun _ _ _ h => h.elim) ?_
  simp only [List.take_succ_cons, List.take_zero, List.drop_succ_cons, List.drop_zero]
  iterate 9
    apply headW_val rfl rfl
    · intro K hK w5 hB1
      have f1 := cells_of hB1.hc
      have f2 := cells_of (hB1.get 1 rfl)
      have HB := Lib.hid hB1
      clear hB1
      go_wp2_with fail
      first
      | exact hK _ HB.out
      | exact HB.out
    · exact ⟨_, rfl⟩
  refine headW_nil (fun _ w6 hB1 => ?_)
  have K4 := Lib.hid hB1
  clear hB1 K3
  go_upto_region 15 with (at_mapUpdate; refine wpList_mapUpdate_own _ rfl _ _ _ 75 rfl 3 70 (int_keyed Try.underlying3) Try.underlying75 evR b n D rfl K4.out.p (by have := HN.out; unfold maxLen; omega) (.int .i64 n) (.agg #[.int .u32 x0, .int .u32 x3, .int .u32 x1, .int .u32 x2, .int .u32 (chR M x0 x3 x1 x2), .string ByteArray.empty]) (.int .i64 n) rfl rfl (keyOf_int_mk Try.underlying3 (WalkArith.wf_i64 (by have := HN.out; omega))) (.held (.agg #[.int .u32 x0, .int .u32 x3, .int .u32 x1, .int .u32 x2, .int .u32 (chR M x0 x3 x1 x2), .string ByteArray.empty])) [] rfl ?_; intro w7 hown hg; have K5 := Lib.hid (show Cq w a pb (chM M x0 x3 x1 x2) c b #[.slice sa l.length sc, .string inp, .map (some b), .int .i64 n] (n + 1) (D.put (.int .i64 n) (.held (.agg #[.int .u32 x0, .int .u32 x3, .int .u32 x1, .int .u32 x2, .int .u32 (chR M x0 x3 x1 x2), .string ByteArray.empty]))) [(w2.heap.size, .cells #[.int .u32 91, .int .u32 125, .int .u32 192] 40 (0, 0)), (w.heap.size + 1 + 1, .cells #[.int .u32 x0, .int .u32 x3, .int .u32 x1, .int .u32 x2, .int .u32 (chR M x0 x3 x1 x2), .string ByteArray.empty] 70 (0, 0)), (w.heap.size + 1, .cells St.zero.cells 39 (0, 0)), (w.heap.size, .cells (St.cells s) 39 (0, 0))] w7 from K4.out.map hown (Upd.of_grown (row := some b) hg)); clear hown hg K4)
  refine wp_draw 9 (Cq w a pb (chM M x0 x3 x1 x2) c b #[.slice sa l.length sc, .string inp, .map (some b), .int .i64 n] (n + 1) (D.put (.int .i64 n) (.held (.agg #[.int .u32 x0, .int .u32 x3, .int .u32 x1, .int .u32 x2, .int .u32 (chR M x0 x3 x1 x2), .string ByteArray.empty]))) [(w2.heap.size, .cells #[.int .u32 91, .int .u32 125, .int .u32 192] 40 (0, 0)), (w.heap.size + 1 + 1, .cells #[.int .u32 x0, .int .u32 x3, .int .u32 x1, .int .u32 x2, .int .u32 (chR M x0 x3 x1 x2), .string ByteArray.empty] 70 (0, 0)), (w.heap.size + 1, .cells St.zero.cells 39 (0, 0)), (w.heap.size, .cells (St.cells s) 39 (0, 0))] ) (fun _ _ => False) (by kernel_rfl) (by decide +kernel) (K5.out.quiet (Upd.refl [] _).drew) (fun _ _ _ h => h.elim) ?_
  simp only [List.take_succ_cons, List.take_zero, List.drop_succ_cons, List.drop_zero]
  iterate 9
    apply headW_val rfl rfl
    · intro K hK w5 hB1
      have f1 := cells_of hB1.hc
      have f2 := cells_of (hB1.get 1 rfl)
      have HB := Lib.hid hB1
      clear hB1
      go_wp2_with fail
      first
      | exact hK _ HB.out
      | exact HB.out
    · exact ⟨_, rfl⟩
  refine headW_nil (fun _ w6 hB1 => ?_)
  have K6 := Lib.hid hB1
  have e200 : wrap64 ((n : Int) - 200) = (n : Int) - 200 := by have := HN.out; unfold wrap64; omega
  clear hB1 K5
  try simp only [e200]
  go_upto_region 16 with (at_delete; refine wpList_delete_own _ rfl _ _ 75 3 rfl 70 (int_keyed Try.underlying3) Try.underlying75 evR b (n + 1) _ rfl K6.out.p (.int .i64 ((n : Int) - 200)) (.int .i64 ((n : Int) - 200)) rfl (keyOf_int_mk Try.underlying3 (WalkArith.wf_i64 (by have := HN.out; omega))) ?_; intro w8 hown hturn; have K7 := Lib.hid (show Cq w a pb (chM M x0 x3 x1 x2) c b #[.slice sa l.length sc, .string inp, .map (some b), .int .i64 n] (n + 1) ((D.put (.int .i64 n) (.held (.agg #[.int .u32 x0, .int .u32 x3, .int .u32 x1, .int .u32 x2, .int .u32 (chR M x0 x3 x1 x2), .string ByteArray.empty]))).del (.int .i64 (n - 200))) [(w2.heap.size, .cells #[.int .u32 91, .int .u32 125, .int .u32 192] 40 (0, 0)), (w.heap.size + 1 + 1, .cells #[.int .u32 x0, .int .u32 x3, .int .u32 x1, .int .u32 x2, .int .u32 (chR M x0 x3 x1 x2), .string ByteArray.empty] 70 (0, 0)), (w.heap.size + 1, .cells St.zero.cells 39 (0, 0)), (w.heap.size, .cells (St.cells s) 39 (0, 0))] w8 from K6.out.map hown (Upd.of_grown (row := some b) hturn.grown)); clear hown hturn K6)
  have f1 := cells_of K7.out.hc
  have f2 := free_of K7.out.hc
  have f3 := cells_of (K7.out.get 1 rfl)
  have f4 : w8.cell? ⟨w.heap.size, 0, none⟩ = some (.int .u32 x0) := by rw [cells_of (K7.out.get 3 rfl), St.cR s 0 (by decide), H03.out.1]
  have f5 := free_of (K7.out.get 3 rfl)
  have e201 : wrap64 ((n : Int) + 1) = (n : Int) + 1 := by have := HN.out; unfold wrap64; omega
  have hcs : c ≠ w.heap.size := by have := K7.out.o; omega
  go_upto_region 18 with fail
  have hk := (K7.out.putC 3 (.int .i64 ((n : Int) + 1))).cell 3 rfl 0 (.int .u32 (chR M x0 x3 x1 x2))
  dsimp only [List.set] at hk
  rw [St.cells_setR s 0 (chR M x0 x3 x1 x2) (by decide)] at hk
  have K8 := Lib.hid (show Cq w a pb (chM M x0 x3 x1 x2) c b #[.slice sa l.length sc, .string inp, .map (some b), .int .i64 ((n : Int) + 1)] (n + 1) ((D.put (.int .i64 n) (.held (.agg #[.int .u32 x0, .int .u32 x3, .int .u32 x1, .int .u32 x2, .int .u32 (chR M x0 x3 x1 x2), .string ByteArray.empty]))).del (.int .i64 (n - 200))) [(w2.heap.size, .cells #[.int .u32 91, .int .u32 125, .int .u32 192] 40 (0, 0)), (w.heap.size + 1 + 1, .cells #[.int .u32 x0, .int .u32 x3, .int .u32 x1, .int .u32 x2, .int .u32 (chR M x0 x3 x1 x2), .string ByteArray.empty] 70 (0, 0)), (w.heap.size + 1, .cells St.zero.cells 39 (0, 0)), (w.heap.size, .cells (St.cells (s.setR 0 (chR M x0 x3 x1 x2))) 39 (0, 0))] _ from hk)
  clear hk K7 f1 f2 f3 f4 f5 e200 e201 hcs
  refine wp_drawE 5 (CqE w a pb (chM M x0 x3 x1 x2) c b #[.slice sa l.length sc, .string inp, .map (some b), .int .i64 ((n : Int) + 1)] (n + 1) ((D.put (.int .i64 n) (.held (.agg #[.int .u32 x0, .int .u32 x3, .int .u32 x1, .int .u32 x2, .int .u32 (chR M x0 x3 x1 x2), .string ByteArray.empty]))).del (.int .i64 (n - 200))) w2.heap.size (w.heap.size + 1 + 1) (w.heap.size + 1) w.heap.size (.cells #[.int .u32 91, .int .u32 125, .int .u32 192] 40 (0, 0)) (.cells #[.int .u32 x0, .int .u32 x3, .int .u32 x1, .int .u32 x2, .int .u32 (chR M x0 x3 x1 x2), .string ByteArray.empty] 70 (0, 0)) (.cells (St.cells (s.setR 0 (chR M x0 x3 x1 x2))) 39 (0, 0)) (s.setR 0 (chR M x0 x3 x1 x2))) (fun _ _ => False) (by kernel_rfl) (by decide +kernel) (fun r0 => CqE.start (K8.out.quiet (Upd.refl [] _).drew) r0) (fun _ _ _ h => h.elim) ?_
  simp only [List.take_succ_cons, List.take_zero, List.drop_succ_cons, List.drop_zero]
  apply headE_val0 rfl rfl
  · intro dn r0 K hd hdep hK w5 hB1
    refine wp_load_state (s.setR 0 (chR M x0 x3 x1 x2)) _ _ rfl rfl (Cq.get hB1 3 rfl) ?_
    exact hK _ (hB1.same 0 (by decide))
  · exact ⟨_, rfl⟩
  apply headE_val0 rfl rfl
  · intro dn r0 K hd hdep hK w5 hB1
    have f2 := cells_of (Cq.get hB1 1 rfl)
    have HB := Lib.hid hB1
    clear hB1 hdep
    go_wp2_with fail
    first
    | exact hK _ (HB.out.same 1 (by decide))
    | exact HB.out.same 1 (by decide)
  · exact ⟨_, rfl⟩
  apply headE_val0 rfl rfl
  · intro dn r0 K hd hdep hK w5 hB1
    have f2 := cells_of (Cq.get hB1 1 rfl)
    have HB := Lib.hid hB1
    clear hB1 hdep
    go_wp2_with fail
    first
    | exact hK _ (HB.out.same 2 (by decide))
    | exact HB.out.same 2 (by decide)
  · exact ⟨_, rfl⟩
  apply headE_val0 rfl rfl
  · intro dn r0 K hd hdep hK w5 hB1
    have f2 := cells_of (Cq.get hB1 1 rfl)
    have HB := Lib.hid hB1
    clear hB1 hdep
    go_wp2_with fail
    first
    | exact hK _ (HB.out.same 3 (by decide))
    | exact HB.out.same 3 (by decide)
  · exact ⟨_, rfl⟩
  apply headE_val0 rfl rfl
  · intro dn r0 K hd hdep hK w5 hB1
    refine wp_store_stateC (s.setR 0 (chR M x0 x3 x1 x2)) (w.heap.size + 1) _ _ rfl rfl rfl (Cq.get hB1 2 rfl) (by cases dn 4 <;> rfl) ?_
    intro w6 hw; rw [← hw]
    exact hK _ hB1.put
  · exact ⟨undef, rfl⟩
  refine headE_nil (fun _ r0 w9 dn hall hB2 => ?_)
  unfold CqE at hB2
  rw [hall 4 (by decide)] at hB2
  have K9 := Lib.hid (show Cq w a pb (chM M x0 x3 x1 x2) c b #[.slice sa l.length sc, .string inp, .map (some b), .int .i64 ((n : Int) + 1)] (n + 1) ((D.put (.int .i64 n) (.held (.agg #[.int .u32 x0, .int .u32 x3, .int .u32 x1, .int .u32 x2, .int .u32 (chR M x0 x3 x1 x2), .string ByteArray.empty]))).del (.int .i64 (n - 200))) [(w2.heap.size, .cells #[.int .u32 91, .int .u32 125, .int .u32 192] 40 (0, 0)), (w.heap.size + 1 + 1, .cells #[.int .u32 x0, .int .u32 x3, .int .u32 x1, .int .u32 x2, .int .u32 (chR M x0 x3 x1 x2), .string ByteArray.empty] 70 (0, 0)), (w.heap.size + 1, .cells (s.setR 0 (chR M x0 x3 x1 x2)).cells 39 (0, 0)), (w.heap.size, .cells (s.setR 0 (chR M x0 x3 x1 x2)).cells 39 (0, 0))] w9 from hB2)
  clear hall hB2 K8
  simp only [fillE]
  go_wp2_with fail
  refine bodyPost_ret (results_two' rfl (res_stateC 6 (w.heap.size + 1) (s.setR 0 (chR M x0 x3 x1 x2)) rfl (K9.out.get 2 rfl)) (res_tmp 7 rfl)) rfl ?_
  obtain ⟨h0, h1, h2, h3⟩ := H03.out
  rw [h0, h1, h2, h3]
  exact ⟨rfl, K9.out.m, Cq.isCl (n := n + 1) K9.out HR.out.1 HR.out.2, K9.out.u⟩
set_option maxRecDepth 100000 in
set_option maxHeartbeats 4000000 in
theorem Do_write (M : Mem) (a pb c b g n : Nat) (l : List Int) (inp : ByteArray) (D : DataW Value) (s : St) (w : World) (hM : IsMem w a pb M) (hC : IsCl w c b g l inp n n D) (ne : c ≠ a ∧ c ≠ pb ∧ b ≠ a ∧ b ≠ pb ∧ g ≠ a ∧ g ≠ pb) (hs : s.Ok) (hn : n < 1000000) (hq : s.R 0 = 4) :
    Calls Try.prog 8 #[.pointer (some ⟨c, 0, none⟩), .pointer (some ⟨a, 0, none⟩), .agg s.cells] w fun e w' => e = .returned (.tuple #[.agg (s.setR 0 (wrR M (s.R 1) (s.R 2))).cells, .bool false]) ∧ IsMem w' a pb M ∧ IsCl w' c b g l inp (n + 1) (n + 1) ((D.put (.int .i64 n) (.held (Ev.val ⟨s.R 0, s.R 3, s.R 1, s.R 2, (wrR M (s.R 1) (s.R 2)), (wrS M (s.R 1) (s.R 2))⟩))).del (.int .i64 (n - 200))) ∧ Upd [c, b, pb] w w' := by
  obtain ⟨rv, hc0, hr0⟩ := hC.hd
  obtain ⟨sa, sc, rfl⟩ := hr0.form
  have K0 := Lib.hid (Cq.start (k := n) hM hc0 hC.mp ⟨ne.1, ne.2.1, ne.2.2.1, ne.2.2.2.1, hC.cb⟩)
  have HR := Lib.hid (And.intro hr0 (show g ≠ c ∧ g ≠ b ∧ g ≠ pb from ⟨fun e => hC.cg.1 e.symm, fun e => hC.cg.2 e.symm, ne.2.2.2.2.2⟩))
  have HNE := Lib.hid ne
  have HS := Lib.hid hs
  have HN := Lib.hid hn
  have hsR := hs.R
  obtain ⟨x0, h0⟩ : ∃ x, s.R 0 = x := ⟨_, rfl⟩
  obtain ⟨x1, h1⟩ : ∃ x, s.R 1 = x := ⟨_, rfl⟩
  obtain ⟨x2, h2⟩ : ∃ x, s.R 2 = x := ⟨_, rfl⟩
  obtain ⟨x3, h3⟩ : ∃ x, s.R 3 = x := ⟨_, rfl⟩
  have hx0 := hsR 0
  have hx1 := hsR 1
  have hx2 := hsR 2
  have hx3 := hsR 3
  rw [h0] at hx0
  rw [h1] at hx1
  rw [h2] at hx2
  rw [h3] at hx3
  have HX := Lib.hid (And.intro hx0 (And.intro hx1 (And.intro hx2 hx3)))
  rw [h0] at hq
  have q1 : (x0 == 1) = false := by simp; omega
  have q3 : (x0 == 3) = false := by simp; omega
  have q4 : (x0 == 4) = true := by simp; omega
  clear hq
  have c0 : ∀ o1, (w.alloc (.cells s.cells 39) |>.alloc o1).cell? ⟨w.heap.size, 0, none⟩ = some (.int .u32 x0) := fun o1 => by rw [cells_of (heap_alloc2_old w (.cells s.cells 39) o1), St.cR s 0 (by decide), h0]
  have c1 : ∀ o1, (w.alloc (.cells s.cells 39) |>.alloc o1).cell? ⟨w.heap.size, 1, none⟩ = some (.int .u32 x1) := fun o1 => by rw [cells_of (heap_alloc2_old w (.cells s.cells 39) o1), St.cR s 1 (by decide), h1]
  have c2 : ∀ o1, (w.alloc (.cells s.cells 39) |>.alloc o1).cell? ⟨w.heap.size, 2, none⟩ = some (.int .u32 x2) := fun o1 => by rw [cells_of (heap_alloc2_old w (.cells s.cells 39) o1), St.cR s 2 (by decide), h2]
  have c3 : ∀ o1, (w.alloc (.cells s.cells 39) |>.alloc o1).cell? ⟨w.heap.size, 3, none⟩ = some (.int .u32 x3) := fun o1 => by rw [cells_of (heap_alloc2_old w (.cells s.cells 39) o1), St.cR s 3 (by decide), h3]
  have H03 := Lib.hid (And.intro h0 (And.intro h1 (And.intro h2 h3)))
  have tk1 : True := trivial
  clear hM hC ne hs hn hsR hx0 hx1 hx2 hx3 h0 h1 h2 h3 hc0 hr0
  go_enter Try.func8, Try.ntmps8
  go_upto_region 4 with (have _t := tk1; clear _t; go_at_call 23; refine (kinds_any _).mono ?_; rintro e w2 ⟨rfl, hu⟩; have K1 := Lib.hid (show Cq w a pb M c b #[.slice sa l.length sc, .string inp, .map (some b), .int .i64 n] n D [(w.heap.size + 1 + 1, .cells #[.int .u32 x0, .int .u32 x3, .int .u32 x1, .int .u32 x2, .int .u32 0, .string ByteArray.empty] 70 (0, 0)), (w.heap.size + 1, .cells St.zero.cells 39 (0, 0)), (w.heap.size, .cells s.cells 39 (0, 0))] w2 from by have h := ((K0.out.lay s.cells 39).lay St.zero.cells 39).lay #[.int .u32 x0, .int .u32 x3, .int .u32 x1, .int .u32 x2, .int .u32 0, .string ByteArray.empty] 70; simp at h; exact h.quiet hu); clear hu K0 c0 c1 c2 c3 tk1)
  have K2 := Lib.hid (K1.out.lay #[.int .u32 91, .int .u32 125, .int .u32 192] 40)
  clear K1
  have f2 := cells_of (K2.out.get 1 rfl)
  go_upto_region 14 with (have _t := K2; clear _t; go_at_call 25; refine (write_any M a pb x0 x3 x1 x2 0 ByteArray.empty _ K2.out.m HX.out.2.1 HX.out.2.2.1).mono ?_; rintro e w5 ⟨rfl, hu⟩; have K2c := Lib.hid (show Cq w a pb M c b #[.slice sa l.length sc, .string inp, .map (some b), .int .i64 n] n D [(w2.heap.size, .cells #[.int .u32 91, .int .u32 125, .int .u32 192] 40 (0, 0)), (w.heap.size + 1 + 1, .cells #[.int .u32 x0, .int .u32 x3, .int .u32 x1, .int .u32 x2, .int .u32 0, .string ByteArray.empty] 70 (0, 0)), (w.heap.size + 1, .cells St.zero.cells 39 (0, 0)), (w.heap.size, .cells s.cells 39 (0, 0))] w5 from K2.out.quiet hu); have f4 := cells_of (K2c.out.get 1 rfl); have f5 := free_of (K2c.out.get 1 rfl); clear hu K2 f2)
  have hk := ((((K2c.out).cell 1 rfl 4 (.int .u32 (wrR M x1 x2)))).cell 1 rfl 5 (.string (wrS M x1 x2)))
  dsimp only [List.set] at hk
  have K3 := Lib.hid (show Cq w a pb M c b #[.slice sa l.length sc, .string inp, .map (some b), .int .i64 n] n D [(w2.heap.size, .cells #[.int .u32 91, .int .u32 125, .int .u32 192] 40 (0, 0)), (w.heap.size + 1 + 1, .cells #[.int .u32 x0, .int .u32 x3, .int .u32 x1, .int .u32 x2, .int .u32 (wrR M x1 x2), .string (wrS M x1 x2)] 70 (0, 0)), (w.heap.size + 1, .cells St.zero.cells 39 (0, 0)), (w.heap.size, .cells s.cells 39 (0, 0))] _ from hk)
  clear hk
  clear K2c f4 f5
  refine wp_draw 9 (Cq w a pb M c b #[.slice sa l.length sc, .string inp, .map (some b), .int .i64 n] n D [(w2.heap.size, .cells #[.int .u32 91, .int .u32 125, .int .u32 192] 40 (0, 0)), (w.heap.size + 1 + 1, .cells #[.int .u32 x0, .int .u32 x3, .int .u32 x1, .int .u32 x2, .int .u32 (wrR M x1 x2), .string (wrS M x1 x2)] 70 (0, 0)), (w.heap.size + 1, .cells St.zero.cells 39 (0, 0)), (w.heap.size, .cells (St.cells s) 39 (0, 0))] ) (fun _ _ => False) (by kernel_rfl) (by decide +kernel) (K3.out.quiet (Upd.refl [] _).drew) (fun _ _ _ h => h.elim) ?_
  simp only [List.take_succ_cons, List.take_zero, List.drop_succ_cons, List.drop_zero]
  iterate 9
    apply headW_val rfl rfl
    · intro K hK w5 hB1
      have f1 := cells_of hB1.hc
      have f2 := cells_of (hB1.get 1 rfl)
      have HB := Lib.hid hB1
      clear hB1
      go_wp2_with fail
      first
      | exact hK _ HB.out
      | exact HB.out
    · exact ⟨_, rfl⟩
  refine headW_nil (fun _ w6 hB1 => ?_)
  have K4 := Lib.hid hB1
  clear hB1 K3
  go_upto_region 15 with (at_mapUpdate; refine wpList_mapUpdate_own _ rfl _ _ _ 75 rfl 3 70 (int_keyed Try.underlying3) Try.underlying75 evR b n D rfl K4.out.p (by have := HN.out; unfold maxLen; omega) (.int .i64 n) (.agg #[.int .u32 x0, .int .u32 x3, .int .u32 x1, .int .u32 x2, .int .u32 (wrR M x1 x2), .string (wrS M x1 x2)]) (.int .i64 n) rfl rfl (keyOf_int_mk Try.underlying3 (WalkArith.wf_i64 (by have := HN.out; omega))) (.held (.agg #[.int .u32 x0, .int .u32 x3, .int .u32 x1, .int .u32 x2, .int .u32 (wrR M x1 x2), .string (wrS M x1 x2)])) [] rfl ?_; intro w7 hown hg; have K5 := Lib.hid (show Cq w a pb M c b #[.slice sa l.length sc, .string inp, .map (some b), .int .i64 n] (n + 1) (D.put (.int .i64 n) (.held (.agg #[.int .u32 x0, .int .u32 x3, .int .u32 x1, .int .u32 x2, .int .u32 (wrR M x1 x2), .string (wrS M x1 x2)]))) [(w2.heap.size, .cells #[.int .u32 91, .int .u32 125, .int .u32 192] 40 (0, 0)), (w.heap.size + 1 + 1, .cells #[.int .u32 x0, .int .u32 x3, .int .u32 x1, .int .u32 x2, .int .u32 (wrR M x1 x2), .string (wrS M x1 x2)] 70 (0, 0)), (w.heap.size + 1, .cells St.zero.cells 39 (0, 0)), (w.heap.size, .cells (St.cells s) 39 (0, 0))] w7 from K4.out.map hown (Upd.of_grown (row := some b) hg)); clear hown hg K4)
  refine wp_draw 9 (Cq w a pb M c b #[.slice sa l.length sc, .string inp, .map (some b), .int .i64 n] (n + 1) (D.put (.int .i64 n) (.held (.agg #[.int .u32 x0, .int .u32 x3, .int .u32 x1, .int .u32 x2, .int .u32 (wrR M x1 x2), .string (wrS M x1 x2)]))) [(w2.heap.size, .cells #[.int .u32 91, .int .u32 125, .int .u32 192] 40 (0, 0)), (w.heap.size + 1 + 1, .cells #[.int .u32 x0, .int .u32 x3, .int .u32 x1, .int .u32 x2, .int .u32 (wrR M x1 x2), .string (wrS M x1 x2)] 70 (0, 0)), (w.heap.size + 1, .cells St.zero.cells 39 (0, 0)), (w.heap.size, .cells (St.cells s) 39 (0, 0))] ) (fun _ _ => False) (by kernel_rfl) (by decide +kernel) (K5.out.quiet (Upd.refl [] _).drew) (fun _ _ _ h => h.elim) ?_
  simp only [List.take_succ_cons, List.take_zero, List.drop_succ_cons, List.drop_zero]
  iterate 9
    apply headW_val rfl rfl
    · intro K hK w5 hB1
      have f1 := cells_of hB1.hc
      have f2 := cells_of (hB1.get 1 rfl)
      have HB := Lib.hid hB1
      clear hB1
      go_wp2_with fail
      first
      | exact hK _ HB.out
      | exact HB.out
    · exact ⟨_, rfl⟩
  refine headW_nil (fun _ w6 hB1 => ?_)
  have K6 := Lib.hid hB1
  have e200 : wrap64 ((n : Int) - 200) = (n : Int) - 200 := by have := HN.out; unfold wrap64; omega
  clear hB1 K5
  try simp only [e200]
  go_upto_region 16 with (at_delete; refine wpList_delete_own _ rfl _ _ 75 3 rfl 70 (int_keyed Try.underlying3) Try.underlying75 evR b (n + 1) _ rfl K6.out.p (.int .i64 ((n : Int) - 200)) (.int .i64 ((n : Int) - 200)) rfl (keyOf_int_mk Try.underlying3 (WalkArith.wf_i64 (by have := HN.out; omega))) ?_; intro w8 hown hturn; have K7 := Lib.hid (show Cq w a pb M c b #[.slice sa l.length sc, .string inp, .map (some b), .int .i64 n] (n + 1) ((D.put (.int .i64 n) (.held (.agg #[.int .u32 x0, .int .u32 x3, .int .u32 x1, .int .u32 x2, .int .u32 (wrR M x1 x2), .string (wrS M x1 x2)]))).del (.int .i64 (n - 200))) [(w2.heap.size, .cells #[.int .u32 91, .int .u32 125, .int .u32 192] 40 (0, 0)), (w.heap.size + 1 + 1, .cells #[.int .u32 x0, .int .u32 x3, .int .u32 x1, .int .u32 x2, .int .u32 (wrR M x1 x2), .string (wrS M x1 x2)] 70 (0, 0)), (w.heap.size + 1, .cells St.zero.cells 39 (0, 0)), (w.heap.size, .cells (St.cells s) 39 (0, 0))] w8 from K6.out.map hown (Upd.of_grown (row := some b) hturn.grown)); clear hown hturn K6)
  have f1 := cells_of K7.out.hc
  have f2 := free_of K7.out.hc
  have f3 := cells_of (K7.out.get 1 rfl)
  have f4 : w8.cell? ⟨w.heap.size, 0, none⟩ = some (.int .u32 x0) := by rw [cells_of (K7.out.get 3 rfl), St.cR s 0 (by decide), H03.out.1]
  have f5 := free_of (K7.out.get 3 rfl)
  have e201 : wrap64 ((n : Int) + 1) = (n : Int) + 1 := by have := HN.out; unfold wrap64; omega
  have hcs : c ≠ w.heap.size := by have := K7.out.o; omega
  go_upto_region 18 with fail
  have hk := (K7.out.putC 3 (.int .i64 ((n : Int) + 1))).cell 3 rfl 0 (.int .u32 (wrR M x1 x2))
  dsimp only [List.set] at hk
  rw [St.cells_setR s 0 (wrR M x1 x2) (by decide)] at hk
  have K8 := Lib.hid (show Cq w a pb M c b #[.slice sa l.length sc, .string inp, .map (some b), .int .i64 ((n : Int) + 1)] (n + 1) ((D.put (.int .i64 n) (.held (.agg #[.int .u32 x0, .int .u32 x3, .int .u32 x1, .int .u32 x2, .int .u32 (wrR M x1 x2), .string (wrS M x1 x2)]))).del (.int .i64 (n - 200))) [(w2.heap.size, .cells #[.int .u32 91, .int .u32 125, .int .u32 192] 40 (0, 0)), (w.heap.size + 1 + 1, .cells #[.int .u32 x0, .int .u32 x3, .int .u32 x1, .int .u32 x2, .int .u32 (wrR M x1 x2), .string (wrS M x1 x2)] 70 (0, 0)), (w.heap.size + 1, .cells St.zero.cells 39 (0, 0)), (w.heap.size, .cells (St.cells (s.setR 0 (wrR M x1 x2))) 39 (0, 0))] _ from hk)
  clear hk K7 f1 f2 f3 f4 f5 e200 e201 hcs
  refine wp_drawE 5 (CqE w a pb M c b #[.slice sa l.length sc, .string inp, .map (some b), .int .i64 ((n : Int) + 1)] (n + 1) ((D.put (.int .i64 n) (.held (.agg #[.int .u32 x0, .int .u32 x3, .int .u32 x1, .int .u32 x2, .int .u32 (wrR M x1 x2), .string (wrS M x1 x2)]))).del (.int .i64 (n - 200))) w2.heap.size (w.heap.size + 1 + 1) (w.heap.size + 1) w.heap.size (.cells #[.int .u32 91, .int .u32 125, .int .u32 192] 40 (0, 0)) (.cells #[.int .u32 x0, .int .u32 x3, .int .u32 x1, .int .u32 x2, .int .u32 (wrR M x1 x2), .string (wrS M x1 x2)] 70 (0, 0)) (.cells (St.cells (s.setR 0 (wrR M x1 x2))) 39 (0, 0)) (s.setR 0 (wrR M x1 x2))) (fun _ _ => False) (by kernel_rfl) (by decide +kernel) (fun r0 => CqE.start (K8.out.quiet (Upd.refl [] _).drew) r0) (fun _ _ _ h => h.elim) ?_
  simp only [List.take_succ_cons, List.take_zero, List.drop_succ_cons, List.drop_zero]
  apply headE_val0 rfl rfl
  · intro dn r0 K hd hdep hK w5 hB1
    refine wp_load_state (s.setR 0 (wrR M x1 x2)) _ _ rfl rfl (Cq.get hB1 3 rfl) ?_
    exact hK _ (hB1.same 0 (by decide))
  · exact ⟨_, rfl⟩
  apply headE_val0 rfl rfl
  · intro dn r0 K hd hdep hK w5 hB1
    have f2 := cells_of (Cq.get hB1 1 rfl)
    have HB := Lib.hid hB1
    clear hB1 hdep
    go_wp2_with fail
    first
    | exact hK _ (HB.out.same 1 (by decide))
    | exact HB.out.same 1 (by decide)
  · exact ⟨_, rfl⟩
  apply headE_val0 rfl rfl
  · intro dn r0 K hd hdep hK w5 hB1
    have f2 := cells_of (Cq.get hB1 1 rfl)
    have HB := Lib.hid hB1
    clear hB1 hdep
    go_wp2_with fail
    first
    | exact hK _ (HB.out.same 2 (by decide))
    | exact HB.out.same 2 (by decide)
  · exact ⟨_, rfl⟩
  apply headE_val0 rfl rfl
  · intro dn r0 K hd hdep hK w5 hB1
    have f2 := cells_of (Cq.get hB1 1 rfl)
    have HB := Lib.hid hB1
    clear hB1 hdep
    go_wp2_with fail
    first
    | exact hK _ (HB.out.same 3 (by decide))
    | exact HB.out.same 3 (by decide)
  · exact ⟨_, rfl⟩
  apply headE_val0 rfl rfl
  · intro dn r0 K hd hdep hK w5 hB1
    refine wp_store_stateC (s.setR 0 (wrR M x1 x2)) (w.heap.size + 1) _ _ rfl rfl rfl (Cq.get hB1 2 rfl) (by cases dn 4 <;> rfl) ?_
    intro w6 hw; rw [← hw]
    exact hK _ hB1.put
  · exact ⟨undef, rfl⟩
  refine headE_nil (fun _ r0 w9 dn hall hB2 => ?_)
  unfold CqE at hB2
  rw [hall 4 (by decide)] at hB2
  have K9 := Lib.hid (show Cq w a pb M c b #[.slice sa l.length sc, .string inp, .map (some b), .int .i64 ((n : Int) + 1)] (n + 1) ((D.put (.int .i64 n) (.held (.agg #[.int .u32 x0, .int .u32 x3, .int .u32 x1, .int .u32 x2, .int .u32 (wrR M x1 x2), .string (wrS M x1 x2)]))).del (.int .i64 (n - 200))) [(w2.heap.size, .cells #[.int .u32 91, .int .u32 125, .int .u32 192] 40 (0, 0)), (w.heap.size + 1 + 1, .cells #[.int .u32 x0, .int .u32 x3, .int .u32 x1, .int .u32 x2, .int .u32 (wrR M x1 x2), .string (wrS M x1 x2)] 70 (0, 0)), (w.heap.size + 1, .cells (s.setR 0 (wrR M x1 x2)).cells 39 (0, 0)), (w.heap.size, .cells (s.setR 0 (wrR M x1 x2)).cells 39 (0, 0))] w9 from hB2)
  clear hall hB2 K8
  simp only [fillE]
  go_wp2_with fail
  refine bodyPost_ret (results_two' rfl (res_stateC 6 (w.heap.size + 1) (s.setR 0 (wrR M x1 x2)) rfl (K9.out.get 2 rfl)) (res_tmp 7 rfl)) rfl ?_
  obtain ⟨h0, h1, h2, h3⟩ := H03.out
  rw [h0, h1, h2, h3]
  exact ⟨rfl, K9.out.m, Cq.isCl (n := n + 1) K9.out HR.out.1 HR.out.2, K9.out.u⟩
set_option maxRecDepth 100000 in
set_option maxHeartbeats 4000000 in
theorem Do_read (M : Mem) (a pb c b g n : Nat) (l : List Int) (inp : ByteArray) (D : DataW Value) (s : St) (w : World) (hM : IsMem w a pb M) (hC : IsCl w c b g l inp n n D) (ne : c ≠ a ∧ c ≠ pb ∧ b ≠ a ∧ b ≠ pb ∧ g ≠ a ∧ g ≠ pb) (hs : s.Ok) (hn : n < 1000000) (hq : s.R 0 = 3) :
    Calls Try.prog 8 #[.pointer (some ⟨c, 0, none⟩), .pointer (some ⟨a, 0, none⟩), .agg s.cells] w fun e w' => ∃ (RV : Int) (SV IV : ByteArray) (MV : Mem), (e = .returned (.tuple #[.agg (s.setR 0 RV).cells, .bool false]) ∧ IsMem w' a pb MV ∧ IsCl w' c b g l IV (n + 1) (n + 1) ((D.put (.int .i64 n) (.held (Ev.val ⟨s.R 0, s.R 3, s.R 1, s.R 2, RV, SV⟩))).del (.int .i64 (n - 200))) ∧ Upd [c, b, pb] w w') ∧ RdPost M (s.R 1) (rdN inp (s.R 2)) inp RV SV IV MV := by
  obtain ⟨rv, hc0, hr0⟩ := hC.hd
  obtain ⟨sa, sc, rfl⟩ := hr0.form
  have K0 := Lib.hid (Cq.start (k := n) hM hc0 hC.mp ⟨ne.1, ne.2.1, ne.2.2.1, ne.2.2.2.1, hC.cb⟩)
  have HR := Lib.hid (And.intro hr0 (show g ≠ c ∧ g ≠ b ∧ g ≠ pb from ⟨fun e => hC.cg.1 e.symm, fun e => hC.cg.2 e.symm, ne.2.2.2.2.2⟩))
  have HNE := Lib.hid ne
  have HS := Lib.hid hs
  have HN := Lib.hid hn
  have hsR := hs.R
  obtain ⟨x0, h0⟩ : ∃ x, s.R 0 = x := ⟨_, rfl⟩
  obtain ⟨x1, h1⟩ : ∃ x, s.R 1 = x := ⟨_, rfl⟩
  obtain ⟨x2, h2⟩ : ∃ x, s.R 2 = x := ⟨_, rfl⟩
  obtain ⟨x3, h3⟩ : ∃ x, s.R 3 = x := ⟨_, rfl⟩
  have hx0 := hsR 0
  have hx1 := hsR 1
  have hx2 := hsR 2
  have hx3 := hsR 3
  rw [h0] at hx0
  rw [h1] at hx1
  rw [h2] at hx2
  rw [h3] at hx3
  have HX := Lib.hid (And.intro hx0 (And.intro hx1 (And.intro hx2 hx3)))
  rw [h0] at hq
  have q1 : (x0 == 1) = false := by simp; omega
  have q3 : (x0 == 3) = true := by simp; omega
  clear hq
  have c0 : ∀ o1, (w.alloc (.cells s.cells 39) |>.alloc o1).cell? ⟨w.heap.size, 0, none⟩ = some (.int .u32 x0) := fun o1 => by rw [cells_of (heap_alloc2_old w (.cells s.cells 39) o1), St.cR s 0 (by decide), h0]
  have c1 : ∀ o1, (w.alloc (.cells s.cells 39) |>.alloc o1).cell? ⟨w.heap.size, 1, none⟩ = some (.int .u32 x1) := fun o1 => by rw [cells_of (heap_alloc2_old w (.cells s.cells 39) o1), St.cR s 1 (by decide), h1]
  have c2 : ∀ o1, (w.alloc (.cells s.cells 39) |>.alloc o1).cell? ⟨w.heap.size, 2, none⟩ = some (.int .u32 x2) := fun o1 => by rw [cells_of (heap_alloc2_old w (.cells s.cells 39) o1), St.cR s 2 (by decide), h2]
  have c3 : ∀ o1, (w.alloc (.cells s.cells 39) |>.alloc o1).cell? ⟨w.heap.size, 3, none⟩ = some (.int .u32 x3) := fun o1 => by rw [cells_of (heap_alloc2_old w (.cells s.cells 39) o1), St.cR s 3 (by decide), h3]
  have H03 := Lib.hid (And.intro h0 (And.intro h1 (And.intro h2 h3)))
  have tk1 : True := trivial
  clear hM hC ne hs hn hsR hx0 hx1 hx2 hx3 h0 h1 h2 h3 hc0 hr0
  go_enter Try.func8, Try.ntmps8
  go_upto_region 4 with (have _t := tk1; clear _t; go_at_call 23; refine (kinds_any _).mono ?_; rintro e w2 ⟨rfl, hu⟩; have K1 := Lib.hid (show Cq w a pb M c b #[.slice sa l.length sc, .string inp, .map (some b), .int .i64 n] n D [(w.heap.size + 1 + 1, .cells #[.int .u32 x0, .int .u32 x3, .int .u32 x1, .int .u32 x2, .int .u32 0, .string ByteArray.empty] 70 (0, 0)), (w.heap.size + 1, .cells St.zero.cells 39 (0, 0)), (w.heap.size, .cells s.cells 39 (0, 0))] w2 from by have h := ((K0.out.lay s.cells 39).lay St.zero.cells 39).lay #[.int .u32 x0, .int .u32 x3, .int .u32 x1, .int .u32 x2, .int .u32 0, .string ByteArray.empty] 70; simp at h; exact h.quiet hu); clear hu K0 c0 c1 c2 c3 tk1)
  have K2 := Lib.hid (K1.out.lay #[.int .u32 91, .int .u32 125, .int .u32 192] 40)
  clear K1
  have f2 := cells_of (K2.out.get 1 rfl)
  go_upto_region 14 with (have _t := K2; clear _t; go_at_call 24; refine (read_any M a pb c b n l.length sc sa inp x0 x3 x1 x2 0 ByteArray.empty _ K2.out.m K2.out.hc ⟨K2.out.ne.1, K2.out.ne.2.1⟩ HX.out.2.1 HX.out.2.2.1).mono ?_; rintro e w5 ⟨RV, SV, IV, MV, rfl, hm, hc5, hu, hpost⟩; have HP := Lib.hid hpost; have K2c := Lib.hid (show Cq w a pb MV c b #[.slice sa l.length sc, .string IV, .map (some b), .int .i64 n] n D [(w2.heap.size, .cells #[.int .u32 91, .int .u32 125, .int .u32 192] 40 (0, 0)), (w.heap.size + 1 + 1, .cells #[.int .u32 x0, .int .u32 x3, .int .u32 x1, .int .u32 x2, .int .u32 0, .string ByteArray.empty] 70 (0, 0)), (w.heap.size + 1, .cells St.zero.cells 39 (0, 0)), (w.heap.size, .cells s.cells 39 (0, 0))] w5 from K2.out.back hu hm hc5); have f4 := cells_of (K2c.out.get 1 rfl); have f5 := free_of (K2c.out.get 1 rfl); clear hm hc5 hu hpost K2 f2)
  have hk := ((((K2c.out).cell 1 rfl 4 (.int .u32 RV))).cell 1 rfl 5 (.string SV))
  dsimp only [List.set] at hk
  have K3 := Lib.hid (show Cq w a pb MV c b #[.slice sa l.length sc, .string IV, .map (some b), .int .i64 n] n D [(w2.heap.size, .cells #[.int .u32 91, .int .u32 125, .int .u32 192] 40 (0, 0)), (w.heap.size + 1 + 1, .cells #[.int .u32 x0, .int .u32 x3, .int .u32 x1, .int .u32 x2, .int .u32 RV, .string SV] 70 (0, 0)), (w.heap.size + 1, .cells St.zero.cells 39 (0, 0)), (w.heap.size, .cells s.cells 39 (0, 0))] _ from hk)
  clear hk
  clear K2c f4 f5
  refine wp_draw 9 (Cq w a pb MV c b #[.slice sa l.length sc, .string IV, .map (some b), .int .i64 n] n D [(w2.heap.size, .cells #[.int .u32 91, .int .u32 125, .int .u32 192] 40 (0, 0)), (w.heap.size + 1 + 1, .cells #[.int .u32 x0, .int .u32 x3, .int .u32 x1, .int .u32 x2, .int .u32 RV, .string SV] 70 (0, 0)), (w.heap.size + 1, .cells St.zero.cells 39 (0, 0)), (w.heap.size, .cells (St.cells s) 39 (0, 0))] ) (fun _ _ => False) (by kernel_rfl) (by decide +kernel) (K3.out.quiet (Upd.refl [] _).drew) (fun _ _ _ h => h.elim) ?_
  simp only [List.take_succ_cons, List.take_zero, List.drop_succ_cons, List.drop_zero]
  iterate 9
    apply headW_val rfl rfl
    · intro K hK w5 hB1
      have f1 := cells_of hB1.hc
      have f2 := cells_of (hB1.get 1 rfl)
      have HB := Lib.hid hB1
      clear hB1
      go_wp2_with fail
      first
      | exact hK _ HB.out
      | exact HB.out
    · exact ⟨_, rfl⟩
  refine headW_nil (fun _ w6 hB1 => ?_)
  have K4 := Lib.hid hB1
  clear hB1 K3
  go_upto_region 15 with (at_mapUpdate; refine wpList_mapUpdate_own _ rfl _ _ _ 75 rfl 3 70 (int_keyed Try.underlying3) Try.underlying75 evR b n D rfl K4.out.p (by have := HN.out; unfold maxLen; omega) (.int .i64 n) (.agg #[.int .u32 x0, .int .u32 x3, .int .u32 x1, .int .u32 x2, .int .u32 RV, .string SV]) (.int .i64 n) rfl rfl (keyOf_int_mk Try.underlying3 (WalkArith.wf_i64 (by have := HN.out; omega))) (.held (.agg #[.int .u32 x0, .int .u32 x3, .int .u32 x1, .int .u32 x2, .int .u32 RV, .string SV])) [] rfl ?_; intro w7 hown hg; have K5 := Lib.hid (show Cq w a pb MV c b #[.slice sa l.length sc, .string IV, .map (some b), .int .i64 n] (n + 1) (D.put (.int .i64 n) (.held (.agg #[.int .u32 x0, .int .u32 x3, .int .u32 x1, .int .u32 x2, .int .u32 RV, .string SV]))) [(w2.heap.size, .cells #[.int .u32 91, .int .u32 125, .int .u32 192] 40 (0, 0)), (w.heap.size + 1 + 1, .cells #[.int .u32 x0, .int .u32 x3, .int .u32 x1, .int .u32 x2, .int .u32 RV, .string SV] 70 (0, 0)), (w.heap.size + 1, .cells St.zero.cells 39 (0, 0)), (w.heap.size, .cells (St.cells s) 39 (0, 0))] w7 from K4.out.map hown (Upd.of_grown (row := some b) hg)); clear hown hg K4)
  refine wp_draw 9 (Cq w a pb MV c b #[.slice sa l.length sc, .string IV, .map (some b), .int .i64 n] (n + 1) (D.put (.int .i64 n) (.held (.agg #[.int .u32 x0, .int .u32 x3, .int .u32 x1, .int .u32 x2, .int .u32 RV, .string SV]))) [(w2.heap.size, .cells #[.int .u32 91, .int .u32 125, .int .u32 192] 40 (0, 0)), (w.heap.size + 1 + 1, .cells #[.int .u32 x0, .int .u32 x3, .int .u32 x1, .int .u32 x2, .int .u32 RV, .string SV] 70 (0, 0)), (w.heap.size + 1, .cells St.zero.cells 39 (0, 0)), (w.heap.size, .cells (St.cells s) 39 (0, 0))] ) (fun _ _ => False) (by kernel_rfl) (by decide +kernel) (K5.out.quiet (Upd.refl [] _).drew) (fun _ _ _ h => h.elim) ?_
  simp only [List.take_succ_cons, List.take_zero, List.drop_succ_cons, List.drop_zero]
  iterate 9
    apply headW_val rfl rfl
    · intro K hK w5 hB1
      have f1 := cells_of hB1.hc
      have f2 := cells_of (hB1.get 1 rfl)
      have HB := Lib.hid hB1
      clear hB1
      go_wp2_with fail
      first
      | exact hK _ HB.out
      | exact HB.out
    · exact ⟨_, rfl⟩
  refine headW_nil (fun _ w6 hB1 => ?_)
  have K6 := Lib.hid hB1
  have e200 : wrap64 ((n : Int) - 200) = (n : Int) - 200 := by have := HN.out; unfold wrap64; omega
  clear hB1 K5
  try simp only [e200]
  go_upto_region 16 with (at_delete; refine wpList_delete_own _ rfl _ _ 75 3 rfl 70 (int_keyed Try.underlying3) Try.underlying75 evR b (n + 1) _ rfl K6.out.p (.int .i64 ((n : Int) - 200)) (.int .i64 ((n : Int) - 200)) rfl (keyOf_int_mk Try.underlying3 (WalkArith.wf_i64 (by have := HN.out; omega))) ?_; intro w8 hown hturn; have K7 := Lib.hid (show Cq w a pb MV c b #[.slice sa l.length sc, .string IV, .map (some b), .int .i64 n] (n + 1) ((D.put (.int .i64 n) (.held (.agg #[.int .u32 x0, .int .u32 x3, .int .u32 x1, .int .u32 x2, .int .u32 RV, .string SV]))).del (.int .i64 (n - 200))) [(w2.heap.size, .cells #[.int .u32 91, .int .u32 125, .int .u32 192] 40 (0, 0)), (w.heap.size + 1 + 1, .cells #[.int .u32 x0, .int .u32 x3, .int .u32 x1, .int .u32 x2, .int .u32 RV, .string SV] 70 (0, 0)), (w.heap.size + 1, .cells St.zero.cells 39 (0, 0)), (w.heap.size, .cells (St.cells s) 39 (0, 0))] w8 from K6.out.map hown (Upd.of_grown (row := some b) hturn.grown)); clear hown hturn K6)
  have f1 := cells_of K7.out.hc
  have f2 := free_of K7.out.hc
  have f3 := cells_of (K7.out.get 1 rfl)
  have f4 : w8.cell? ⟨w.heap.size, 0, none⟩ = some (.int .u32 x0) := by rw [cells_of (K7.out.get 3 rfl), St.cR s 0 (by decide), H03.out.1]
  have f5 := free_of (K7.out.get 3 rfl)
  have e201 : wrap64 ((n : Int) + 1) = (n : Int) + 1 := by have := HN.out; unfold wrap64; omega
  have hcs : c ≠ w.heap.size := by have := K7.out.o; omega
  go_upto_region 18 with fail
  have hk := (K7.out.putC 3 (.int .i64 ((n : Int) + 1))).cell 3 rfl 0 (.int .u32 RV)
  dsimp only [List.set] at hk
  rw [St.cells_setR s 0 RV (by decide)] at hk
  have K8 := Lib.hid (show Cq w a pb MV c b #[.slice sa l.length sc, .string IV, .map (some b), .int .i64 ((n : Int) + 1)] (n + 1) ((D.put (.int .i64 n) (.held (.agg #[.int .u32 x0, .int .u32 x3, .int .u32 x1, .int .u32 x2, .int .u32 RV, .string SV]))).del (.int .i64 (n - 200))) [(w2.heap.size, .cells #[.int .u32 91, .int .u32 125, .int .u32 192] 40 (0, 0)), (w.heap.size + 1 + 1, .cells #[.int .u32 x0, .int .u32 x3, .int .u32 x1, .int .u32 x2, .int .u32 RV, .string SV] 70 (0, 0)), (w.heap.size + 1, .cells St.zero.cells 39 (0, 0)), (w.heap.size, .cells (St.cells (s.setR 0 RV)) 39 (0, 0))] _ from hk)
  clear hk K7 f1 f2 f3 f4 f5 e200 e201 hcs
  refine wp_drawE 5 (CqE w a pb MV c b #[.slice sa l.length sc, .string IV, .map (some b), .int .i64 ((n : Int) + 1)] (n + 1) ((D.put (.int .i64 n) (.held (.agg #[.int .u32 x0, .int .u32 x3, .int .u32 x1, .int .u32 x2, .int .u32 RV, .string SV]))).del (.int .i64 (n - 200))) w2.heap.size (w.heap.size + 1 + 1) (w.heap.size + 1) w.heap.size (.cells #[.int .u32 91, .int .u32 125, .int .u32 192] 40 (0, 0)) (.cells #[.int .u32 x0, .int .u32 x3, .int .u32 x1, .int .u32 x2, .int .u32 RV, .string SV] 70 (0, 0)) (.cells (St.cells (s.setR 0 RV)) 39 (0, 0)) (s.setR 0 RV)) (fun _ _ => False) (by kernel_rfl) (by decide +kernel) (fun r0 => CqE.start (K8.out.quiet (Upd.refl [] _).drew) r0) (fun _ _ _ h => h.elim) ?_
  simp only [List.take_succ_cons, List.take_zero, List.drop_succ_cons, List.drop_zero]
  apply headE_val0 rfl rfl
  · intro dn r0 K hd hdep hK w5 hB1
    refine wp_load_state (s.setR 0 RV) _ _ rfl rfl (Cq.get hB1 3 rfl) ?_
    exact hK _ (hB1.same 0 (by decide))
  · exact ⟨_, rfl⟩
  apply headE_val0 rfl rfl
  · intro dn r0 K hd hdep hK w5 hB1
    have f2 := cells_of (Cq.get hB1 1 rfl)
    have HB := Lib.hid hB1
    clear hB1 hdep
    go_wp2_with fail
    first
    | exact hK _ (HB.out.same 1 (by decide))
    | exact HB.out.same 1 (by decide)
  · exact ⟨_, rfl⟩
  apply headE_val0 rfl rfl
  · intro dn r0 K hd hdep hK w5 hB1
    have f2 := cells_of (Cq.get hB1 1 rfl)
    have HB := Lib.hid hB1
    clear hB1 hdep
    go_wp2_with fail
    first
    | exact hK _ (HB.out.same 2 (by decide))
    | exact HB.out.same 2 (by decide)
  · exact ⟨_, rfl⟩
  apply headE_val0 rfl rfl
  · intro dn r0 K hd hdep hK w5 hB1
    have f2 := cells_of (Cq.get hB1 1 rfl)
    have HB := Lib.hid hB1
    clear hB1 hdep
    go_wp2_with fail
    first
    | exact hK _ (HB.out.same 3 (by decide))
    | exact HB.out.same 3 (by decide)
  · exact ⟨_, rfl⟩
  apply headE_val0 rfl rfl
  · intro dn r0 K hd hdep hK w5 hB1
    refine wp_store_stateC (s.setR 0 RV) (w.heap.size + 1) _ _ rfl rfl rfl (Cq.get hB1 2 rfl) (by cases dn 4 <;> rfl) ?_
    intro w6 hw; rw [← hw]
    exact hK _ hB1.put
  · exact ⟨undef, rfl⟩
  refine headE_nil (fun _ r0 w9 dn hall hB2 => ?_)
  unfold CqE at hB2
  rw [hall 4 (by decide)] at hB2
  have K9 := Lib.hid (show Cq w a pb MV c b #[.slice sa l.length sc, .string IV, .map (some b), .int .i64 ((n : Int) + 1)] (n + 1) ((D.put (.int .i64 n) (.held (.agg #[.int .u32 x0, .int .u32 x3, .int .u32 x1, .int .u32 x2, .int .u32 RV, .string SV]))).del (.int .i64 (n - 200))) [(w2.heap.size, .cells #[.int .u32 91, .int .u32 125, .int .u32 192] 40 (0, 0)), (w.heap.size + 1 + 1, .cells #[.int .u32 x0, .int .u32 x3, .int .u32 x1, .int .u32 x2, .int .u32 RV, .string SV] 70 (0, 0)), (w.heap.size + 1, .cells (s.setR 0 RV).cells 39 (0, 0)), (w.heap.size, .cells (s.setR 0 RV).cells 39 (0, 0))] w9 from hB2)
  clear hall hB2 K8
  simp only [fillE]
  go_wp2_with fail
  refine bodyPost_ret (results_two' rfl (res_stateC 6 (w.heap.size + 1) (s.setR 0 RV) rfl (K9.out.get 2 rfl)) (res_tmp 7 rfl)) rfl ?_
  obtain ⟨h0, h1, h2, h3⟩ := H03.out
  rw [h0, h1, h2, h3]
  exact ⟨RV, SV, IV, MV, ⟨rfl, K9.out.m, Cq.isCl (n := n + 1) K9.out HR.out.1 HR.out.2, K9.out.u⟩, HP.out⟩
/-- Along the statement that takes a reply: the event's result is stored (13). -/
def CqR (w : World) (a pb : Nat) (M : Mem) (c b : Nat) (C4 : Array Value) (k : Nat) (D : DataW Value) (x0 x1 x2 x3 : Nat) (o0 o2 o3 : Obj) (E0 E1 : Array Value) (dn : Nat → Bool) (r : Nat → Value) (w1 : World) : Prop :=
  Cq w a pb M c b C4 k D [(x0, o0), (x1, .cells (cond (dn 13) E1 E0) 70 (0, 0)), (x2, o2), (x3, o3)] w1
section
variable {w w1 : World} {a pb c b k x0 x1 x2 x3 : Nat} {M : Mem} {C4 : Array Value} {D : DataW Value} {o0 o2 o3 : Obj} {E0 E1 : Array Value} {dn : Nat → Bool} {r : Nat → Value}
theorem CqR.same (h : CqR w a pb M c b C4 k D x0 x1 x2 x3 o0 o2 o3 E0 E1 dn r w1) (j : Nat) (hj : 13 ≠ j) : CqR w a pb M c b C4 k D x0 x1 x2 x3 o0 o2 o3 E0 E1 (updD dn j) r w1 := by
  unfold CqR at *; rw [cq_ne hj]; exact h
theorem CqR.put (h : CqR w a pb M c b C4 k D x0 x1 x2 x3 o0 o2 o3 E0 E1 dn r w1) (hd : dn 13 = false) (v : Value) (he : E0.setIfInBounds 4 v = E1) : CqR w a pb M c b C4 k D x0 x1 x2 x3 o0 o2 o3 E0 E1 (updD dn 13) r (w1.setCell ⟨x1, 4, none⟩ v) := by
  unfold CqR at *; rw [cq_eq]; rw [hd] at h
  have := h.cell 1 rfl 4 v
  dsimp only [List.set, cond] at this
  rw [he] at this
  exact this
theorem CqR.start (h : Cq w a pb M c b C4 k D [(x0, o0), (x1, .cells E0 70 (0, 0)), (x2, o2), (x3, o3)] w1) (r : Nat → Value) : CqR w a pb M c b C4 k D x0 x1 x2 x3 o0 o2 o3 E0 E1 (fun _ => false) r w1 := h
end
theorem rp_head {w w1 : World} {g o n sc : Nat} {x : Int} {t : List Int} {S : List Nat} (h : Rp w (.slice (some ⟨g, o, none⟩) n sc) (x :: t) g) (u : Upd S w w1) (hg : g ∉ S) : w1.cell? ⟨g, o, none⟩ = some (.int .u32 x) := by
  rcases h.keep u hg with ⟨h1, _⟩ | ⟨o', c', C, T, f, h1, h2, h3, h4⟩
  · cases h1
  · injection h1 with h1 _ _
    injection h1 with h1
    injection h1 with _ h1 _
    subst h1
    rw [cells_of h3]
    exact h4 0 (by simp)
theorem rp_open {w : World} {v : Value} {g : Nat} {x : Int} {t : List Int} (h : Rp w v (x :: t) g) : ∃ o sc, v = .slice (some ⟨g, o, none⟩) (t.length + 1) sc ∧ t.length + 1 ≤ sc := by
  rcases h with ⟨_, h⟩ | ⟨o, c', C, T, f, h1, h2, h3, h4⟩
  · cases h
  · exact ⟨o, c', h1, h2⟩
set_option maxRecDepth 100000 in
theorem rp_tail {w : World} {g o sc : Nat} {x : Int} {t : List Int} (h : Rp w (.slice (some ⟨g, o, none⟩) (t.length + 1) sc) (x :: t) g) :
    ∃ sa2, (∀ w', (Instr.sliceAt 50 (.slice (some ⟨g, o, none⟩) (t.length + 1) sc) (some (.int .i64 1)) none none).run Try.prog w' = .ok (.slice sa2 t.length (sc - 1)) w') ∧ Rp w (.slice sa2 t.length (sc - 1)) t g := by
  rcases h with ⟨h, _⟩ | ⟨o', c', C, T, f, h1, h2, h3, h4⟩
  · cases h
  · injection h1 with h1 _ h5
    injection h1 with h1
    injection h1 with _ h1 _
    subst h1 h5
    have hc : Try.prog.cellsOf 33 = 1 := by kernel_rfl
    obtain ⟨i0, hi, hz0, hz1, hz2⟩ := info_parts info_u32
    have h2' : t.length + 1 ≤ sc := h2
    by_cases hs : sc = 1
    · refine ⟨some ⟨g, o, none⟩, fun w' => ?_, ?_⟩
      · simp [Instr.sliceAt, run_underlying Try.underlying50, Instr.slice, Instr.sliceBounds, Instr.sliceBound, asIntOf, sizeOf, typeInfo, hi, hz1, hs]
        intro hh; omega
      · refine .inr ⟨o, sc - 1, C, T, f, rfl, by omega, h3, fun i hi => ?_⟩
        omega
    · refine ⟨some ⟨g, o + 1, none⟩, fun w' => ?_, ?_⟩
      · have h6 : (1 : Int) ≤ sc := by omega
        simp [Instr.sliceAt, run_underlying Try.underlying50, Instr.slice, Instr.sliceBounds, Instr.sliceBound, asIntOf, sizeOf, typeInfo, hi, hz1, hs, Addr.add]
        intro hh; omega
      · refine .inr ⟨o + 1, sc - 1, C, T, f, rfl, by omega, h3, fun i hi => ?_⟩
        have := h4 (i + 1) (by simp; omega)
        rw [show o + 1 + i = o + (i + 1) by omega, this]
        simp
set_option maxRecDepth 100000 in
set_option maxHeartbeats 4000000 in
theorem Do_reply (M : Mem) (a pb c b g n : Nat) (l : List Int) (inp : ByteArray) (D : DataW Value) (s : St) (w : World) (hM : IsMem w a pb M) (hC : IsCl w c b g l inp n n D) (ne : c ≠ a ∧ c ≠ pb ∧ b ≠ a ∧ b ≠ pb ∧ g ≠ a ∧ g ≠ pb) (hs : s.Ok) (hn : n < 1000000) (hq : s.R 0 ≠ 1 ∧ s.R 0 ≠ 3 ∧ s.R 0 ≠ 4 ∧ s.R 0 ≠ 91 ∧ s.R 0 ≠ 125 ∧ s.R 0 ≠ 192) (x : Int) (t : List Int) (hl : l = x :: t) :
    Calls Try.prog 8 #[.pointer (some ⟨c, 0, none⟩), .pointer (some ⟨a, 0, none⟩), .agg s.cells] w fun e w' => e = .returned (.tuple #[.agg (s.setR 0 x).cells, .bool false]) ∧ IsMem w' a pb M ∧ IsCl w' c b g t inp (n + 1) (n + 1) ((D.put (.int .i64 n) (.held (Ev.val ⟨s.R 0, s.R 3, s.R 1, s.R 2, x, ByteArray.empty⟩))).del (.int .i64 (n - 200))) ∧ Upd [c, b, pb] w w' := by
  subst hl
  obtain ⟨rv, hc0, hr0⟩ := hC.hd
  obtain ⟨o, sc, rfl, hsc⟩ := rp_open hr0
  obtain ⟨sa2, hsl, hr2⟩ := rp_tail hr0
  have HR2 := Lib.hid hr2
  clear hr2 hsc
  have K0 := Lib.hid (Cq.start (k := n) hM hc0 hC.mp ⟨ne.1, ne.2.1, ne.2.2.1, ne.2.2.2.1, hC.cb⟩)
  have HR := Lib.hid (And.intro hr0 (show g ≠ c ∧ g ≠ b ∧ g ≠ pb from ⟨fun e => hC.cg.1 e.symm, fun e => hC.cg.2 e.symm, ne.2.2.2.2.2⟩))
  have HNE := Lib.hid ne
  have HS := Lib.hid hs
  have HN := Lib.hid hn
  have hsR := hs.R
  obtain ⟨x0, h0⟩ : ∃ x, s.R 0 = x := ⟨_, rfl⟩
  obtain ⟨x1, h1⟩ : ∃ x, s.R 1 = x := ⟨_, rfl⟩
  obtain ⟨x2, h2⟩ : ∃ x, s.R 2 = x := ⟨_, rfl⟩
  obtain ⟨x3, h3⟩ : ∃ x, s.R 3 = x := ⟨_, rfl⟩
  have hx0 := hsR 0
  have hx1 := hsR 1
  have hx2 := hsR 2
  have hx3 := hsR 3
  rw [h0] at hx0
  rw [h1] at hx1
  rw [h2] at hx2
  rw [h3] at hx3
  have HX := Lib.hid (And.intro hx0 (And.intro hx1 (And.intro hx2 hx3)))
  rw [h0] at hq
  have q1 : (x0 == 1) = false := by simp; omega
  have q3 : (x0 == 3) = false := by simp; omega
  have q4 : (x0 == 4) = false := by simp; omega
  have hct : (([91, 125, 192] : List Int).contains x0) = false := by simp; omega
  have HCT := Lib.hid hct
  clear hct hq
  have c0 : ∀ o1, (w.alloc (.cells s.cells 39) |>.alloc o1).cell? ⟨w.heap.size, 0, none⟩ = some (.int .u32 x0) := fun o1 => by rw [cells_of (heap_alloc2_old w (.cells s.cells 39) o1), St.cR s 0 (by decide), h0]
  have c1 : ∀ o1, (w.alloc (.cells s.cells 39) |>.alloc o1).cell? ⟨w.heap.size, 1, none⟩ = some (.int .u32 x1) := fun o1 => by rw [cells_of (heap_alloc2_old w (.cells s.cells 39) o1), St.cR s 1 (by decide), h1]
  have c2 : ∀ o1, (w.alloc (.cells s.cells 39) |>.alloc o1).cell? ⟨w.heap.size, 2, none⟩ = some (.int .u32 x2) := fun o1 => by rw [cells_of (heap_alloc2_old w (.cells s.cells 39) o1), St.cR s 2 (by decide), h2]
  have c3 : ∀ o1, (w.alloc (.cells s.cells 39) |>.alloc o1).cell? ⟨w.heap.size, 3, none⟩ = some (.int .u32 x3) := fun o1 => by rw [cells_of (heap_alloc2_old w (.cells s.cells 39) o1), St.cR s 3 (by decide), h3]
  have H03 := Lib.hid (And.intro h0 (And.intro h1 (And.intro h2 h3)))
  have tk1 : True := trivial
  clear hM hC ne hs hn hsR hx0 hx1 hx2 hx3 h0 h1 h2 h3 hc0 hr0
  go_enter Try.func8, Try.ntmps8
  go_upto_region 4 with (have _t := tk1; clear _t; go_at_call 23; refine (kinds_any _).mono ?_; rintro e w2 ⟨rfl, hu⟩; have K1 := Lib.hid (show Cq w a pb M c b #[.slice (some ⟨g, o, none⟩) (t.length + 1) sc, .string inp, .map (some b), .int .i64 n] n D [(w.heap.size + 1 + 1, .cells #[.int .u32 x0, .int .u32 x3, .int .u32 x1, .int .u32 x2, .int .u32 0, .string ByteArray.empty] 70 (0, 0)), (w.heap.size + 1, .cells St.zero.cells 39 (0, 0)), (w.heap.size, .cells s.cells 39 (0, 0))] w2 from by have h := ((K0.out.lay s.cells 39).lay St.zero.cells 39).lay #[.int .u32 x0, .int .u32 x3, .int .u32 x1, .int .u32 x2, .int .u32 0, .string ByteArray.empty] 70; simp at h; exact h.quiet hu); clear hu K0 c0 c1 c2 c3 tk1)
  have K2 := Lib.hid (K1.out.lay #[.int .u32 91, .int .u32 125, .int .u32 192] 40)
  clear K1
  have f2 := cells_of (K2.out.get 1 rfl)
  go_upto_region 10 with fail
  clear f2
  refine wp_draw 3 (Cq w a pb M c b #[.slice (some ⟨g, o, none⟩) (t.length + 1) sc, .string inp, .map (some b), .int .i64 n] n D [(w2.heap.size, .cells #[.int .u32 91, .int .u32 125, .int .u32 192] 40 (0, 0)), (w.heap.size + 1 + 1, .cells #[.int .u32 x0, .int .u32 x3, .int .u32 x1, .int .u32 x2, .int .u32 0, .string ByteArray.empty] 70 (0, 0)), (w.heap.size + 1, .cells St.zero.cells 39 (0, 0)), (w.heap.size, .cells s.cells 39 (0, 0))] ) (fun _ _ => False) (by kernel_rfl) (by decide +kernel) (K2.out.quiet (Upd.refl [] _).drew) (fun _ _ _ h => h.elim) ?_
  simp only [List.take_succ_cons, List.take_zero, List.drop_succ_cons, List.drop_zero]
  iterate 3
    apply headW_val rfl rfl
    · intro K hK w5 hB1
      have f1 := cells_of hB1.hc
      have f2 := cells_of (hB1.get 1 rfl)
      have HB := Lib.hid hB1
      clear hB1
      go_wp2_with fail
      first
      | exact hK _ HB.out
      | exact HB.out
    · exact ⟨_, rfl⟩
  refine headW_nil (fun _ w6 hB1 => ?_)
  have K2a := Lib.hid hB1
  clear hB1 K2
  go_upto_region 13 with (first | (have _t := K2a; clear _t; go_at_call 26; refine (Contains32_any [91, 125, 192] w2.heap.size 3 #[.int .u32 91, .int .u32 125, .int .u32 192] x0 _ (.inr (K2a.out.get 0 rfl)) (by intro i hi; match i, hi with | 0, _ => rfl | 1, _ => rfl | 2, _ => rfl) (by decide)).mono ?_; rintro e w4 ⟨rfl, hu⟩; rw [HCT.out]; have K2b := Lib.hid (show Cq w a pb M c b #[.slice (some ⟨g, o, none⟩) (t.length + 1) sc, .string inp, .map (some b), .int .i64 n] n D [(w2.heap.size, .cells #[.int .u32 91, .int .u32 125, .int .u32 192] 40 (0, 0)), (w.heap.size + 1 + 1, .cells #[.int .u32 x0, .int .u32 x3, .int .u32 x1, .int .u32 x2, .int .u32 0, .string ByteArray.empty] 70 (0, 0)), (w.heap.size + 1, .cells St.zero.cells 39 (0, 0)), (w.heap.size, .cells s.cells 39 (0, 0))] w4 from K2a.out.quiet hu); have f1 := cells_of K2b.out.hc; have f3 := free_of (K2b.out.get 1 rfl); clear hu K2a))
  refine wp_drawE 14 (CqR w a pb M c b #[.slice (some ⟨g, o, none⟩) (t.length + 1) sc, .string inp, .map (some b), .int .i64 n] n D w2.heap.size (w.heap.size + 1 + 1) (w.heap.size + 1) w.heap.size (.cells #[.int .u32 91, .int .u32 125, .int .u32 192] 40 (0, 0)) (.cells St.zero.cells 39 (0, 0)) (.cells s.cells 39 (0, 0)) #[.int .u32 x0, .int .u32 x3, .int .u32 x1, .int .u32 x2, .int .u32 0, .string ByteArray.empty] #[.int .u32 x0, .int .u32 x3, .int .u32 x1, .int .u32 x2, .int .u32 x, .string ByteArray.empty]) (fun _ _ => False) (by kernel_rfl) (by decide +kernel) (fun r0 => CqR.start (K2b.out.quiet (Upd.refl [] _).drew) r0) (fun _ _ _ h => h.elim) ?_
  simp only [List.take_succ_cons, List.take_zero, List.drop_succ_cons, List.drop_zero]
  apply headE_val0 rfl rfl
  · intro dn r0 K hd hdep hK w5 hB1
    have f1 := cells_of (Cq.hc hB1)
    have f6 := rp_head HR.out.1 (Cq.u hB1) (by have := HR.out.2; simp; exact this)
    have HB := Lib.hid hB1
    clear hB1 hdep
    go_wp2_with fail
    first
    | exact hK _ (HB.out.same 0 (by decide))
    | exact HB.out.same 0 (by decide)
  · exact ⟨_, rfl⟩
  apply headE_val0 rfl rfl
  · intro dn r0 K hd hdep hK w5 hB1
    have f1 := cells_of (Cq.hc hB1)
    have f6 := rp_head HR.out.1 (Cq.u hB1) (by have := HR.out.2; simp; exact this)
    have HB := Lib.hid hB1
    clear hB1 hdep
    go_wp2_with fail
    first
    | exact hK _ (HB.out.same 1 (by decide))
    | exact HB.out.same 1 (by decide)
  · exact ⟨_, rfl⟩
  apply headE_val0 rfl rfl
  · intro dn r0 K hd hdep hK w5 hB1
    have f1 := cells_of (Cq.hc hB1)
    have f6 := rp_head HR.out.1 (Cq.u hB1) (by have := HR.out.2; simp; exact this)
    have HB := Lib.hid hB1
    clear hB1 hdep
    go_wp2_with fail
    first
    | exact hK _ (HB.out.same 2 (by decide))
    | exact HB.out.same 2 (by decide)
  · exact ⟨_, rfl⟩
  apply headE_val0 rfl rfl
  · intro dn r0 K hd hdep hK w5 hB1
    have f1 := cells_of (Cq.hc hB1)
    have f6 := rp_head HR.out.1 (Cq.u hB1) (by have := HR.out.2; simp; exact this)
    have HB := Lib.hid hB1
    clear hB1 hdep
    go_wp2_with fail
    first
    | exact hK _ (HB.out.same 3 (by decide))
    | exact HB.out.same 3 (by decide)
  · exact ⟨_, rfl⟩
  apply headE_val0 rfl rfl
  · intro dn r0 K hd hdep hK w5 hB1
    have f1 := cells_of (Cq.hc hB1)
    have f6 := rp_head HR.out.1 (Cq.u hB1) (by have := HR.out.2; simp; exact this)
    have HB := Lib.hid hB1
    clear hB1 hdep
    go_wp2_with fail
    first
    | exact hK _ (HB.out.same 4 (by decide))
    | exact HB.out.same 4 (by decide)
  · exact ⟨_, rfl⟩
  apply headE_val0 rfl rfl
  · intro dn r0 K hd hdep hK w5 hB1
    have f1 := cells_of (Cq.hc hB1)
    have f6 := rp_head HR.out.1 (Cq.u hB1) (by have := HR.out.2; simp; exact this)
    have HB := Lib.hid hB1
    clear hB1 hdep
    go_wp2_with fail
    first
    | exact hK _ (HB.out.same 5 (by decide))
    | exact HB.out.same 5 (by decide)
  · exact ⟨_, rfl⟩
  apply headE_val0 rfl rfl
  · intro dn r0 K hd hdep hK w5 hB1
    have f1 := cells_of (Cq.hc hB1)
    have f6 := rp_head HR.out.1 (Cq.u hB1) (by have := HR.out.2; simp; exact this)
    have HB := Lib.hid hB1
    clear hB1 hdep
    go_wp2_with fail
    first
    | exact hK _ (HB.out.same 6 (by decide))
    | exact HB.out.same 6 (by decide)
  · exact ⟨_, rfl⟩
  apply headE_val0 rfl rfl
  · intro dn r0 K hd hdep hK w5 hB1
    have f1 := cells_of (Cq.hc hB1)
    have f6 := rp_head HR.out.1 (Cq.u hB1) (by have := HR.out.2; simp; exact this)
    have HB := Lib.hid hB1
    clear hB1 hdep
    go_wp2_with fail
    first
    | exact hK _ (HB.out.same 7 (by decide))
    | exact HB.out.same 7 (by decide)
  · exact ⟨_, rfl⟩
  apply headE_val0 rfl rfl
  · intro dn r0 K hd hdep hK w5 hB1
    have f1 := cells_of (Cq.hc hB1)
    have f6 := rp_head HR.out.1 (Cq.u hB1) (by have := HR.out.2; simp; exact this)
    have HB := Lib.hid hB1
    clear hB1 hdep
    go_wp2_with fail
    first
    | exact hK _ (HB.out.same 8 (by decide))
    | exact HB.out.same 8 (by decide)
  · exact ⟨_, rfl⟩
  apply headE_val0 rfl rfl
  · intro dn r0 K hd hdep hK w5 hB1
    have f1 := cells_of (Cq.hc hB1)
    have f6 := rp_head HR.out.1 (Cq.u hB1) (by have := HR.out.2; simp; exact this)
    have HB := Lib.hid hB1
    clear hB1 hdep
    go_wp2_with fail
    first
    | exact hK _ (HB.out.same 9 (by decide))
    | exact HB.out.same 9 (by decide)
  · exact ⟨_, rfl⟩
  apply headE_val0 rfl rfl
  · intro dn r0 K hd hdep hK w5 hB1
    have f1 := cells_of (Cq.hc hB1)
    have f6 := rp_head HR.out.1 (Cq.u hB1) (by have := HR.out.2; simp; exact this)
    have HB := Lib.hid hB1
    clear hB1 hdep
    go_wp2_with fail
    first
    | exact hK _ (HB.out.same 10 (by decide))
    | exact HB.out.same 10 (by decide)
  · exact ⟨_, rfl⟩
  apply headE_val0 rfl rfl
  · intro dn r0 K hd hdep hK w5 hB1
    have f1 := cells_of (Cq.hc hB1)
    have f6 := rp_head HR.out.1 (Cq.u hB1) (by have := HR.out.2; simp; exact this)
    have HB := Lib.hid hB1
    clear hB1 hdep
    go_wp2_with fail
    first
    | exact hK _ (HB.out.same 11 (by decide))
    | exact HB.out.same 11 (by decide)
  · exact ⟨_, rfl⟩
  apply headE_val0 rfl rfl
  · intro dn r0 K hd hdep hK w5 hB1
    have f1 := cells_of (Cq.hc hB1)
    have f6 := rp_head HR.out.1 (Cq.u hB1) (by have := HR.out.2; simp; exact this)
    have HB := Lib.hid hB1
    clear hB1 hdep
    go_wp2_with fail
    first
    | exact hK _ (HB.out.same 12 (by decide))
    | exact HB.out.same 12 (by decide)
  · exact ⟨_, rfl⟩
  apply headE_val0 rfl rfl
  · intro dn r0 K hd hdep hK w5 hB1
    have f7 : w5.frozen? ⟨w.heap.size + 1 + 1, 4, none⟩ = false := free_of (Cq.get hB1 1 rfl) 4
    have f8 : w5.cell? ⟨w.heap.size + 1 + 1, 4, none⟩ = some (.int .u32 0) := by have := cells_of (Cq.get hB1 1 rfl) 4; rw [hd] at this; exact this
    have HB := Lib.hid (hB1.put hd (.int .u32 x) rfl)
    clear hB1 hdep
    go_wp2_with fail
    first
    | exact hK _ HB.out
    | exact HB.out
  · exact ⟨undef, rfl⟩
  refine headE_nil (fun _ r0 w8 dn hall hB2 => ?_)
  unfold CqR at hB2
  rw [hall 13 (by decide)] at hB2
  have K2d := Lib.hid (show Cq w a pb M c b #[.slice (some ⟨g, o, none⟩) (t.length + 1) sc, .string inp, .map (some b), .int .i64 n] n D [(w2.heap.size, .cells #[.int .u32 91, .int .u32 125, .int .u32 192] 40 (0, 0)), (w.heap.size + 1 + 1, .cells #[.int .u32 x0, .int .u32 x3, .int .u32 x1, .int .u32 x2, .int .u32 x, .string ByteArray.empty] 70 (0, 0)), (w.heap.size + 1, .cells St.zero.cells 39 (0, 0)), (w.heap.size, .cells s.cells 39 (0, 0))] w8 from hB2)
  have f1 := cells_of K2d.out.hc
  have f2 := free_of K2d.out.hc
  clear hall hB2 K2b f3
  simp only [fillE]
  go_upto_region 14 with fail
  have hk := K2d.out.putC 0 (.slice sa2 t.length (sc - 1))
  have K3 := Lib.hid (show Cq w a pb M c b #[.slice sa2 t.length (sc - 1), .string inp, .map (some b), .int .i64 n] n D [(w2.heap.size, .cells #[.int .u32 91, .int .u32 125, .int .u32 192] 40 (0, 0)), (w.heap.size + 1 + 1, .cells #[.int .u32 x0, .int .u32 x3, .int .u32 x1, .int .u32 x2, .int .u32 x, .string ByteArray.empty] 70 (0, 0)), (w.heap.size + 1, .cells St.zero.cells 39 (0, 0)), (w.heap.size, .cells s.cells 39 (0, 0))] _ from hk)
  clear hk K2d f1 f2
  refine wp_draw 9 (Cq w a pb M c b #[.slice sa2 t.length (sc - 1), .string inp, .map (some b), .int .i64 n] n D [(w2.heap.size, .cells #[.int .u32 91, .int .u32 125, .int .u32 192] 40 (0, 0)), (w.heap.size + 1 + 1, .cells #[.int .u32 x0, .int .u32 x3, .int .u32 x1, .int .u32 x2, .int .u32 x, .string ByteArray.empty] 70 (0, 0)), (w.heap.size + 1, .cells St.zero.cells 39 (0, 0)), (w.heap.size, .cells (St.cells s) 39 (0, 0))] ) (fun _ _ => False) (by kernel_rfl) (by decide +kernel) (K3.out.quiet (Upd.refl [] _).drew) (fun _ _ _ h => h.elim) ?_
  simp only [List.take_succ_cons, List.take_zero, List.drop_succ_cons, List.drop_zero]
  iterate 9
    apply headW_val rfl rfl
    · intro K hK w5 hB1
      have f1 := cells_of hB1.hc
      have f2 := cells_of (hB1.get 1 rfl)
      have HB := Lib.hid hB1
      clear hB1
      go_wp2_with fail
      first
      | exact hK _ HB.out
      | exact HB.out
    · exact ⟨_, rfl⟩
  refine headW_nil (fun _ w6 hB1 => ?_)
  have K4 := Lib.hid hB1
  clear hB1 K3
  go_upto_region 15 with (at_mapUpdate; refine wpList_mapUpdate_own _ rfl _ _ _ 75 rfl 3 70 (int_keyed Try.underlying3) Try.underlying75 evR b n D rfl K4.out.p (by have := HN.out; unfold maxLen; omega) (.int .i64 n) (.agg #[.int .u32 x0, .int .u32 x3, .int .u32 x1, .int .u32 x2, .int .u32 x, .string ByteArray.empty]) (.int .i64 n) rfl rfl (keyOf_int_mk Try.underlying3 (WalkArith.wf_i64 (by have := HN.out; omega))) (.held (.agg #[.int .u32 x0, .int .u32 x3, .int .u32 x1, .int .u32 x2, .int .u32 x, .string ByteArray.empty])) [] rfl ?_; intro w7 hown hg; have K5 := Lib.hid (show Cq w a pb M c b #[.slice sa2 t.length (sc - 1), .string inp, .map (some b), .int .i64 n] (n + 1) (D.put (.int .i64 n) (.held (.agg #[.int .u32 x0, .int .u32 x3, .int .u32 x1, .int .u32 x2, .int .u32 x, .string ByteArray.empty]))) [(w2.heap.size, .cells #[.int .u32 91, .int .u32 125, .int .u32 192] 40 (0, 0)), (w.heap.size + 1 + 1, .cells #[.int .u32 x0, .int .u32 x3, .int .u32 x1, .int .u32 x2, .int .u32 x, .string ByteArray.empty] 70 (0, 0)), (w.heap.size + 1, .cells St.zero.cells 39 (0, 0)), (w.heap.size, .cells (St.cells s) 39 (0, 0))] w7 from K4.out.map hown (Upd.of_grown (row := some b) hg)); clear hown hg K4)
  refine wp_draw 9 (Cq w a pb M c b #[.slice sa2 t.length (sc - 1), .string inp, .map (some b), .int .i64 n] (n + 1) (D.put (.int .i64 n) (.held (.agg #[.int .u32 x0, .int .u32 x3, .int .u32 x1, .int .u32 x2, .int .u32 x, .string ByteArray.empty]))) [(w2.heap.size, .cells #[.int .u32 91, .int .u32 125, .int .u32 192] 40 (0, 0)), (w.heap.size + 1 + 1, .cells #[.int .u32 x0, .int .u32 x3, .int .u32 x1, .int .u32 x2, .int .u32 x, .string ByteArray.empty] 70 (0, 0)), (w.heap.size + 1, .cells St.zero.cells 39 (0, 0)), (w.heap.size, .cells (St.cells s) 39 (0, 0))] ) (fun _ _ => False) (by kernel_rfl) (by decide +kernel) (K5.out.quiet (Upd.refl [] _).drew) (fun _ _ _ h => h.elim) ?_
  simp only [List.take_succ_cons, List.take_zero, List.drop_succ_cons, List.drop_zero]
  iterate 9
    apply headW_val rfl rfl
    · intro K hK w5 hB1
      have f1 := cells_of hB1.hc
      have f2 := cells_of (hB1.get 1 rfl)
      have HB := Lib.hid hB1
      clear hB1
      go_wp2_with fail
      first
      | exact hK _ HB.out
      | exact HB.out
    · exact ⟨_, rfl⟩
  refine headW_nil (fun _ w6 hB1 => ?_)
  have K6 := Lib.hid hB1
  have e200 : wrap64 ((n : Int) - 200) = (n : Int) - 200 := by have := HN.out; unfold wrap64; omega
  clear hB1 K5
  try simp only [e200]
  go_upto_region 16 with (at_delete; refine wpList_delete_own _ rfl _ _ 75 3 rfl 70 (int_keyed Try.underlying3) Try.underlying75 evR b (n + 1) _ rfl K6.out.p (.int .i64 ((n : Int) - 200)) (.int .i64 ((n : Int) - 200)) rfl (keyOf_int_mk Try.underlying3 (WalkArith.wf_i64 (by have := HN.out; omega))) ?_; intro w8 hown hturn; have K7 := Lib.hid (show Cq w a pb M c b #[.slice sa2 t.length (sc - 1), .string inp, .map (some b), .int .i64 n] (n + 1) ((D.put (.int .i64 n) (.held (.agg #[.int .u32 x0, .int .u32 x3, .int .u32 x1, .int .u32 x2, .int .u32 x, .string ByteArray.empty]))).del (.int .i64 (n - 200))) [(w2.heap.size, .cells #[.int .u32 91, .int .u32 125, .int .u32 192] 40 (0, 0)), (w.heap.size + 1 + 1, .cells #[.int .u32 x0, .int .u32 x3, .int .u32 x1, .int .u32 x2, .int .u32 x, .string ByteArray.empty] 70 (0, 0)), (w.heap.size + 1, .cells St.zero.cells 39 (0, 0)), (w.heap.size, .cells (St.cells s) 39 (0, 0))] w8 from K6.out.map hown (Upd.of_grown (row := some b) hturn.grown)); clear hown hturn K6)
  have f1 := cells_of K7.out.hc
  have f2 := free_of K7.out.hc
  have f3 := cells_of (K7.out.get 1 rfl)
  have f4 : w8.cell? ⟨w.heap.size, 0, none⟩ = some (.int .u32 x0) := by rw [cells_of (K7.out.get 3 rfl), St.cR s 0 (by decide), H03.out.1]
  have f5 := free_of (K7.out.get 3 rfl)
  have e201 : wrap64 ((n : Int) + 1) = (n : Int) + 1 := by have := HN.out; unfold wrap64; omega
  have hcs : c ≠ w.heap.size := by have := K7.out.o; omega
  go_upto_region 18 with fail
  have hk := (K7.out.putC 3 (.int .i64 ((n : Int) + 1))).cell 3 rfl 0 (.int .u32 x)
  dsimp only [List.set] at hk
  rw [St.cells_setR s 0 x (by decide)] at hk
  have K8 := Lib.hid (show Cq w a pb M c b #[.slice sa2 t.length (sc - 1), .string inp, .map (some b), .int .i64 ((n : Int) + 1)] (n + 1) ((D.put (.int .i64 n) (.held (.agg #[.int .u32 x0, .int .u32 x3, .int .u32 x1, .int .u32 x2, .int .u32 x, .string ByteArray.empty]))).del (.int .i64 (n - 200))) [(w2.heap.size, .cells #[.int .u32 91, .int .u32 125, .int .u32 192] 40 (0, 0)), (w.heap.size + 1 + 1, .cells #[.int .u32 x0, .int .u32 x3, .int .u32 x1, .int .u32 x2, .int .u32 x, .string ByteArray.empty] 70 (0, 0)), (w.heap.size + 1, .cells St.zero.cells 39 (0, 0)), (w.heap.size, .cells (St.cells (s.setR 0 x)) 39 (0, 0))] _ from hk)
  clear hk K7 f1 f2 f3 f4 f5 e200 e201 hcs
  refine wp_drawE 5 (CqE w a pb M c b #[.slice sa2 t.length (sc - 1), .string inp, .map (some b), .int .i64 ((n : Int) + 1)] (n + 1) ((D.put (.int .i64 n) (.held (.agg #[.int .u32 x0, .int .u32 x3, .int .u32 x1, .int .u32 x2, .int .u32 x, .string ByteArray.empty]))).del (.int .i64 (n - 200))) w2.heap.size (w.heap.size + 1 + 1) (w.heap.size + 1) w.heap.size (.cells #[.int .u32 91, .int .u32 125, .int .u32 192] 40 (0, 0)) (.cells #[.int .u32 x0, .int .u32 x3, .int .u32 x1, .int .u32 x2, .int .u32 x, .string ByteArray.empty] 70 (0, 0)) (.cells (St.cells (s.setR 0 x)) 39 (0, 0)) (s.setR 0 x)) (fun _ _ => False) (by kernel_rfl) (by decide +kernel) (fun r0 => CqE.start (K8.out.quiet (Upd.refl [] _).drew) r0) (fun _ _ _ h => h.elim) ?_
  simp only [List.take_succ_cons, List.take_zero, List.drop_succ_cons, List.drop_zero]
  apply headE_val0 rfl rfl
  · intro dn r0 K hd hdep hK w5 hB1
    refine wp_load_state (s.setR 0 x) _ _ rfl rfl (Cq.get hB1 3 rfl) ?_
    exact hK _ (hB1.same 0 (by decide))
  · exact ⟨_, rfl⟩
  apply headE_val0 rfl rfl
  · intro dn r0 K hd hdep hK w5 hB1
    have f2 := cells_of (Cq.get hB1 1 rfl)
    have HB := Lib.hid hB1
    clear hB1 hdep
    go_wp2_with fail
    first
    | exact hK _ (HB.out.same 1 (by decide))
    | exact HB.out.same 1 (by decide)
  · exact ⟨_, rfl⟩
  apply headE_val0 rfl rfl
  · intro dn r0 K hd hdep hK w5 hB1
    have f2 := cells_of (Cq.get hB1 1 rfl)
    have HB := Lib.hid hB1
    clear hB1 hdep
    go_wp2_with fail
    first
    | exact hK _ (HB.out.same 2 (by decide))
    | exact HB.out.same 2 (by decide)
  · exact ⟨_, rfl⟩
  apply headE_val0 rfl rfl
  · intro dn r0 K hd hdep hK w5 hB1
    have f2 := cells_of (Cq.get hB1 1 rfl)
    have HB := Lib.hid hB1
    clear hB1 hdep
    go_wp2_with fail
    first
    | exact hK _ (HB.out.same 3 (by decide))
    | exact HB.out.same 3 (by decide)
  · exact ⟨_, rfl⟩
  apply headE_val0 rfl rfl
  · intro dn r0 K hd hdep hK w5 hB1
    refine wp_store_stateC (s.setR 0 x) (w.heap.size + 1) _ _ rfl rfl rfl (Cq.get hB1 2 rfl) (by cases dn 4 <;> rfl) ?_
    intro w6 hw; rw [← hw]
    exact hK _ hB1.put
  · exact ⟨undef, rfl⟩
  refine headE_nil (fun _ r0 w9 dn hall hB2 => ?_)
  unfold CqE at hB2
  rw [hall 4 (by decide)] at hB2
  have K9 := Lib.hid (show Cq w a pb M c b #[.slice sa2 t.length (sc - 1), .string inp, .map (some b), .int .i64 ((n : Int) + 1)] (n + 1) ((D.put (.int .i64 n) (.held (.agg #[.int .u32 x0, .int .u32 x3, .int .u32 x1, .int .u32 x2, .int .u32 x, .string ByteArray.empty]))).del (.int .i64 (n - 200))) [(w2.heap.size, .cells #[.int .u32 91, .int .u32 125, .int .u32 192] 40 (0, 0)), (w.heap.size + 1 + 1, .cells #[.int .u32 x0, .int .u32 x3, .int .u32 x1, .int .u32 x2, .int .u32 x, .string ByteArray.empty] 70 (0, 0)), (w.heap.size + 1, .cells (s.setR 0 x).cells 39 (0, 0)), (w.heap.size, .cells (s.setR 0 x).cells 39 (0, 0))] w9 from hB2)
  clear hall hB2 K8
  simp only [fillE]
  go_wp2_with fail
  refine bodyPost_ret (results_two' rfl (res_stateC 6 (w.heap.size + 1) (s.setR 0 x) rfl (K9.out.get 2 rfl)) (res_tmp 7 rfl)) rfl ?_
  obtain ⟨h0, h1, h2, h3⟩ := H03.out
  rw [h0, h1, h2, h3]
  exact ⟨rfl, K9.out.m, Cq.isCl (n := n + 1) K9.out HR2.out HR.out.2, K9.out.u⟩
end Go.Proofs.Ytdgclmibbmofcaa
