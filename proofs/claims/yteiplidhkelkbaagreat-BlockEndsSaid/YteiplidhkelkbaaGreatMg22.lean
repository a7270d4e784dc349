/-
  Parts of the proof (their names shortened by a program). No condition.
-/
import Derived.Test.YteiplidhkelkbaaGreatMg01
import Derived.Test.YteiplidhkelkbaaGreatMg20
import Derived.Test.YteiplidhkelkbaaGreatMg21
namespace Go.Proofs.YteiplidhkelkbaaGreat
open Go Go.RowKit
set_option linter.unusedVariables false
set_option linter.unusedSimpArgs false
set_option maxRecDepth 100000
set_option maxHeartbeats 16000000
section
theorem Yf0 (a b : Opd) (w : World) : (binOp .neq 40 (.agg a.cells) (.agg b.cells)).run Tryz.prog w = .ok (.bool (!a.eqB b)) w := by
 have h := Yid a b w 9998
 rw [run_neq_struct]
 rw [show (10000 : Nat) = 9998 + 1 + 1 from rfl, h, Result.andThen_ok]
theorem RiM.start0 {w : World} {d : Nat} {v : Value} {L : List Int} {g : Nat} {s : Rd} (h : Yl w d v L g s) (o : Opd) :
  RiM w d v L g s (w.heap.size + 1) Ins.zero.cells w.heap.size o ((w.alloc (.cells o.cells 40)).alloc (.cells Ins.zero.cells 42)) := by
 have u : Upd [] w ((w.alloc (.cells o.cells 40)).alloc (.cells Ins.zero.cells 42)) := ((Upd.refl [] w).alloc _).alloc _
 refine ⟨⟨h.step u, u.mono (by simp), ?_, ⟨h.lt, by omega⟩, h.b, rfl⟩, Yc _ (heap_alloc_new _ _), by omega, by omega⟩
 have := heap_alloc_new (w.alloc (.cells o.cells 40)) (.cells Ins.zero.cells 42)
 rwa [show (w.alloc (.cells o.cells 40)).heap.size = w.heap.size + 1 from by simp] at this
structure RiT (w : World) (d : Nat) (v : Value) (L : List Int) (g : Nat) (s : Rd) (st : Nat) (I : Ins) (rb mb : Nat) (o : Opd) (tb : Nat) (T : Array Value) (dd : Nat → Bool) (w1 : World) : Prop where
 r : RiB w d v L g s s 999 st I rb mb o dd w1
 t : w1.heap[tb]? = some (.cells T 113 (0, 0))
 tl : tb ≠ rb
section
variable {w w1 w2 : World} {d : Nat} {v : Value} {L : List Int} {g : Nat} {s : Rd} {rb mb st tb : Nat} {C T : Array Value} {o : Opd} {I : Ins} {dd : Nat → Bool}
theorem RiT.start (h : RiM w d v L g s rb C mb o w1) (t : w1.heap[tb]? = some (.cells T 113 (0, 0))) (hl : tb ≠ rb) : RiT w d v L g s st I rb mb o tb T (fun _ => false) w1.drew :=
 ⟨RiB.start h, ((Upd.refl [] w1).drew).get t (by simp), hl⟩
theorem RiT.same (h : RiT w d v L g s st I rb mb o tb T dd w1) (q : Nat) (h1 : 999 ≠ q) (h2 : st ≠ q) : RiT w d v L g s st I rb mb o tb T (Ybq dd q) w1 := ⟨h.r.same q h1 h2, h.t, h.tl⟩
theorem RiT.store (h : RiT w d v L g s st I rb mb o tb T dd w1) (hk : 999 ≠ st) (hw : w1.setCells rb 0 I.cells.toList = w2) : RiT w d v L g s st I rb mb o tb T (Ybq dd st) w2 := by
 obtain ⟨C, e1, e2, e3⟩ := h.r.r
 exact ⟨h.r.store hk hw, (Yau hw e1 e2 (Upd.refl [rb] w1) (.inl (by simp))).2.get h.t (by simpa using h.tl), h.tl⟩
end
theorem Yq5 (n : Int) (hn : 0 ≤ n ∧ n < 8) (h0 : n ≠ 0) : (#[.int .i64 11, .int .i64 0, .int .i64 14, .int .i64 15, .int .i64 16, .int .i64 17, .int .i64 19, .int .i64 20] : Array Value)[n.toNat]? = some (.int .i64 (Ybd n)) := by
 have : n = 1 ∨ n = 2 ∨ n = 3 ∨ n = 4 ∨ n = 5 ∨ n = 6 ∨ n = 7 := by omega
 rcases this with rfl | rfl | rfl | rfl | rfl | rfl | rfl <;> rfl
theorem Yrc (n : Int) (hn : 0 ≤ n ∧ n < 8) : (#[.int .i64 12, .int .i64 13, .int .i64 30, .int .i64 0, .int .i64 32, .int .i64 0, .int .i64 28, .int .i64 0] : Array Value)[n.toNat]? = some (.int .i64 (Ycn n)) := by
 have : n = 0 ∨ n = 1 ∨ n = 2 ∨ n = 3 ∨ n = 4 ∨ n = 5 ∨ n = 6 ∨ n = 7 := by omega
 rcases this with rfl | rfl | rfl | rfl | rfl | rfl | rfl | rfl <;> rfl
theorem Yqn (d g : Nat) (s : Rd) (v : Value) (L : List Int) (w : World) (hD : Yl w d v L g s) (o : Opd) (n : Int) (hn : n = 0) :
  Calls Tryz.prog 76 #[.pointer (some ⟨d, 0, none⟩), .int .u8 198, .agg #[.int .i64 o.k, .int .i64 o.r, .int .u32 o.imm, .int .i64 o.b, .int .i64 o.x, .int .u32 o.sc], .int .i64 n] w (Yr d v L g w ⟨⟨2, 0, o, Yac (reB L { s with bd := false }), false, 0⟩, false, (Ym L { s with bd := false })⟩) := by
 subst hn
 have hb := Yae hD.r { s with bd := false }
 have q0 : reB L { s with bd := false } % 4294967296 = reB L { s with bd := false } := by omega
 have c0 := Ya (Yc (.cells #[.int .i64 0, .int .i64 0, .int .i64 0, .int .i64 0, .int .u32 0, .int .i64 0, .int .i64 0, .int .u32 0, .int .i64 0, .int .i64 0, .int .u32 0, .int .i64 0, .int .i64 0, .int .u32 0, .bool false, .int .i64 0] 42) (Yc (.cells #[.int .i64 o.k, .int .i64 o.r, .int .u32 o.imm, .int .i64 o.b, .int .i64 o.x, .int .u32 o.sc] 40) hD.h))
 have f0 := Yh (Yc (.cells #[.int .i64 0, .int .i64 0, .int .i64 0, .int .i64 0, .int .u32 0, .int .i64 0, .int .i64 0, .int .u32 0, .int .i64 0, .int .i64 0, .int .u32 0, .int .i64 0, .int .i64 0, .int .u32 0, .bool false, .int .i64 0] 42) (Yc (.cells #[.int .i64 o.k, .int .i64 o.r, .int .u32 o.imm, .int .i64 o.b, .int .i64 o.x, .int .u32 o.sc] 40) hD.h))
 have H1 := Yh_ (RiM.start0 hD o)
 clear hD hb
 go_enter Tryz.func76, Tryz.ntmps76
 go_wp2_with fail
 refine Yaq 5 (RiB w d v L g { s with bd := false } (Ym L { s with bd := false }) 2 999 Ins.zero (w.heap.size + 1) (w.heap.size) o) (fun _ _ => False) (by kernel_rfl) (by decide +kernel) (RiB.start (H1.out.setB false)) (fun _ _ _ h => h.elim) ?_
 simp only [List.take_succ_cons, List.take_zero, List.drop_succ_cons, List.drop_zero]
 iterate 2
  apply Yf rfl rfl
  ·intro dd K hd hK w5 hB1
   have HB := Yh_ hB1
   have c1 := Ya HB.out.o; unfold Opd.cells at c1
   clear hB1
   go_wp2_with fail
   first
   |exact hK _ (HB.out.same _ (by decide) (by decide))
   |exact HB.out.same _ (by decide) (by decide)
  ·exact ⟨_, rfl⟩
 apply Yf rfl rfl
 ·intro dd K hd hK w5 hB1
  have HB := Yh_ hB1
  have c1 := Ya HB.out.o; unfold Opd.cells at c1
  clear hB1
  go_wp2_with (go_at_call 53; refine (Yy d g _ v L _ (HB.out.rd hd)).mono ?_; rintro e w' ⟨rfl, h, hu⟩)
  first
  |exact hK _ (HB.out.call hd (by decide) h hu)
  |exact HB.out.call hd (by decide) h hu
 ·exact ⟨_, rfl⟩
 apply Yf rfl rfl
 ·intro dd K hd hK w5 hB1
  have HB := Yh_ hB1
  have c1 := Ya HB.out.o; unfold Opd.cells at c1
  clear hB1
  go_wp2_with fail
  first
  |exact hK _ (HB.out.same _ (by decide) (by decide))
  |exact HB.out.same _ (by decide) (by decide)
 ·exact ⟨_, rfl⟩
 apply Yf rfl rfl
 ·intro dd K hd hK w5 hB1
  have HB := Yh_ hB1
  have c1 := Ya HB.out.o; unfold Opd.cells at c1
  clear hB1
  go_wp2_with (go_at_call 57; refine (Ycb _ _).mono ?_; rintro e w' ⟨rfl, hu⟩; rw [show (Yac (reB L { s with bd := false })).val = .agg #[.int .i64 2, .int .i64 0, .int .u32 (reB L { s with bd := false }), .int .i64 0, .int .i64 0, .int .u32 0] from rfl])
  first
  |exact hK _ (HB.out.quiet hu _ (by decide) (by decide))
  |exact HB.out.quiet hu _ (by decide) (by decide)
 ·exact ⟨_, rfl⟩
 refine Yal (fun _ w2 dd hall hB1 => ?_)
 obtain ⟨C2, hC, hI⟩ := hB1.fin (.inl (hall 2 (by decide)))
 clear hI
 have H2 := Yh_ hC
 have cm := Ya H2.out.o
 unfold Opd.cells at cm
 clear hC hall hB1
 go_wp2_with (have _t := H2; clear _t; refine Ye 42 rfl ?_; refine Yb ⟨2, 0, o, Yac (reB L { s with bd := false }), false, 0⟩ (w.heap.size + 1) rfl _ _ rfl rfl rfl (H2.out).r (H2.out).z ?_; intro w3 hw; have H3 := Yh_ ((H2.out).store hw); clear hw H2)
 exact bodyPost_ret (Yg rfl (Yi 8 (w.heap.size + 1) _ rfl H3.out.r) (Yk 9 rfl)) rfl ⟨rfl, H3.out.h, H3.out.u⟩
theorem Yo5 (d g : Nat) (s : Rd) (v : Value) (L : List Int) (w : World) (hD : Yl w d v L g s) (o : Opd) (n : Int) (hn : n ≠ 0) :
  Calls Tryz.prog 76 #[.pointer (some ⟨d, 0, none⟩), .int .u8 198, .agg #[.int .i64 o.k, .int .i64 o.r, .int .u32 o.imm, .int .i64 o.b, .int .i64 o.x, .int .u32 o.sc], .int .i64 n] w (Yr d v L g w ⟨Ins.zero, false, { s with bd := true }⟩) := by
 have q0 : (n != 0) = true := by simpa using hn
 have c0 := Ya (Yc (.cells #[.int .i64 0, .int .i64 0, .int .i64 0, .int .i64 0, .int .u32 0, .int .i64 0, .int .i64 0, .int .u32 0, .int .i64 0, .int .i64 0, .int .u32 0, .int .i64 0, .int .i64 0, .int .u32 0, .bool false, .int .i64 0] 42) (Yc (.cells #[.int .i64 o.k, .int .i64 o.r, .int .u32 o.imm, .int .i64 o.b, .int .i64 o.x, .int .u32 o.sc] 40) hD.h))
 have f0 := Yh (Yc (.cells #[.int .i64 0, .int .i64 0, .int .i64 0, .int .i64 0, .int .u32 0, .int .i64 0, .int .i64 0, .int .u32 0, .int .i64 0, .int .i64 0, .int .u32 0, .int .i64 0, .int .i64 0, .int .u32 0, .bool false, .int .i64 0] 42) (Yc (.cells #[.int .i64 o.k, .int .i64 o.r, .int .u32 o.imm, .int .i64 o.b, .int .i64 o.x, .int .u32 o.sc] 40) hD.h))
 have H1 := Yh_ (RiM.start0 hD o)
 clear hD hn
 go_enter Tryz.func76, Tryz.ntmps76
 go_wp2_with (have _t := H1; clear _t; refine Ye 42 rfl ?_; refine Yb Ins.zero (w.heap.size + 1) rfl _ _ rfl rfl rfl (H1.out.setB true).r (H1.out.setB true).z ?_; intro w2 hw; have H2 := Yh_ ((H1.out.setB true).store hw); clear hw H1)
 exact bodyPost_ret (Yg rfl (Yi 8 (w.heap.size + 1) _ rfl H2.out.r) (Yk 9 rfl)) rfl ⟨rfl, H2.out.h, H2.out.u⟩
theorem Yo2 (d g : Nat) (s : Rd) (v : Value) (L : List Int) (w : World) (hD : Yl w d v L g s) (o : Opd) (n : Int) (hn : n = 0) :
  Calls Tryz.prog 76 #[.pointer (some ⟨d, 0, none⟩), .int .u8 199, .agg #[.int .i64 o.k, .int .i64 o.r, .int .u32 o.imm, .int .i64 o.b, .int .i64 o.x, .int .u32 o.sc], .int .i64 n] w (Yr d v L g w ⟨⟨1, 0, o, Yac (reW L { s with bd := false }), false, 0⟩, false, (Yb1 L { s with bd := false })⟩) := by
 subst hn
 have c0 := Ya (Yc (.cells #[.int .i64 0, .int .i64 0, .int .i64 0, .int .i64 0, .int .u32 0, .int .i64 0, .int .i64 0, .int .u32 0, .int .i64 0, .int .i64 0, .int .u32 0, .int .i64 0, .int .i64 0, .int .u32 0, .bool false, .int .i64 0] 42) (Yc (.cells #[.int .i64 o.k, .int .i64 o.r, .int .u32 o.imm, .int .i64 o.b, .int .i64 o.x, .int .u32 o.sc] 40) hD.h))
 have f0 := Yh (Yc (.cells #[.int .i64 0, .int .i64 0, .int .i64 0, .int .i64 0, .int .u32 0, .int .i64 0, .int .i64 0, .int .u32 0, .int .i64 0, .int .i64 0, .int .u32 0, .int .i64 0, .int .i64 0, .int .u32 0, .bool false, .int .i64 0] 42) (Yc (.cells #[.int .i64 o.k, .int .i64 o.r, .int .u32 o.imm, .int .i64 o.b, .int .i64 o.x, .int .u32 o.sc] 40) hD.h))
 have H1 := Yh_ (RiM.start0 hD o)
 clear hD
 go_enter Tryz.func76, Tryz.ntmps76
 go_wp2_with fail
 refine Yaq 4 (RiB w d v L g { s with bd := false } (Yb1 L { s with bd := false }) 2 999 Ins.zero (w.heap.size + 1) (w.heap.size) o) (fun _ _ => False) (by kernel_rfl) (by decide +kernel) (RiB.start (H1.out.setB false)) (fun _ _ _ h => h.elim) ?_
 simp only [List.take_succ_cons, List.take_zero, List.drop_succ_cons, List.drop_zero]
 iterate 2
  apply Yf rfl rfl
  ·intro dd K hd hK w5 hB1
   have HB := Yh_ hB1
   have c1 := Ya HB.out.o; unfold Opd.cells at c1
   clear hB1
   go_wp2_with fail
   first
   |exact hK _ (HB.out.same _ (by decide) (by decide))
   |exact HB.out.same _ (by decide) (by decide)
  ·exact ⟨_, rfl⟩
 apply Yf rfl rfl
 ·intro dd K hd hK w5 hB1
  have HB := Yh_ hB1
  have c1 := Ya HB.out.o; unfold Opd.cells at c1
  clear hB1
  go_wp2_with (go_at_call 59; refine (Yci d g _ v L _ (HB.out.rd hd)).mono ?_; rintro e w' ⟨rfl, h, hu⟩)
  first
  |exact hK _ (HB.out.call hd (by decide) h hu)
  |exact HB.out.call hd (by decide) h hu
 ·exact ⟨_, rfl⟩
 apply Yf rfl rfl
 ·intro dd K hd hK w5 hB1
  have HB := Yh_ hB1
  have c1 := Ya HB.out.o; unfold Opd.cells at c1
  clear hB1
  go_wp2_with (go_at_call 57; refine (Ycb _ _).mono ?_; rintro e w' ⟨rfl, hu⟩; rw [show (Yac (reW L { s with bd := false })).val = .agg #[.int .i64 2, .int .i64 0, .int .u32 (reW L { s with bd := false }), .int .i64 0, .int .i64 0, .int .u32 0] from rfl])
  first
  |exact hK _ (HB.out.quiet hu _ (by decide) (by decide))
  |exact HB.out.quiet hu _ (by decide) (by decide)
 ·exact ⟨_, rfl⟩
 refine Yal (fun _ w2 dd hall hB1 => ?_)
 obtain ⟨C2, hC, hI⟩ := hB1.fin (.inl (hall 2 (by decide)))
 clear hI
 have H2 := Yh_ hC
 have cm := Ya H2.out.o
 unfold Opd.cells at cm
 clear hC hall hB1
 go_wp2_with (have _t := H2; clear _t; refine Ye 42 rfl ?_; refine Yb ⟨1, 0, o, Yac (reW L { s with bd := false }), false, 0⟩ (w.heap.size + 1) rfl _ _ rfl rfl rfl (H2.out).r (H2.out).z ?_; intro w3 hw; have H3 := Yh_ ((H2.out).store hw); clear hw H2)
 exact bodyPost_ret (Yg rfl (Yi 8 (w.heap.size + 1) _ rfl H3.out.r) (Yk 9 rfl)) rfl ⟨rfl, H3.out.h, H3.out.u⟩
theorem Yoz (d g : Nat) (s : Rd) (v : Value) (L : List Int) (w : World) (hD : Yl w d v L g s) (o : Opd) (n : Int) (hn : n ≠ 0) :
  Calls Tryz.prog 76 #[.pointer (some ⟨d, 0, none⟩), .int .u8 199, .agg #[.int .i64 o.k, .int .i64 o.r, .int .u32 o.imm, .int .i64 o.b, .int .i64 o.x, .int .u32 o.sc], .int .i64 n] w (Yr d v L g w ⟨Ins.zero, false, { s with bd := true }⟩) := by
 have q0 : (n != 0) = true := by simpa using hn
 have c0 := Ya (Yc (.cells #[.int .i64 0, .int .i64 0, .int .i64 0, .int .i64 0, .int .u32 0, .int .i64 0, .int .i64 0, .int .u32 0, .int .i64 0, .int .i64 0, .int .u32 0, .int .i64 0, .int .i64 0, .int .u32 0, .bool false, .int .i64 0] 42) (Yc (.cells #[.int .i64 o.k, .int .i64 o.r, .int .u32 o.imm, .int .i64 o.b, .int .i64 o.x, .int .u32 o.sc] 40) hD.h))
 have f0 := Yh (Yc (.cells #[.int .i64 0, .int .i64 0, .int .i64 0, .int .i64 0, .int .u32 0, .int .i64 0, .int .i64 0, .int .u32 0, .int .i64 0, .int .i64 0, .int .u32 0, .int .i64 0, .int .i64 0, .int .u32 0, .bool false, .int .i64 0] 42) (Yc (.cells #[.int .i64 o.k, .int .i64 o.r, .int .u32 o.imm, .int .i64 o.b, .int .i64 o.x, .int .u32 o.sc] 40) hD.h))
 have H1 := Yh_ (RiM.start0 hD o)
 clear hD hn
 go_enter Tryz.func76, Tryz.ntmps76
 go_wp2_with (have _t := H1; clear _t; refine Ye 42 rfl ?_; refine Yb Ins.zero (w.heap.size + 1) rfl _ _ rfl rfl rfl (H1.out.setB true).r (H1.out.setB true).z ?_; intro w2 hw; have H2 := Yh_ ((H1.out.setB true).store hw); clear hw H1)
 exact bodyPost_ret (Yg rfl (Yi 8 (w.heap.size + 1) _ rfl H2.out.r) (Yk 9 rfl)) rfl ⟨rfl, H2.out.h, H2.out.u⟩
theorem Yqt (d g : Nat) (s : Rd) (v : Value) (L : List Int) (w : World) (hD : Yl w d v L g s) (o : Opd) (n : Int) (e0 : o.eqB (Yn 0) = true) (h4 : n = 4) :
  Calls Tryz.prog 76 #[.pointer (some ⟨d, 0, none⟩), .int .u8 217, .agg #[.int .i64 o.k, .int .i64 o.r, .int .u32 o.imm, .int .i64 o.b, .int .i64 o.x, .int .u32 o.sc], .int .i64 n] w (Yr d v L g w ⟨(Yaj 51), false, s⟩) := by
 have hmo : Tryz.prog.follows .mixedOrders = true := by kernel_rfl
 have hq0 := fun w : World => show (binOp .eql 40 (.agg #[.int .i64 o.k, .int .i64 o.r, .int .u32 o.imm, .int .i64 o.b, .int .i64 o.x, .int .u32 o.sc]) (.agg #[.int .i64 1, .int .i64 (0), .int .u32 0, .int .i64 0, .int .i64 0, .int .u32 0])).run Tryz.prog w = .ok (.bool true) w from by have := Yei o (Yn 0) w; rw [e0] at this; exact this
 subst h4
 have c0 := Ya (Yc (.cells #[.int .i64 0, .int .i64 0, .int .i64 0, .int .i64 0, .int .u32 0, .int .i64 0, .int .i64 0, .int .u32 0, .int .i64 0, .int .i64 0, .int .u32 0, .int .i64 0, .int .i64 0, .int .u32 0, .bool false, .int .i64 0] 42) (Yc (.cells #[.int .i64 o.k, .int .i64 o.r, .int .u32 o.imm, .int .i64 o.b, .int .i64 o.x, .int .u32 o.sc] 40) hD.h))
 have f0 := Yh (Yc (.cells #[.int .i64 0, .int .i64 0, .int .i64 0, .int .i64 0, .int .u32 0, .int .i64 0, .int .i64 0, .int .u32 0, .int .i64 0, .int .i64 0, .int .u32 0, .int .i64 0, .int .i64 0, .int .u32 0, .bool false, .int .i64 0] 42) (Yc (.cells #[.int .i64 o.k, .int .i64 o.r, .int .u32 o.imm, .int .i64 o.b, .int .i64 o.x, .int .u32 o.sc] 40) hD.h))
 have H1 := Yh_ (RiM.start0 hD o)
 clear hD e0
 go_enter Tryz.func76, Tryz.ntmps76
 go_wp2_with fail
 refine Yaq 2 (RiB w d v L g s s 999 999 Ins.zero (w.heap.size + 1) (w.heap.size) o) (fun _ _ => False) (by kernel_rfl) (by decide +kernel) (RiB.start (H1.out)) (fun _ _ _ h => h.elim) ?_
 simp only [List.take_succ_cons, List.take_zero, List.drop_succ_cons, List.drop_zero]
 apply Yf rfl rfl
 ·intro dd K hd hK w5 hB1
  have HB := Yh_ hB1
  have c1 := Ya HB.out.o; unfold Opd.cells at c1
  clear hB1
  go_wp2_with fail
  first
  |exact hK _ (HB.out.same _ (by decide) (by decide))
  |exact HB.out.same _ (by decide) (by decide)
 ·exact ⟨_, rfl⟩
 apply Yf rfl rfl
 ·intro dd K hd hK w5 hB1
  have HB := Yh_ hB1
  have c1 := Ya HB.out.o; unfold Opd.cells at c1
  clear hB1
  go_wp2_with (go_at_call 56; refine (Yba _ _).mono ?_; rintro e w' ⟨rfl, hu⟩; rw [show (Yn (0)).val = .agg #[.int .i64 1, .int .i64 (0), .int .u32 0, .int .i64 0, .int .i64 0, .int .u32 0] from rfl])
  first
  |exact hK _ (HB.out.quiet hu _ (by decide) (by decide))
  |exact HB.out.quiet hu _ (by decide) (by decide)
 ·exact ⟨_, rfl⟩
 refine Yal (fun _ w2 dd hall hB1 => ?_)
 obtain ⟨C2, hC, hI⟩ := hB1.fin (.inr rfl)
 clear hI
 have H2 := Yh_ hC
 have cm := Ya H2.out.o
 unfold Opd.cells at cm
 clear hC hall hB1
 go_wp2_with (have _t := H2; clear _t; refine Ye 42 rfl ?_; refine Yb (Yaj 51) (w.heap.size + 1) rfl _ _ rfl rfl rfl (H2.out).r (H2.out).z ?_; intro w3 hw; have H3 := Yh_ ((H2.out).store hw); clear hw H2)
 exact bodyPost_ret (Yg rfl (Yi 8 (w.heap.size + 1) _ rfl H3.out.r) (Yk 9 rfl)) rfl ⟨rfl, H3.out.h, H3.out.u⟩
theorem Ypv (d g : Nat) (s : Rd) (v : Value) (L : List Int) (w : World) (hD : Yl w d v L g s) (o : Opd) (n : Int) (e0 : o.eqB (Yn 0) = true) (h4 : n ≠ 4) (e1 : o.eqB (Yn 1) = false) :
  Calls Tryz.prog 76 #[.pointer (some ⟨d, 0, none⟩), .int .u8 217, .agg #[.int .i64 o.k, .int .i64 o.r, .int .u32 o.imm, .int .i64 o.b, .int .i64 o.x, .int .u32 o.sc], .int .i64 n] w (Yr d v L g w ⟨(Yaj 52), true, s⟩) := by
 have hmo : Tryz.prog.follows .mixedOrders = true := by kernel_rfl
 have hq0 := fun w : World => show (binOp .eql 40 (.agg #[.int .i64 o.k, .int .i64 o.r, .int .u32 o.imm, .int .i64 o.b, .int .i64 o.x, .int .u32 o.sc]) (.agg #[.int .i64 1, .int .i64 (0), .int .u32 0, .int .i64 0, .int .i64 0, .int .u32 0])).run Tryz.prog w = .ok (.bool true) w from by have := Yei o (Yn 0) w; rw [e0] at this; exact this
 have hq1 := fun w : World => show (binOp .neq 40 (.agg #[.int .i64 o.k, .int .i64 o.r, .int .u32 o.imm, .int .i64 o.b, .int .i64 o.x, .int .u32 o.sc]) (.agg #[.int .i64 1, .int .i64 (1), .int .u32 0, .int .i64 0, .int .i64 0, .int .u32 0])).run Tryz.prog w = .ok (.bool true) w from by have := Yf0 o (Yn 1) w; rw [e1] at this; exact this
 have q4 : (n == 4) = false := by simpa using h4
 have q5 : (n != 4) = true := by simpa using h4
 have c0 := Ya (Yc (.cells #[.int .i64 0, .int .i64 0, .int .i64 0, .int .i64 0, .int .u32 0, .int .i64 0, .int .i64 0, .int .u32 0, .int .i64 0, .int .i64 0, .int .u32 0, .int .i64 0, .int .i64 0, .int .u32 0, .bool false, .int .i64 0] 42) (Yc (.cells #[.int .i64 o.k, .int .i64 o.r, .int .u32 o.imm, .int .i64 o.b, .int .i64 o.x, .int .u32 o.sc] 40) hD.h))
 have f0 := Yh (Yc (.cells #[.int .i64 0, .int .i64 0, .int .i64 0, .int .i64 0, .int .u32 0, .int .i64 0, .int .i64 0, .int .u32 0, .int .i64 0, .int .i64 0, .int .u32 0, .int .i64 0, .int .i64 0, .int .u32 0, .bool false, .int .i64 0] 42) (Yc (.cells #[.int .i64 o.k, .int .i64 o.r, .int .u32 o.imm, .int .i64 o.b, .int .i64 o.x, .int .u32 o.sc] 40) hD.h))
 have H1 := Yh_ (RiM.start0 hD o)
 clear hD e0 e1 h4
 go_enter Tryz.func76, Tryz.ntmps76
 go_wp2_with fail
 refine Yaq 2 (RiB w d v L g s s 999 999 Ins.zero (w.heap.size + 1) (w.heap.size) o) (fun _ _ => False) (by kernel_rfl) (by decide +kernel) (RiB.start (H1.out)) (fun _ _ _ h => h.elim) ?_
 simp only [List.take_succ_cons, List.take_zero, List.drop_succ_cons, List.drop_zero]
 apply Yf rfl rfl
 ·intro dd K hd hK w5 hB1
  have HB := Yh_ hB1
  have c1 := Ya HB.out.o; unfold Opd.cells at c1
  clear hB1
  go_wp2_with fail
  first
  |exact hK _ (HB.out.same _ (by decide) (by decide))
  |exact HB.out.same _ (by decide) (by decide)
 ·exact ⟨_, rfl⟩
 apply Yf rfl rfl
 ·intro dd K hd hK w5 hB1
  have HB := Yh_ hB1
  have c1 := Ya HB.out.o; unfold Opd.cells at c1
  clear hB1
  go_wp2_with (go_at_call 56; refine (Yba _ _).mono ?_; rintro e w' ⟨rfl, hu⟩; rw [show (Yn (0)).val = .agg #[.int .i64 1, .int .i64 (0), .int .u32 0, .int .i64 0, .int .i64 0, .int .u32 0] from rfl])
  first
  |exact hK _ (HB.out.quiet hu _ (by decide) (by decide))
  |exact HB.out.quiet hu _ (by decide) (by decide)
 ·exact ⟨_, rfl⟩
 refine Yal (fun _ w2 dd hall hB1 => ?_)
 obtain ⟨C2, hC, hI⟩ := hB1.fin (.inr rfl)
 clear hI
 have H2 := Yh_ hC
 have cm := Ya H2.out.o
 unfold Opd.cells at cm
 clear hC hall hB1
 go_wp2_with fail
 refine Yaq 9 (RiB w d v L g s s 999 8 (Yaj 52) (w.heap.size + 1) (w.heap.size) o) (fun _ _ => False) (by kernel_rfl) (by decide +kernel) (RiB.start (H2.out)) (fun _ _ _ h => h.elim) ?_
 simp only [List.take_succ_cons, List.take_zero, List.drop_succ_cons, List.drop_zero]
 iterate 2
  apply Yf rfl rfl
  ·intro dd K hd hK w5 hB1
   have HB := Yh_ hB1
   have c1 := Ya HB.out.o; unfold Opd.cells at c1
   clear hB1
   go_wp2_with fail
   first
   |exact hK _ (HB.out.same _ (by decide) (by decide))
   |exact HB.out.same _ (by decide) (by decide)
  ·exact ⟨_, rfl⟩
 apply Yf rfl rfl
 ·intro dd K hd hK w5 hB1
  have HB := Yh_ hB1
  have c1 := Ya HB.out.o; unfold Opd.cells at c1
  clear hB1
  go_wp2_with (go_at_call 56; refine (Yba _ _).mono ?_; rintro e w' ⟨rfl, hu⟩; rw [show (Yn (1)).val = .agg #[.int .i64 1, .int .i64 (1), .int .u32 0, .int .i64 0, .int .i64 0, .int .u32 0] from rfl])
  first
  |exact hK _ (HB.out.quiet hu _ (by decide) (by decide))
  |exact HB.out.quiet hu _ (by decide) (by decide)
 ·exact ⟨_, rfl⟩
 iterate 2
  apply Yf rfl rfl
  ·intro dd K hd hK w5 hB1
   have HB := Yh_ hB1
   have c1 := Ya HB.out.o; unfold Opd.cells at c1
   clear hB1
   go_wp2_with fail
   first
   |exact hK _ (HB.out.same _ (by decide) (by decide))
   |exact HB.out.same _ (by decide) (by decide)
  ·exact ⟨_, rfl⟩
 iterate 2
  refine Yet rfl rfl (fun dd w hd hB => hB.same _ (by decide) (by decide)) ?_
 apply Yf rfl rfl
 ·intro dd K hd hK w5 hB1
  have HB := Yh_ hB1
  have c1 := Ya HB.out.o; unfold Opd.cells at c1
  clear hB1
  go_wp2_with fail
  first
  |exact hK _ (HB.out.same _ (by decide) (by decide))
  |exact HB.out.same _ (by decide) (by decide)
 ·exact ⟨_, rfl⟩
 apply Yf rfl rfl
 ·intro dd K hd hK w5 hB1
  obtain ⟨C, e2, e3, _⟩ := hB1.r
  refine Ya8 (Yaj 52) (w.heap.size + 1) _ _ rfl rfl rfl e2 e3 ?_
  intro w6 hw6
  exact hK _ (hB1.store (by decide) hw6)
 ·exact ⟨_, rfl⟩
 refine Yal (fun _ w3 dd hall hB1 => ?_)
 obtain ⟨C3, hC, hI⟩ := hB1.fin (.inr rfl)
 obtain rfl := hI (hall 8 (by decide))
 clear hI
 have H3 := Yh_ hC
 have cm := Ya H3.out.o
 unfold Opd.cells at cm
 clear hC hall hB1
 go_wp2_with fail
 go_wp2_with fail
 exact bodyPost_ret (Yg rfl (Yi 8 (w.heap.size + 1) _ rfl H3.out.r) (Yk 9 rfl)) rfl ⟨rfl, H3.out.h, H3.out.u⟩
theorem Ype (d g : Nat) (s : Rd) (v : Value) (L : List Int) (w : World) (hD : Yl w d v L g s) (o : Opd) (n : Int) (e0 : o.eqB (Yn 0) = false) (h4 : n = 4) (e1 : o.eqB (Yn 1) = true) :
  Calls Tryz.prog 76 #[.pointer (some ⟨d, 0, none⟩), .int .u8 217, .agg #[.int .i64 o.k, .int .i64 o.r, .int .u32 o.imm, .int .i64 o.b, .int .i64 o.x, .int .u32 o.sc], .int .i64 n] w (Yr d v L g w ⟨(Yaj 52), false, s⟩) := by
 have hmo : Tryz.prog.follows .mixedOrders = true := by kernel_rfl
 have hq0 := fun w : World => show (binOp .eql 40 (.agg #[.int .i64 o.k, .int .i64 o.r, .int .u32 o.imm, .int .i64 o.b, .int .i64 o.x, .int .u32 o.sc]) (.agg #[.int .i64 1, .int .i64 (0), .int .u32 0, .int .i64 0, .int .i64 0, .int .u32 0])).run Tryz.prog w = .ok (.bool false) w from by have := Yei o (Yn 0) w; rw [e0] at this; exact this
 have hq1 := fun w : World => show (binOp .neq 40 (.agg #[.int .i64 o.k, .int .i64 o.r, .int .u32 o.imm, .int .i64 o.b, .int .i64 o.x, .int .u32 o.sc]) (.agg #[.int .i64 1, .int .i64 (1), .int .u32 0, .int .i64 0, .int .i64 0, .int .u32 0])).run Tryz.prog w = .ok (.bool false) w from by have := Yf0 o (Yn 1) w; rw [e1] at this; exact this
 subst h4
 have c0 := Ya (Yc (.cells #[.int .i64 0, .int .i64 0, .int .i64 0, .int .i64 0, .int .u32 0, .int .i64 0, .int .i64 0, .int .u32 0, .int .i64 0, .int .i64 0, .int .u32 0, .int .i64 0, .int .i64 0, .int .u32 0, .bool false, .int .i64 0] 42) (Yc (.cells #[.int .i64 o.k, .int .i64 o.r, .int .u32 o.imm, .int .i64 o.b, .int .i64 o.x, .int .u32 o.sc] 40) hD.h))
 have f0 := Yh (Yc (.cells #[.int .i64 0, .int .i64 0, .int .i64 0, .int .i64 0, .int .u32 0, .int .i64 0, .int .i64 0, .int .u32 0, .int .i64 0, .int .i64 0, .int .u32 0, .int .i64 0, .int .i64 0, .int .u32 0, .bool false, .int .i64 0] 42) (Yc (.cells #[.int .i64 o.k, .int .i64 o.r, .int .u32 o.imm, .int .i64 o.b, .int .i64 o.x, .int .u32 o.sc] 40) hD.h))
 have H1 := Yh_ (RiM.start0 hD o)
 clear hD e0 e1
 go_enter Tryz.func76, Tryz.ntmps76
 go_wp2_with fail
 refine Yaq 2 (RiB w d v L g s s 999 999 Ins.zero (w.heap.size + 1) (w.heap.size) o) (fun _ _ => False) (by kernel_rfl) (by decide +kernel) (RiB.start (H1.out)) (fun _ _ _ h => h.elim) ?_
 simp only [List.take_succ_cons, List.take_zero, List.drop_succ_cons, List.drop_zero]
 apply Yf rfl rfl
 ·intro dd K hd hK w5 hB1
  have HB := Yh_ hB1
  have c1 := Ya HB.out.o; unfold Opd.cells at c1
  clear hB1
  go_wp2_with fail
  first
  |exact hK _ (HB.out.same _ (by decide) (by decide))
  |exact HB.out.same _ (by decide) (by decide)
 ·exact ⟨_, rfl⟩
 apply Yf rfl rfl
 ·intro dd K hd hK w5 hB1
  have HB := Yh_ hB1
  have c1 := Ya HB.out.o; unfold Opd.cells at c1
  clear hB1
  go_wp2_with (go_at_call 56; refine (Yba _ _).mono ?_; rintro e w' ⟨rfl, hu⟩; rw [show (Yn (0)).val = .agg #[.int .i64 1, .int .i64 (0), .int .u32 0, .int .i64 0, .int .i64 0, .int .u32 0] from rfl])
  first
  |exact hK _ (HB.out.quiet hu _ (by decide) (by decide))
  |exact HB.out.quiet hu _ (by decide) (by decide)
 ·exact ⟨_, rfl⟩
 refine Yal (fun _ w2 dd hall hB1 => ?_)
 obtain ⟨C2, hC, hI⟩ := hB1.fin (.inr rfl)
 clear hI
 have H2 := Yh_ hC
 have cm := Ya H2.out.o
 unfold Opd.cells at cm
 clear hC hall hB1
 go_wp2_with fail
 refine Yaq 9 (RiB w d v L g s s 999 8 (Yaj 52) (w.heap.size + 1) (w.heap.size) o) (fun _ _ => False) (by kernel_rfl) (by decide +kernel) (RiB.start (H2.out)) (fun _ _ _ h => h.elim) ?_
 simp only [List.take_succ_cons, List.take_zero, List.drop_succ_cons, List.drop_zero]
 iterate 2
  apply Yf rfl rfl
  ·intro dd K hd hK w5 hB1
   have HB := Yh_ hB1
   have c1 := Ya HB.out.o; unfold Opd.cells at c1
   clear hB1
   go_wp2_with fail
   first
   |exact hK _ (HB.out.same _ (by decide) (by decide))
   |exact HB.out.same _ (by decide) (by decide)
  ·exact ⟨_, rfl⟩
 apply Yf rfl rfl
 ·intro dd K hd hK w5 hB1
  have HB := Yh_ hB1
  have c1 := Ya HB.out.o; unfold Opd.cells at c1
  clear hB1
  go_wp2_with (go_at_call 56; refine (Yba _ _).mono ?_; rintro e w' ⟨rfl, hu⟩; rw [show (Yn (1)).val = .agg #[.int .i64 1, .int .i64 (1), .int .u32 0, .int .i64 0, .int .i64 0, .int .u32 0] from rfl])
  first
  |exact hK _ (HB.out.quiet hu _ (by decide) (by decide))
  |exact HB.out.quiet hu _ (by decide) (by decide)
 ·exact ⟨_, rfl⟩
 iterate 2
  apply Yf rfl rfl
  ·intro dd K hd hK w5 hB1
   have HB := Yh_ hB1
   have c1 := Ya HB.out.o; unfold Opd.cells at c1
   clear hB1
   go_wp2_with fail
   first
   |exact hK _ (HB.out.same _ (by decide) (by decide))
   |exact HB.out.same _ (by decide) (by decide)
  ·exact ⟨_, rfl⟩
 iterate 2
  apply Yf rfl rfl
  ·intro dd K hd hK w5 hB1
   have HB := Yh_ hB1
   have c1 := Ya HB.out.o; unfold Opd.cells at c1
   clear hB1
   go_wp2_with fail
   first
   |exact hK _ (HB.out.same _ (by decide) (by decide))
   |exact HB.out.same _ (by decide) (by decide)
  ·exact ⟨_, rfl⟩
 apply Yf rfl rfl
 ·intro dd K hd hK w5 hB1
  have HB := Yh_ hB1
  have c1 := Ya HB.out.o; unfold Opd.cells at c1
  clear hB1
  go_wp2_with fail
  first
  |exact hK _ (HB.out.same _ (by decide) (by decide))
  |exact HB.out.same _ (by decide) (by decide)
 ·exact ⟨_, rfl⟩
 apply Yf rfl rfl
 ·intro dd K hd hK w5 hB1
  obtain ⟨C, e2, e3, _⟩ := hB1.r
  refine Ya8 (Yaj 52) (w.heap.size + 1) _ _ rfl rfl rfl e2 e3 ?_
  intro w6 hw6
  exact hK _ (hB1.store (by decide) hw6)
 ·exact ⟨_, rfl⟩
 refine Yal (fun _ w3 dd hall hB1 => ?_)
 obtain ⟨C3, hC, hI⟩ := hB1.fin (.inr rfl)
 obtain rfl := hI (hall 8 (by decide))
 clear hI
 have H3 := Yh_ hC
 have cm := Ya H3.out.o
 unfold Opd.cells at cm
 clear hC hall hB1
 go_wp2_with fail
 go_wp2_with fail
 exact bodyPost_ret (Yg rfl (Yi 8 (w.heap.size + 1) _ rfl H3.out.r) (Yk 9 rfl)) rfl ⟨rfl, H3.out.h, H3.out.u⟩
theorem Yov (d g : Nat) (s : Rd) (v : Value) (L : List Int) (w : World) (hD : Yl w d v L g s) (o : Opd) (n : Int) (e0 : o.eqB (Yn 0) = false) (h4 : n ≠ 4) (e1 : o.eqB (Yn 1) = true) :
  Calls Tryz.prog 76 #[.pointer (some ⟨d, 0, none⟩), .int .u8 217, .agg #[.int .i64 o.k, .int .i64 o.r, .int .u32 o.imm, .int .i64 o.b, .int .i64 o.x, .int .u32 o.sc], .int .i64 n] w (Yr d v L g w ⟨(Yaj 52), true, s⟩) := by
 have hmo : Tryz.prog.follows .mixedOrders = true := by kernel_rfl
 have hq0 := fun w : World => show (binOp .eql 40 (.agg #[.int .i64 o.k, .int .i64 o.r, .int .u32 o.imm, .int .i64 o.b, .int .i64 o.x, .int .u32 o.sc]) (.agg #[.int .i64 1, .int .i64 (0), .int .u32 0, .int .i64 0, .int .i64 0, .int .u32 0])).run Tryz.prog w = .ok (.bool false) w from by have := Yei o (Yn 0) w; rw [e0] at this; exact this
 have hq1 := fun w : World => show (binOp .neq 40 (.agg #[.int .i64 o.k, .int .i64 o.r, .int .u32 o.imm, .int .i64 o.b, .int .i64 o.x, .int .u32 o.sc]) (.agg #[.int .i64 1, .int .i64 (1), .int .u32 0, .int .i64 0, .int .i64 0, .int .u32 0])).run Tryz.prog w = .ok (.bool false) w from by have := Yf0 o (Yn 1) w; rw [e1] at this; exact this
 have q4 : (n == 4) = false := by simpa using h4
 have q5 : (n != 4) = true := by simpa using h4
 have c0 := Ya (Yc (.cells #[.int .i64 0, .int .i64 0, .int .i64 0, .int .i64 0, .int .u32 0, .int .i64 0, .int .i64 0, .int .u32 0, .int .i64 0, .int .i64 0, .int .u32 0, .int .i64 0, .int .i64 0, .int .u32 0, .bool false, .int .i64 0] 42) (Yc (.cells #[.int .i64 o.k, .int .i64 o.r, .int .u32 o.imm, .int .i64 o.b, .int .i64 o.x, .int .u32 o.sc] 40) hD.h))
 have f0 := Yh (Yc (.cells #[.int .i64 0, .int .i64 0, .int .i64 0, .int .i64 0, .int .u32 0, .int .i64 0, .int .i64 0, .int .u32 0, .int .i64 0, .int .i64 0, .int .u32 0, .int .i64 0, .int .i64 0, .int .u32 0, .bool false, .int .i64 0] 42) (Yc (.cells #[.int .i64 o.k, .int .i64 o.r, .int .u32 o.imm, .int .i64 o.b, .int .i64 o.x, .int .u32 o.sc] 40) hD.h))
 have H1 := Yh_ (RiM.start0 hD o)
 clear hD e0 e1 h4
 go_enter Tryz.func76, Tryz.ntmps76
 go_wp2_with fail
 refine Yaq 2 (RiB w d v L g s s 999 999 Ins.zero (w.heap.size + 1) (w.heap.size) o) (fun _ _ => False) (by kernel_rfl) (by decide +kernel) (RiB.start (H1.out)) (fun _ _ _ h => h.elim) ?_
 simp only [List.take_succ_cons, List.take_zero, List.drop_succ_cons, List.drop_zero]
 apply Yf rfl rfl
 ·intro dd K hd hK w5 hB1
  have HB := Yh_ hB1
  have c1 := Ya HB.out.o; unfold Opd.cells at c1
  clear hB1
  go_wp2_with fail
  first
  |exact hK _ (HB.out.same _ (by decide) (by decide))
  |exact HB.out.same _ (by decide) (by decide)
 ·exact ⟨_, rfl⟩
 apply Yf rfl rfl
 ·intro dd K hd hK w5 hB1
  have HB := Yh_ hB1
  have c1 := Ya HB.out.o; unfold Opd.cells at c1
  clear hB1
  go_wp2_with (go_at_call 56; refine (Yba _ _).mono ?_; rintro e w' ⟨rfl, hu⟩; rw [show (Yn (0)).val = .agg #[.int .i64 1, .int .i64 (0), .int .u32 0, .int .i64 0, .int .i64 0, .int .u32 0] from rfl])
  first
  |exact hK _ (HB.out.quiet hu _ (by decide) (by decide))
  |exact HB.out.quiet hu _ (by decide) (by decide)
 ·exact ⟨_, rfl⟩
 refine Yal (fun _ w2 dd hall hB1 => ?_)
 obtain ⟨C2, hC, hI⟩ := hB1.fin (.inr rfl)
 clear hI
 have H2 := Yh_ hC
 have cm := Ya H2.out.o
 unfold Opd.cells at cm
 clear hC hall hB1
 go_wp2_with fail
 refine Yaq 9 (RiB w d v L g s s 999 8 (Yaj 52) (w.heap.size + 1) (w.heap.size) o) (fun _ _ => False) (by kernel_rfl) (by decide +kernel) (RiB.start (H2.out)) (fun _ _ _ h => h.elim) ?_
 simp only [List.take_succ_cons, List.take_zero, List.drop_succ_cons, List.drop_zero]
 iterate 2
  apply Yf rfl rfl
  ·intro dd K hd hK w5 hB1
   have HB := Yh_ hB1
   have c1 := Ya HB.out.o; unfold Opd.cells at c1
   clear hB1
   go_wp2_with fail
   first
   |exact hK _ (HB.out.same _ (by decide) (by decide))
   |exact HB.out.same _ (by decide) (by decide)
  ·exact ⟨_, rfl⟩
 apply Yf rfl rfl
 ·intro dd K hd hK w5 hB1
  have HB := Yh_ hB1
  have c1 := Ya HB.out.o; unfold Opd.cells at c1
  clear hB1
  go_wp2_with (go_at_call 56; refine (Yba _ _).mono ?_; rintro e w' ⟨rfl, hu⟩; rw [show (Yn (1)).val = .agg #[.int .i64 1, .int .i64 (1), .int .u32 0, .int .i64 0, .int .i64 0, .int .u32 0] from rfl])
  first
  |exact hK _ (HB.out.quiet hu _ (by decide) (by decide))
  |exact HB.out.quiet hu _ (by decide) (by decide)
 ·exact ⟨_, rfl⟩
 iterate 2
  apply Yf rfl rfl
  ·intro dd K hd hK w5 hB1
   have HB := Yh_ hB1
   have c1 := Ya HB.out.o; unfold Opd.cells at c1
   clear hB1
   go_wp2_with fail
   first
   |exact hK _ (HB.out.same _ (by decide) (by decide))
   |exact HB.out.same _ (by decide) (by decide)
  ·exact ⟨_, rfl⟩
 iterate 2
  apply Yf rfl rfl
  ·intro dd K hd hK w5 hB1
   have HB := Yh_ hB1
   have c1 := Ya HB.out.o; unfold Opd.cells at c1
   clear hB1
   go_wp2_with fail
   first
   |exact hK _ (HB.out.same _ (by decide) (by decide))
   |exact HB.out.same _ (by decide) (by decide)
  ·exact ⟨_, rfl⟩
 apply Yf rfl rfl
 ·intro dd K hd hK w5 hB1
  have HB := Yh_ hB1
  have c1 := Ya HB.out.o; unfold Opd.cells at c1
  clear hB1
  go_wp2_with fail
  first
  |exact hK _ (HB.out.same _ (by decide) (by decide))
  |exact HB.out.same _ (by decide) (by decide)
 ·exact ⟨_, rfl⟩
 apply Yf rfl rfl
 ·intro dd K hd hK w5 hB1
  obtain ⟨C, e2, e3, _⟩ := hB1.r
  refine Ya8 (Yaj 52) (w.heap.size + 1) _ _ rfl rfl rfl e2 e3 ?_
  intro w6 hw6
  exact hK _ (hB1.store (by decide) hw6)
 ·exact ⟨_, rfl⟩
 refine Yal (fun _ w3 dd hall hB1 => ?_)
 obtain ⟨C3, hC, hI⟩ := hB1.fin (.inr rfl)
 obtain rfl := hI (hall 8 (by decide))
 clear hI
 have H3 := Yh_ hC
 have cm := Ya H3.out.o
 unfold Opd.cells at cm
 clear hC hall hB1
 go_wp2_with fail
 go_wp2_with fail
 exact bodyPost_ret (Yg rfl (Yi 8 (w.heap.size + 1) _ rfl H3.out.r) (Yk 9 rfl)) rfl ⟨rfl, H3.out.h, H3.out.u⟩
theorem Yqs (d g : Nat) (s : Rd) (v : Value) (L : List Int) (w : World) (hD : Yl w d v L g s) (o : Opd) (n : Int) (e0 : o.eqB (Yn 0) = false) (h4 : n = 4) (e1 : o.eqB (Yn 1) = false) :
  Calls Tryz.prog 76 #[.pointer (some ⟨d, 0, none⟩), .int .u8 217, .agg #[.int .i64 o.k, .int .i64 o.r, .int .u32 o.imm, .int .i64 o.b, .int .i64 o.x, .int .u32 o.sc], .int .i64 n] w (Yr d v L g w ⟨(Yaj 52), true, s⟩) := by
 have hmo : Tryz.prog.follows .mixedOrders = true := by kernel_rfl
 have hq0 := fun w : World => show (binOp .eql 40 (.agg #[.int .i64 o.k, .int .i64 o.r, .int .u32 o.imm, .int .i64 o.b, .int .i64 o.x, .int .u32 o.sc]) (.agg #[.int .i64 1, .int .i64 (0), .int .u32 0, .int .i64 0, .int .i64 0, .int .u32 0])).run Tryz.prog w = .ok (.bool false) w from by have := Yei o (Yn 0) w; rw [e0] at this; exact this
 have hq1 := fun w : World => show (binOp .neq 40 (.agg #[.int .i64 o.k, .int .i64 o.r, .int .u32 o.imm, .int .i64 o.b, .int .i64 o.x, .int .u32 o.sc]) (.agg #[.int .i64 1, .int .i64 (1), .int .u32 0, .int .i64 0, .int .i64 0, .int .u32 0])).run Tryz.prog w = .ok (.bool true) w from by have := Yf0 o (Yn 1) w; rw [e1] at this; exact this
 subst h4
 have c0 := Ya (Yc (.cells #[.int .i64 0, .int .i64 0, .int .i64 0, .int .i64 0, .int .u32 0, .int .i64 0, .int .i64 0, .int .u32 0, .int .i64 0, .int .i64 0, .int .u32 0, .int .i64 0, .int .i64 0, .int .u32 0, .bool false, .int .i64 0] 42) (Yc (.cells #[.int .i64 o.k, .int .i64 o.r, .int .u32 o.imm, .int .i64 o.b, .int .i64 o.x, .int .u32 o.sc] 40) hD.h))
 have f0 := Yh (Yc (.cells #[.int .i64 0, .int .i64 0, .int .i64 0, .int .i64 0, .int .u32 0, .int .i64 0, .int .i64 0, .int .u32 0, .int .i64 0, .int .i64 0, .int .u32 0, .int .i64 0, .int .i64 0, .int .u32 0, .bool false, .int .i64 0] 42) (Yc (.cells #[.int .i64 o.k, .int .i64 o.r, .int .u32 o.imm, .int .i64 o.b, .int .i64 o.x, .int .u32 o.sc] 40) hD.h))
 have H1 := Yh_ (RiM.start0 hD o)
 clear hD e0 e1
 go_enter Tryz.func76, Tryz.ntmps76
 go_wp2_with fail
 refine Yaq 2 (RiB w d v L g s s 999 999 Ins.zero (w.heap.size + 1) (w.heap.size) o) (fun _ _ => False) (by kernel_rfl) (by decide +kernel) (RiB.start (H1.out)) (fun _ _ _ h => h.elim) ?_
 simp only [List.take_succ_cons, List.take_zero, List.drop_succ_cons, List.drop_zero]
 apply Yf rfl rfl
 ·intro dd K hd hK w5 hB1
  have HB := Yh_ hB1
  have c1 := Ya HB.out.o; unfold Opd.cells at c1
  clear hB1
  go_wp2_with fail
  first
  |exact hK _ (HB.out.same _ (by decide) (by decide))
  |exact HB.out.same _ (by decide) (by decide)
 ·exact ⟨_, rfl⟩
 apply Yf rfl rfl
 ·intro dd K hd hK w5 hB1
  have HB := Yh_ hB1
  have c1 := Ya HB.out.o; unfold Opd.cells at c1
  clear hB1
  go_wp2_with (go_at_call 56; refine (Yba _ _).mono ?_; rintro e w' ⟨rfl, hu⟩; rw [show (Yn (0)).val = .agg #[.int .i64 1, .int .i64 (0), .int .u32 0, .int .i64 0, .int .i64 0, .int .u32 0] from rfl])
  first
  |exact hK _ (HB.out.quiet hu _ (by decide) (by decide))
  |exact HB.out.quiet hu _ (by decide) (by decide)
 ·exact ⟨_, rfl⟩
 refine Yal (fun _ w2 dd hall hB1 => ?_)
 obtain ⟨C2, hC, hI⟩ := hB1.fin (.inr rfl)
 clear hI
 have H2 := Yh_ hC
 have cm := Ya H2.out.o
 unfold Opd.cells at cm
 clear hC hall hB1
 go_wp2_with fail
 refine Yaq 9 (RiB w d v L g s s 999 8 (Yaj 52) (w.heap.size + 1) (w.heap.size) o) (fun _ _ => False) (by kernel_rfl) (by decide +kernel) (RiB.start (H2.out)) (fun _ _ _ h => h.elim) ?_
 simp only [List.take_succ_cons, List.take_zero, List.drop_succ_cons, List.drop_zero]
 iterate 2
  apply Yf rfl rfl
  ·intro dd K hd hK w5 hB1
   have HB := Yh_ hB1
   have c1 := Ya HB.out.o; unfold Opd.cells at c1
   clear hB1
   go_wp2_with fail
   first
   |exact hK _ (HB.out.same _ (by decide) (by decide))
   |exact HB.out.same _ (by decide) (by decide)
  ·exact ⟨_, rfl⟩
 apply Yf rfl rfl
 ·intro dd K hd hK w5 hB1
  have HB := Yh_ hB1
  have c1 := Ya HB.out.o; unfold Opd.cells at c1
  clear hB1
  go_wp2_with (go_at_call 56; refine (Yba _ _).mono ?_; rintro e w' ⟨rfl, hu⟩; rw [show (Yn (1)).val = .agg #[.int .i64 1, .int .i64 (1), .int .u32 0, .int .i64 0, .int .i64 0, .int .u32 0] from rfl])
  first
  |exact hK _ (HB.out.quiet hu _ (by decide) (by decide))
  |exact HB.out.quiet hu _ (by decide) (by decide)
 ·exact ⟨_, rfl⟩
 iterate 2
  apply Yf rfl rfl
  ·intro dd K hd hK w5 hB1
   have HB := Yh_ hB1
   have c1 := Ya HB.out.o; unfold Opd.cells at c1
   clear hB1
   go_wp2_with fail
   first
   |exact hK _ (HB.out.same _ (by decide) (by decide))
   |exact HB.out.same _ (by decide) (by decide)
  ·exact ⟨_, rfl⟩
 iterate 2
  refine Yet rfl rfl (fun dd w hd hB => hB.same _ (by decide) (by decide)) ?_
 apply Yf rfl rfl
 ·intro dd K hd hK w5 hB1
  have HB := Yh_ hB1
  have c1 := Ya HB.out.o; unfold Opd.cells at c1
  clear hB1
  go_wp2_with fail
  first
  |exact hK _ (HB.out.same _ (by decide) (by decide))
  |exact HB.out.same _ (by decide) (by decide)
 ·exact ⟨_, rfl⟩
 apply Yf rfl rfl
 ·intro dd K hd hK w5 hB1
  obtain ⟨C, e2, e3, _⟩ := hB1.r
  refine Ya8 (Yaj 52) (w.heap.size + 1) _ _ rfl rfl rfl e2 e3 ?_
  intro w6 hw6
  exact hK _ (hB1.store (by decide) hw6)
 ·exact ⟨_, rfl⟩
 refine Yal (fun _ w3 dd hall hB1 => ?_)
 obtain ⟨C3, hC, hI⟩ := hB1.fin (.inr rfl)
 obtain rfl := hI (hall 8 (by decide))
 clear hI
 have H3 := Yh_ hC
 have cm := Ya H3.out.o
 unfold Opd.cells at cm
 clear hC hall hB1
 go_wp2_with fail
 go_wp2_with fail
 exact bodyPost_ret (Yg rfl (Yi 8 (w.heap.size + 1) _ rfl H3.out.r) (Yk 9 rfl)) rfl ⟨rfl, H3.out.h, H3.out.u⟩
theorem Yp9 (d g : Nat) (s : Rd) (v : Value) (L : List Int) (w : World) (hD : Yl w d v L g s) (o : Opd) (n : Int) (e0 : o.eqB (Yn 0) = false) (h4 : n ≠ 4) (e1 : o.eqB (Yn 1) = false) :
  Calls Tryz.prog 76 #[.pointer (some ⟨d, 0, none⟩), .int .u8 217, .agg #[.int .i64 o.k, .int .i64 o.r, .int .u32 o.imm, .int .i64 o.b, .int .i64 o.x, .int .u32 o.sc], .int .i64 n] w (Yr d v L g w ⟨(Yaj 52), true, s⟩) := by
 have hmo : Tryz.prog.follows .mixedOrders = true := by kernel_rfl
 have hq0 := fun w : World => show (binOp .eql 40 (.agg #[.int .i64 o.k, .int .i64 o.r, .int .u32 o.imm, .int .i64 o.b, .int .i64 o.x, .int .u32 o.sc]) (.agg #[.int .i64 1, .int .i64 (0), .int .u32 0, .int .i64 0, .int .i64 0, .int .u32 0])).run Tryz.prog w = .ok (.bool false) w from by have := Yei o (Yn 0) w; rw [e0] at this; exact this
 have hq1 := fun w : World => show (binOp .neq 40 (.agg #[.int .i64 o.k, .int .i64 o.r, .int .u32 o.imm, .int .i64 o.b, .int .i64 o.x, .int .u32 o.sc]) (.agg #[.int .i64 1, .int .i64 (1), .int .u32 0, .int .i64 0, .int .i64 0, .int .u32 0])).run Tryz.prog w = .ok (.bool true) w from by have := Yf0 o (Yn 1) w; rw [e1] at this; exact this
 have q4 : (n == 4) = false := by simpa using h4
 have q5 : (n != 4) = true := by simpa using h4
 have c0 := Ya (Yc (.cells #[.int .i64 0, .int .i64 0, .int .i64 0, .int .i64 0, .int .u32 0, .int .i64 0, .int .i64 0, .int .u32 0, .int .i64 0, .int .i64 0, .int .u32 0, .int .i64 0, .int .i64 0, .int .u32 0, .bool false, .int .i64 0] 42) (Yc (.cells #[.int .i64 o.k, .int .i64 o.r, .int .u32 o.imm, .int .i64 o.b, .int .i64 o.x, .int .u32 o.sc] 40) hD.h))
 have f0 := Yh (Yc (.cells #[.int .i64 0, .int .i64 0, .int .i64 0, .int .i64 0, .int .u32 0, .int .i64 0, .int .i64 0, .int .u32 0, .int .i64 0, .int .i64 0, .int .u32 0, .int .i64 0, .int .i64 0, .int .u32 0, .bool false, .int .i64 0] 42) (Yc (.cells #[.int .i64 o.k, .int .i64 o.r, .int .u32 o.imm, .int .i64 o.b, .int .i64 o.x, .int .u32 o.sc] 40) hD.h))
 have H1 := Yh_ (RiM.start0 hD o)
 clear hD e0 e1 h4
 go_enter Tryz.func76, Tryz.ntmps76
 go_wp2_with fail
 refine Yaq 2 (RiB w d v L g s s 999 999 Ins.zero (w.heap.size + 1) (w.heap.size) o) (fun _ _ => False) (by kernel_rfl) (by decide +kernel) (RiB.start (H1.out)) (fun _ _ _ h => h.elim) ?_
 simp only [List.take_succ_cons, List.take_zero, List.drop_succ_cons, List.drop_zero]
 apply Yf rfl rfl
 ·intro dd K hd hK w5 hB1
  have HB := Yh_ hB1
  have c1 := Ya HB.out.o; unfold Opd.cells at c1
  clear hB1
  go_wp2_with fail
  first
  |exact hK _ (HB.out.same _ (by decide) (by decide))
  |exact HB.out.same _ (by decide) (by decide)
 ·exact ⟨_, rfl⟩
 apply Yf rfl rfl
 ·intro dd K hd hK w5 hB1
  have HB := Yh_ hB1
  have c1 := Ya HB.out.o; unfold Opd.cells at c1
  clear hB1
  go_wp2_with (go_at_call 56; refine (Yba _ _).mono ?_; rintro e w' ⟨rfl, hu⟩; rw [show (Yn (0)).val = .agg #[.int .i64 1, .int .i64 (0), .int .u32 0, .int .i64 0, .int .i64 0, .int .u32 0] from rfl])
  first
  |exact hK _ (HB.out.quiet hu _ (by decide) (by decide))
  |exact HB.out.quiet hu _ (by decide) (by decide)
 ·exact ⟨_, rfl⟩
 refine Yal (fun _ w2 dd hall hB1 => ?_)
 obtain ⟨C2, hC, hI⟩ := hB1.fin (.inr rfl)
 clear hI
 have H2 := Yh_ hC
 have cm := Ya H2.out.o
 unfold Opd.cells at cm
 clear hC hall hB1
 go_wp2_with fail
 refine Yaq 9 (RiB w d v L g s s 999 8 (Yaj 52) (w.heap.size + 1) (w.heap.size) o) (fun _ _ => False) (by kernel_rfl) (by decide +kernel) (RiB.start (H2.out)) (fun _ _ _ h => h.elim) ?_
 simp only [List.take_succ_cons, List.take_zero, List.drop_succ_cons, List.drop_zero]
 iterate 2
  apply Yf rfl rfl
  ·intro dd K hd hK w5 hB1
   have HB := Yh_ hB1
   have c1 := Ya HB.out.o; unfold Opd.cells at c1
   clear hB1
   go_wp2_with fail
   first
   |exact hK _ (HB.out.same _ (by decide) (by decide))
   |exact HB.out.same _ (by decide) (by decide)
  ·exact ⟨_, rfl⟩
 apply Yf rfl rfl
 ·intro dd K hd hK w5 hB1
  have HB := Yh_ hB1
  have c1 := Ya HB.out.o; unfold Opd.cells at c1
  clear hB1
  go_wp2_with (go_at_call 56; refine (Yba _ _).mono ?_; rintro e w' ⟨rfl, hu⟩; rw [show (Yn (1)).val = .agg #[.int .i64 1, .int .i64 (1), .int .u32 0, .int .i64 0, .int .i64 0, .int .u32 0] from rfl])
  first
  |exact hK _ (HB.out.quiet hu _ (by decide) (by decide))
  |exact HB.out.quiet hu _ (by decide) (by decide)
 ·exact ⟨_, rfl⟩
 iterate 2
  apply Yf rfl rfl
  ·intro dd K hd hK w5 hB1
   have HB := Yh_ hB1
   have c1 := Ya HB.out.o; unfold Opd.cells at c1
   clear hB1
   go_wp2_with fail
   first
   |exact hK _ (HB.out.same _ (by decide) (by decide))
   |exact HB.out.same _ (by decide) (by decide)
  ·exact ⟨_, rfl⟩
 iterate 2
  refine Yet rfl rfl (fun dd w hd hB => hB.same _ (by decide) (by decide)) ?_
 apply Yf rfl rfl
 ·intro dd K hd hK w5 hB1
  have HB := Yh_ hB1
  have c1 := Ya HB.out.o; unfold Opd.cells at c1
  clear hB1
  go_wp2_with fail
  first
  |exact hK _ (HB.out.same _ (by decide) (by decide))
  |exact HB.out.same _ (by decide) (by decide)
 ·exact ⟨_, rfl⟩
 apply Yf rfl rfl
 ·intro dd K hd hK w5 hB1
  obtain ⟨C, e2, e3, _⟩ := hB1.r
  refine Ya8 (Yaj 52) (w.heap.size + 1) _ _ rfl rfl rfl e2 e3 ?_
  intro w6 hw6
  exact hK _ (hB1.store (by decide) hw6)
 ·exact ⟨_, rfl⟩
 refine Yal (fun _ w3 dd hall hB1 => ?_)
 obtain ⟨C3, hC, hI⟩ := hB1.fin (.inr rfl)
 obtain rfl := hI (hall 8 (by decide))
 clear hI
 have H3 := Yh_ hC
 have cm := Ya H3.out.o
 unfold Opd.cells at cm
 clear hC hall hB1
 go_wp2_with fail
 go_wp2_with fail
 exact bodyPost_ret (Yg rfl (Yi 8 (w.heap.size + 1) _ rfl H3.out.r) (Yk 9 rfl)) rfl ⟨rfl, H3.out.h, H3.out.u⟩
theorem Yo6 (d g : Nat) (s : Rd) (v : Value) (L : List Int) (w : World) (hD : Yl w d v L g s) (o : Opd) (n : Int) (hn8 : 0 ≤ n ∧ n < 8) (hz : Yar n = 0) :
  Calls Tryz.prog 76 #[.pointer (some ⟨d, 0, none⟩), .int .u8 220, .agg #[.int .i64 o.k, .int .i64 o.r, .int .u32 o.imm, .int .i64 o.b, .int .i64 o.x, .int .u32 o.sc], .int .i64 n] w (Yr d v L g w ⟨⟨0, 0, o, Opd.none, false, 0⟩, true, s⟩) := by
 have hmo : Tryz.prog.follows .mixedOrders = true := by kernel_rfl
 have hix := fun w : World => Ydq hn8.1 hn8.2 w
 rw [hz] at hix
 have q0 : Yar n = 0 := hz
 have c0 := Ya (Yc (.cells #[.int .i64 0, .int .i64 0, .int .i64 0, .int .i64 0, .int .u32 0, .int .i64 0, .int .i64 0, .int .u32 0, .int .i64 0, .int .i64 0, .int .u32 0, .int .i64 0, .int .i64 0, .int .u32 0, .bool false, .int .i64 0] 42) (Yc (.cells #[.int .i64 o.k, .int .i64 o.r, .int .u32 o.imm, .int .i64 o.b, .int .i64 o.x, .int .u32 o.sc] 40) hD.h))
 have f0 := Yh (Yc (.cells #[.int .i64 0, .int .i64 0, .int .i64 0, .int .i64 0, .int .u32 0, .int .i64 0, .int .i64 0, .int .u32 0, .int .i64 0, .int .i64 0, .int .u32 0, .int .i64 0, .int .i64 0, .int .u32 0, .bool false, .int .i64 0] 42) (Yc (.cells #[.int .i64 o.k, .int .i64 o.r, .int .u32 o.imm, .int .i64 o.b, .int .i64 o.x, .int .u32 o.sc] 40) hD.h))
 have H1 := Yh_ (RiM.start0 hD o)
 clear hD hn8 hz
 go_enter Tryz.func76, Tryz.ntmps76
 go_wp2_with fail
 refine Yaq 15 (RiB w d v L g s s 999 14 ⟨0, 0, o, Opd.none, false, 0⟩ (w.heap.size + 1) (w.heap.size) o) (fun _ _ => False) (by kernel_rfl) (by decide +kernel) (RiB.start (H1.out)) (fun _ _ _ h => h.elim) ?_
 simp only [List.take_succ_cons, List.take_zero, List.drop_succ_cons, List.drop_zero]
 apply Yf rfl rfl
 ·intro dd K hd hK w5 hB1
  have HB := Yh_ hB1
  have c1 := Ya HB.out.o; unfold Opd.cells at c1
  clear hB1
  go_wp2_with (go_at_call 94; refine (Ydd _).mono ?_; rintro e w' ⟨rfl, hu⟩)
  first
  |exact hK _ (HB.out.quiet hu _ (by decide) (by decide))
  |exact HB.out.quiet hu _ (by decide) (by decide)
 ·exact ⟨_, rfl⟩
 iterate 4
  apply Yf rfl rfl
  ·intro dd K hd hK w5 hB1
   have HB := Yh_ hB1
   have c1 := Ya HB.out.o; unfold Opd.cells at c1
   clear hB1
   go_wp2_with fail
   first
   |exact hK _ (HB.out.same _ (by decide) (by decide))
   |exact HB.out.same _ (by decide) (by decide)
  ·exact ⟨_, rfl⟩
 apply Yf rfl rfl
 ·intro dd K hd hK w5 hB1
  have HB := Yh_ hB1
  have c1 := Ya HB.out.o; unfold Opd.cells at c1
  clear hB1
  go_wp2_with (go_at_call 94; refine (Ydd _).mono ?_; rintro e w' ⟨rfl, hu⟩)
  first
  |exact hK _ (HB.out.quiet hu _ (by decide) (by decide))
  |exact HB.out.quiet hu _ (by decide) (by decide)
 ·exact ⟨_, rfl⟩
 iterate 4
  apply Yf rfl rfl
  ·intro dd K hd hK w5 hB1
   have HB := Yh_ hB1
   have c1 := Ya HB.out.o; unfold Opd.cells at c1
   clear hB1
   go_wp2_with fail
   first
   |exact hK _ (HB.out.same _ (by decide) (by decide))
   |exact HB.out.same _ (by decide) (by decide)
  ·exact ⟨_, rfl⟩
 iterate 3
  refine Yet rfl rfl (fun dd w hd hB => hB.same _ (by decide) (by decide)) ?_
 apply Yf rfl rfl
 ·intro dd K hd hK w5 hB1
  have HB := Yh_ hB1
  have c1 := Ya HB.out.o; unfold Opd.cells at c1
  clear hB1
  go_wp2_with fail
  first
  |exact hK _ (HB.out.same _ (by decide) (by decide))
  |exact HB.out.same _ (by decide) (by decide)
 ·exact ⟨_, rfl⟩
 apply Yf rfl rfl
 ·intro dd K hd hK w5 hB1
  obtain ⟨C, e2, e3, _⟩ := hB1.r
  refine Ya8 ⟨0, 0, o, Opd.none, false, 0⟩ (w.heap.size + 1) _ _ rfl rfl rfl e2 e3 ?_
  intro w6 hw6
  exact hK _ (hB1.store (by decide) hw6)
 ·exact ⟨_, rfl⟩
 refine Yal (fun _ w2 dd hall hB1 => ?_)
 obtain ⟨C2, hC, hI⟩ := hB1.fin (.inr rfl)
 obtain rfl := hI (hall 14 (by decide))
 clear hI
 have H2 := Yh_ hC
 have cm := Ya H2.out.o
 unfold Opd.cells at cm
 clear hC hall hB1
 go_wp2_with fail
 go_wp2_with fail
 exact bodyPost_ret (Yg rfl (Yi 8 (w.heap.size + 1) _ rfl H2.out.r) (Yk 9 rfl)) rfl ⟨rfl, H2.out.h, H2.out.u⟩
theorem Yo4 (d g : Nat) (s : Rd) (v : Value) (L : List Int) (w : World) (hD : Yl w d v L g s) (o : Opd) (n : Int) (hn8 : 0 ≤ n ∧ n < 8) (hz : Yar n ≠ 0) (hk : o.k = 1) :
  Calls Tryz.prog 76 #[.pointer (some ⟨d, 0, none⟩), .int .u8 220, .agg #[.int .i64 o.k, .int .i64 o.r, .int .u32 o.imm, .int .i64 o.b, .int .i64 o.x, .int .u32 o.sc], .int .i64 n] w (Yr d v L g w ⟨⟨Yar n, 0, o, Opd.none, false, 0⟩, true, s⟩) := by
 have hmo : Tryz.prog.follows .mixedOrders = true := by kernel_rfl
 have hix := fun w : World => Ydq hn8.1 hn8.2 w
 have q0 : (Yar n == 0) = false := by simpa using hz
 have q1 : (o.k == 1) = true := by simpa using hk
 have c0 := Ya (Yc (.cells #[.int .i64 0, .int .i64 0, .int .i64 0, .int .i64 0, .int .u32 0, .int .i64 0, .int .i64 0, .int .u32 0, .int .i64 0, .int .i64 0, .int .u32 0, .int .i64 0, .int .i64 0, .int .u32 0, .bool false, .int .i64 0] 42) (Yc (.cells #[.int .i64 o.k, .int .i64 o.r, .int .u32 o.imm, .int .i64 o.b, .int .i64 o.x, .int .u32 o.sc] 40) hD.h))
 have f0 := Yh (Yc (.cells #[.int .i64 0, .int .i64 0, .int .i64 0, .int .i64 0, .int .u32 0, .int .i64 0, .int .i64 0, .int .u32 0, .int .i64 0, .int .i64 0, .int .u32 0, .int .i64 0, .int .i64 0, .int .u32 0, .bool false, .int .i64 0] 42) (Yc (.cells #[.int .i64 o.k, .int .i64 o.r, .int .u32 o.imm, .int .i64 o.b, .int .i64 o.x, .int .u32 o.sc] 40) hD.h))
 have H1 := Yh_ (RiM.start0 hD o)
 clear hD hn8 hz hk
 go_enter Tryz.func76, Tryz.ntmps76
 go_wp2_with fail
 refine Yaq 15 (RiB w d v L g s s 999 14 ⟨Yar n, 0, o, Opd.none, false, 0⟩ (w.heap.size + 1) (w.heap.size) o) (fun _ _ => False) (by kernel_rfl) (by decide +kernel) (RiB.start (H1.out)) (fun _ _ _ h => h.elim) ?_
 simp only [List.take_succ_cons, List.take_zero, List.drop_succ_cons, List.drop_zero]
 apply Yf rfl rfl
 ·intro dd K hd hK w5 hB1
  have HB := Yh_ hB1
  have c1 := Ya HB.out.o; unfold Opd.cells at c1
  clear hB1
  go_wp2_with (go_at_call 94; refine (Ydd _).mono ?_; rintro e w' ⟨rfl, hu⟩)
  first
  |exact hK _ (HB.out.quiet hu _ (by decide) (by decide))
  |exact HB.out.quiet hu _ (by decide) (by decide)
 ·exact ⟨_, rfl⟩
 iterate 4
  apply Yf rfl rfl
  ·intro dd K hd hK w5 hB1
   have HB := Yh_ hB1
   have c1 := Ya HB.out.o; unfold Opd.cells at c1
   clear hB1
   go_wp2_with fail
   first
   |exact hK _ (HB.out.same _ (by decide) (by decide))
   |exact HB.out.same _ (by decide) (by decide)
  ·exact ⟨_, rfl⟩
 apply Yf rfl rfl
 ·intro dd K hd hK w5 hB1
  have HB := Yh_ hB1
  have c1 := Ya HB.out.o; unfold Opd.cells at c1
  clear hB1
  go_wp2_with (go_at_call 94; refine (Ydd _).mono ?_; rintro e w' ⟨rfl, hu⟩)
  first
  |exact hK _ (HB.out.quiet hu _ (by decide) (by decide))
  |exact HB.out.quiet hu _ (by decide) (by decide)
 ·exact ⟨_, rfl⟩
 iterate 4
  apply Yf rfl rfl
  ·intro dd K hd hK w5 hB1
   have HB := Yh_ hB1
   have c1 := Ya HB.out.o; unfold Opd.cells at c1
   clear hB1
   go_wp2_with fail
   first
   |exact hK _ (HB.out.same _ (by decide) (by decide))
   |exact HB.out.same _ (by decide) (by decide)
  ·exact ⟨_, rfl⟩
 iterate 3
  apply Yf rfl rfl
  ·intro dd K hd hK w5 hB1
   have HB := Yh_ hB1
   have c1 := Ya HB.out.o; unfold Opd.cells at c1
   clear hB1
   go_wp2_with fail
   first
   |exact hK _ (HB.out.same _ (by decide) (by decide))
   |exact HB.out.same _ (by decide) (by decide)
  ·exact ⟨_, rfl⟩
 apply Yf rfl rfl
 ·intro dd K hd hK w5 hB1
  have HB := Yh_ hB1
  have c1 := Ya HB.out.o; unfold Opd.cells at c1
  clear hB1
  go_wp2_with fail
  first
  |exact hK _ (HB.out.same _ (by decide) (by decide))
  |exact HB.out.same _ (by decide) (by decide)
 ·exact ⟨_, rfl⟩
 apply Yf rfl rfl
 ·intro dd K hd hK w5 hB1
  obtain ⟨C, e2, e3, _⟩ := hB1.r
  refine Ya8 ⟨Yar n, 0, o, Opd.none, false, 0⟩ (w.heap.size + 1) _ _ rfl rfl rfl e2 e3 ?_
  intro w6 hw6
  exact hK _ (hB1.store (by decide) hw6)
 ·exact ⟨_, rfl⟩
 refine Yal (fun _ w2 dd hall hB1 => ?_)
 obtain ⟨C2, hC, hI⟩ := hB1.fin (.inr rfl)
 obtain rfl := hI (hall 14 (by decide))
 clear hI
 have H2 := Yh_ hC
 have cm := Ya H2.out.o
 unfold Opd.cells at cm
 clear hC hall hB1
 go_wp2_with fail
 go_wp2_with fail
 exact bodyPost_ret (Yg rfl (Yi 8 (w.heap.size + 1) _ rfl H2.out.r) (Yk 9 rfl)) rfl ⟨rfl, H2.out.h, H2.out.u⟩
theorem Yo0 (d g : Nat) (s : Rd) (v : Value) (L : List Int) (w : World) (hD : Yl w d v L g s) (o : Opd) (n : Int) (hn8 : 0 ≤ n ∧ n < 8) (hz : Yar n ≠ 0) (hk : o.k ≠ 1) :
  Calls Tryz.prog 76 #[.pointer (some ⟨d, 0, none⟩), .int .u8 220, .agg #[.int .i64 o.k, .int .i64 o.r, .int .u32 o.imm, .int .i64 o.b, .int .i64 o.x, .int .u32 o.sc], .int .i64 n] w (Yr d v L g w ⟨⟨Yar n, 0, o, Opd.none, false, 0⟩, false, s⟩) := by
 have hmo : Tryz.prog.follows .mixedOrders = true := by kernel_rfl
 have hix := fun w : World => Ydq hn8.1 hn8.2 w
 have q0 : (Yar n == 0) = false := by simpa using hz
 have q1 : (o.k == 1) = false := by simpa using hk
 have c0 := Ya (Yc (.cells #[.int .i64 0, .int .i64 0, .int .i64 0, .int .i64 0, .int .u32 0, .int .i64 0, .int .i64 0, .int .u32 0, .int .i64 0, .int .i64 0, .int .u32 0, .int .i64 0, .int .i64 0, .int .u32 0, .bool false, .int .i64 0] 42) (Yc (.cells #[.int .i64 o.k, .int .i64 o.r, .int .u32 o.imm, .int .i64 o.b, .int .i64 o.x, .int .u32 o.sc] 40) hD.h))
 have f0 := Yh (Yc (.cells #[.int .i64 0, .int .i64 0, .int .i64 0, .int .i64 0, .int .u32 0, .int .i64 0, .int .i64 0, .int .u32 0, .int .i64 0, .int .i64 0, .int .u32 0, .int .i64 0, .int .i64 0, .int .u32 0, .bool false, .int .i64 0] 42) (Yc (.cells #[.int .i64 o.k, .int .i64 o.r, .int .u32 o.imm, .int .i64 o.b, .int .i64 o.x, .int .u32 o.sc] 40) hD.h))
 have H1 := Yh_ (RiM.start0 hD o)
 clear hD hn8 hz hk
 go_enter Tryz.func76, Tryz.ntmps76
 go_wp2_with fail
 refine Yaq 15 (RiB w d v L g s s 999 14 ⟨Yar n, 0, o, Opd.none, false, 0⟩ (w.heap.size + 1) (w.heap.size) o) (fun _ _ => False) (by kernel_rfl) (by decide +kernel) (RiB.start (H1.out)) (fun _ _ _ h => h.elim) ?_
 simp only [List.take_succ_cons, List.take_zero, List.drop_succ_cons, List.drop_zero]
 apply Yf rfl rfl
 ·intro dd K hd hK w5 hB1
  have HB := Yh_ hB1
  have c1 := Ya HB.out.o; unfold Opd.cells at c1
  clear hB1
  go_wp2_with (go_at_call 94; refine (Ydd _).mono ?_; rintro e w' ⟨rfl, hu⟩)
  first
  |exact hK _ (HB.out.quiet hu _ (by decide) (by decide))
  |exact HB.out.quiet hu _ (by decide) (by decide)
 ·exact ⟨_, rfl⟩
 iterate 4
  apply Yf rfl rfl
  ·intro dd K hd hK w5 hB1
   have HB := Yh_ hB1
   have c1 := Ya HB.out.o; unfold Opd.cells at c1
   clear hB1
   go_wp2_with fail
   first
   |exact hK _ (HB.out.same _ (by decide) (by decide))
   |exact HB.out.same _ (by decide) (by decide)
  ·exact ⟨_, rfl⟩
 apply Yf rfl rfl
 ·intro dd K hd hK w5 hB1
  have HB := Yh_ hB1
  have c1 := Ya HB.out.o; unfold Opd.cells at c1
  clear hB1
  go_wp2_with (go_at_call 94; refine (Ydd _).mono ?_; rintro e w' ⟨rfl, hu⟩)
  first
  |exact hK _ (HB.out.quiet hu _ (by decide) (by decide))
  |exact HB.out.quiet hu _ (by decide) (by decide)
 ·exact ⟨_, rfl⟩
 iterate 4
  apply Yf rfl rfl
  ·intro dd K hd hK w5 hB1
   have HB := Yh_ hB1
   have c1 := Ya HB.out.o; unfold Opd.cells at c1
   clear hB1
   go_wp2_with fail
   first
   |exact hK _ (HB.out.same _ (by decide) (by decide))
   |exact HB.out.same _ (by decide) (by decide)
  ·exact ⟨_, rfl⟩
 iterate 3
  apply Yf rfl rfl
  ·intro dd K hd hK w5 hB1
   have HB := Yh_ hB1
   have c1 := Ya HB.out.o; unfold Opd.cells at c1
   clear hB1
   go_wp2_with fail
   first
   |exact hK _ (HB.out.same _ (by decide) (by decide))
   |exact HB.out.same _ (by decide) (by decide)
  ·exact ⟨_, rfl⟩
 apply Yf rfl rfl
 ·intro dd K hd hK w5 hB1
  have HB := Yh_ hB1
  have c1 := Ya HB.out.o; unfold Opd.cells at c1
  clear hB1
  go_wp2_with fail
  first
  |exact hK _ (HB.out.same _ (by decide) (by decide))
  |exact HB.out.same _ (by decide) (by decide)
 ·exact ⟨_, rfl⟩
 apply Yf rfl rfl
 ·intro dd K hd hK w5 hB1
  obtain ⟨C, e2, e3, _⟩ := hB1.r
  refine Ya8 ⟨Yar n, 0, o, Opd.none, false, 0⟩ (w.heap.size + 1) _ _ rfl rfl rfl e2 e3 ?_
  intro w6 hw6
  exact hK _ (hB1.store (by decide) hw6)
 ·exact ⟨_, rfl⟩
 refine Yal (fun _ w2 dd hall hB1 => ?_)
 obtain ⟨C2, hC, hI⟩ := hB1.fin (.inr rfl)
 obtain rfl := hI (hall 14 (by decide))
 clear hI
 have H2 := Yh_ hC
 have cm := Ya H2.out.o
 unfold Opd.cells at cm
 clear hC hall hB1
 go_wp2_with fail
 go_wp2_with fail
 exact bodyPost_ret (Yg rfl (Yi 8 (w.heap.size + 1) _ rfl H2.out.r) (Yk 9 rfl)) rfl ⟨rfl, H2.out.h, H2.out.u⟩
theorem Yq1 (d g : Nat) (s : Rd) (v : Value) (L : List Int) (w : World) (hD : Yl w d v L g s) (o : Opd) (n : Int) (h0 : n ≠ 0) (h3 : n ≠ 3) :
  Calls Tryz.prog 76 #[.pointer (some ⟨d, 0, none⟩), .int .u8 221, .agg #[.int .i64 o.k, .int .i64 o.r, .int .u32 o.imm, .int .i64 o.b, .int .i64 o.x, .int .u32 o.sc], .int .i64 n] w (Yr d v L g w ⟨⟨45, 0, o, Opd.none, false, 0⟩, true, s⟩) := by
 have hmo : Tryz.prog.follows .mixedOrders = true := by kernel_rfl
 have q0 : (n != 0) = true := by simpa using h0
 have q1 : (n != 3) = true := by simpa using h3
 have q2 : (n == 3) = false := by simpa using h3
 have c0 := Ya (Yc (.cells #[.int .i64 0, .int .i64 0, .int .i64 0, .int .i64 0, .int .u32 0, .int .i64 0, .int .i64 0, .int .u32 0, .int .i64 0, .int .i64 0, .int .u32 0, .int .i64 0, .int .i64 0, .int .u32 0, .bool false, .int .i64 0] 42) (Yc (.cells #[.int .i64 o.k, .int .i64 o.r, .int .u32 o.imm, .int .i64 o.b, .int .i64 o.x, .int .u32 o.sc] 40) hD.h))
 have f0 := Yh (Yc (.cells #[.int .i64 0, .int .i64 0, .int .i64 0, .int .i64 0, .int .u32 0, .int .i64 0, .int .i64 0, .int .u32 0, .int .i64 0, .int .i64 0, .int .u32 0, .int .i64 0, .int .i64 0, .int .u32 0, .bool false, .int .i64 0] 42) (Yc (.cells #[.int .i64 o.k, .int .i64 o.r, .int .u32 o.imm, .int .i64 o.b, .int .i64 o.x, .int .u32 o.sc] 40) hD.h))
 have H1 := Yh_ (RiM.start0 hD o)
 clear hD h0 h3
 go_enter Tryz.func76, Tryz.ntmps76
 go_wp2_with fail
 refine Yaq 15 (RiB w d v L g s s 999 14 ⟨45, 0, o, Opd.none, false, 0⟩ (w.heap.size + 1) (w.heap.size) o) (fun _ _ => False) (by kernel_rfl) (by decide +kernel) (RiB.start (H1.out)) (fun _ _ _ h => h.elim) ?_
 simp only [List.take_succ_cons, List.take_zero, List.drop_succ_cons, List.drop_zero]
 iterate 6
  apply Yf rfl rfl
  ·intro dd K hd hK w5 hB1
   have HB := Yh_ hB1
   have c1 := Ya HB.out.o; unfold Opd.cells at c1
   clear hB1
   go_wp2_with fail
   first
   |exact hK _ (HB.out.same _ (by decide) (by decide))
   |exact HB.out.same _ (by decide) (by decide)
  ·exact ⟨_, rfl⟩
 iterate 2
  apply Yf rfl rfl
  ·intro dd K hd hK w5 hB1
   have HB := Yh_ hB1
   have c1 := Ya HB.out.o; unfold Opd.cells at c1
   clear hB1
   go_wp2_with fail
   first
   |exact hK _ (HB.out.same _ (by decide) (by decide))
   |exact HB.out.same _ (by decide) (by decide)
  ·exact ⟨_, rfl⟩
 iterate 2
  apply Yf rfl rfl
  ·intro dd K hd hK w5 hB1
   have HB := Yh_ hB1
   have c1 := Ya HB.out.o; unfold Opd.cells at c1
   clear hB1
   go_wp2_with fail
   first
   |exact hK _ (HB.out.same _ (by decide) (by decide))
   |exact HB.out.same _ (by decide) (by decide)
  ·exact ⟨_, rfl⟩
 iterate 3
  refine Yet rfl rfl (fun dd w hd hB => hB.same _ (by decide) (by decide)) ?_
 apply Yf rfl rfl
 ·intro dd K hd hK w5 hB1
  have HB := Yh_ hB1
  have c1 := Ya HB.out.o; unfold Opd.cells at c1
  clear hB1
  go_wp2_with fail
  first
  |exact hK _ (HB.out.same _ (by decide) (by decide))
  |exact HB.out.same _ (by decide) (by decide)
 ·exact ⟨_, rfl⟩
 apply Yf rfl rfl
 ·intro dd K hd hK w5 hB1
  obtain ⟨C, e2, e3, _⟩ := hB1.r
  refine Ya8 ⟨45, 0, o, Opd.none, false, 0⟩ (w.heap.size + 1) _ _ rfl rfl rfl e2 e3 ?_
  intro w6 hw6
  exact hK _ (hB1.store (by decide) hw6)
 ·exact ⟨_, rfl⟩
 refine Yal (fun _ w2 dd hall hB1 => ?_)
 obtain ⟨C2, hC, hI⟩ := hB1.fin (.inr rfl)
 obtain rfl := hI (hall 14 (by decide))
 clear hI
 have H2 := Yh_ hC
 have cm := Ya H2.out.o
 unfold Opd.cells at cm
 clear hC hall hB1
 go_wp2_with fail
 go_wp2_with fail
 exact bodyPost_ret (Yg rfl (Yi 8 (w.heap.size + 1) _ rfl H2.out.r) (Yk 9 rfl)) rfl ⟨rfl, H2.out.h, H2.out.u⟩
theorem Yop (d g : Nat) (s : Rd) (v : Value) (L : List Int) (w : World) (hD : Yl w d v L g s) (o : Opd) (n : Int) (h0 : n = 0) (hk : o.k = 1) :
  Calls Tryz.prog 76 #[.pointer (some ⟨d, 0, none⟩), .int .u8 221, .agg #[.int .i64 o.k, .int .i64 o.r, .int .u32 o.imm, .int .i64 o.b, .int .i64 o.x, .int .u32 o.sc], .int .i64 n] w (Yr d v L g w ⟨⟨45, 0, o, Opd.none, false, 0⟩, true, s⟩) := by
 have hmo : Tryz.prog.follows .mixedOrders = true := by kernel_rfl
 subst h0
 have q1 : (o.k == 1) = true := by simpa using hk
 have c0 := Ya (Yc (.cells #[.int .i64 0, .int .i64 0, .int .i64 0, .int .i64 0, .int .u32 0, .int .i64 0, .int .i64 0, .int .u32 0, .int .i64 0, .int .i64 0, .int .u32 0, .int .i64 0, .int .i64 0, .int .u32 0, .bool false, .int .i64 0] 42) (Yc (.cells #[.int .i64 o.k, .int .i64 o.r, .int .u32 o.imm, .int .i64 o.b, .int .i64 o.x, .int .u32 o.sc] 40) hD.h))
 have f0 := Yh (Yc (.cells #[.int .i64 0, .int .i64 0, .int .i64 0, .int .i64 0, .int .u32 0, .int .i64 0, .int .i64 0, .int .u32 0, .int .i64 0, .int .i64 0, .int .u32 0, .int .i64 0, .int .i64 0, .int .u32 0, .bool false, .int .i64 0] 42) (Yc (.cells #[.int .i64 o.k, .int .i64 o.r, .int .u32 o.imm, .int .i64 o.b, .int .i64 o.x, .int .u32 o.sc] 40) hD.h))
 have H1 := Yh_ (RiM.start0 hD o)
 clear hD hk
 go_enter Tryz.func76, Tryz.ntmps76
 go_wp2_with fail
 refine Yaq 15 (RiB w d v L g s s 999 14 ⟨45, 0, o, Opd.none, false, 0⟩ (w.heap.size + 1) (w.heap.size) o) (fun _ _ => False) (by kernel_rfl) (by decide +kernel) (RiB.start (H1.out)) (fun _ _ _ h => h.elim) ?_
 simp only [List.take_succ_cons, List.take_zero, List.drop_succ_cons, List.drop_zero]
 iterate 6
  apply Yf rfl rfl
  ·intro dd K hd hK w5 hB1
   have HB := Yh_ hB1
   have c1 := Ya HB.out.o; unfold Opd.cells at c1
   clear hB1
   go_wp2_with fail
   first
   |exact hK _ (HB.out.same _ (by decide) (by decide))
   |exact HB.out.same _ (by decide) (by decide)
  ·exact ⟨_, rfl⟩
 iterate 2
  refine Yet rfl rfl (fun dd w hd hB => hB.same _ (by decide) (by decide)) ?_
 iterate 2
  apply Yf rfl rfl
  ·intro dd K hd hK w5 hB1
   have HB := Yh_ hB1
   have c1 := Ya HB.out.o; unfold Opd.cells at c1
   clear hB1
   go_wp2_with fail
   first
   |exact hK _ (HB.out.same _ (by decide) (by decide))
   |exact HB.out.same _ (by decide) (by decide)
  ·exact ⟨_, rfl⟩
 iterate 3
  apply Yf rfl rfl
  ·intro dd K hd hK w5 hB1
   have HB := Yh_ hB1
   have c1 := Ya HB.out.o; unfold Opd.cells at c1
   clear hB1
   go_wp2_with fail
   first
   |exact hK _ (HB.out.same _ (by decide) (by decide))
   |exact HB.out.same _ (by decide) (by decide)
  ·exact ⟨_, rfl⟩
 apply Yf rfl rfl
 ·intro dd K hd hK w5 hB1
  have HB := Yh_ hB1
  have c1 := Ya HB.out.o; unfold Opd.cells at c1
  clear hB1
  go_wp2_with fail
  first
  |exact hK _ (HB.out.same _ (by decide) (by decide))
  |exact HB.out.same _ (by decide) (by decide)
 ·exact ⟨_, rfl⟩
 apply Yf rfl rfl
 ·intro dd K hd hK w5 hB1
  obtain ⟨C, e2, e3, _⟩ := hB1.r
  refine Ya8 ⟨45, 0, o, Opd.none, false, 0⟩ (w.heap.size + 1) _ _ rfl rfl rfl e2 e3 ?_
  intro w6 hw6
  exact hK _ (hB1.store (by decide) hw6)
 ·exact ⟨_, rfl⟩
 refine Yal (fun _ w2 dd hall hB1 => ?_)
 obtain ⟨C2, hC, hI⟩ := hB1.fin (.inr rfl)
 obtain rfl := hI (hall 14 (by decide))
 clear hI
 have H2 := Yh_ hC
 have cm := Ya H2.out.o
 unfold Opd.cells at cm
 clear hC hall hB1
 go_wp2_with fail
 go_wp2_with fail
 exact bodyPost_ret (Yg rfl (Yi 8 (w.heap.size + 1) _ rfl H2.out.r) (Yk 9 rfl)) rfl ⟨rfl, H2.out.h, H2.out.u⟩
theorem Yoq (d g : Nat) (s : Rd) (v : Value) (L : List Int) (w : World) (hD : Yl w d v L g s) (o : Opd) (n : Int) (h0 : n = 0) (hk : o.k ≠ 1) :
  Calls Tryz.prog 76 #[.pointer (some ⟨d, 0, none⟩), .int .u8 221, .agg #[.int .i64 o.k, .int .i64 o.r, .int .u32 o.imm, .int .i64 o.b, .int .i64 o.x, .int .u32 o.sc], .int .i64 n] w (Yr d v L g w ⟨⟨45, 0, o, Opd.none, false, 0⟩, false, s⟩) := by
 have hmo : Tryz.prog.follows .mixedOrders = true := by kernel_rfl
 subst h0
 have q1 : (o.k == 1) = false := by simpa using hk
 have c0 := Ya (Yc (.cells #[.int .i64 0, .int .i64 0, .int .i64 0, .int .i64 0, .int .u32 0, .int .i64 0, .int .i64 0, .int .u32 0, .int .i64 0, .int .i64 0, .int .u32 0, .int .i64 0, .int .i64 0, .int .u32 0, .bool false, .int .i64 0] 42) (Yc (.cells #[.int .i64 o.k, .int .i64 o.r, .int .u32 o.imm, .int .i64 o.b, .int .i64 o.x, .int .u32 o.sc] 40) hD.h))
 have f0 := Yh (Yc (.cells #[.int .i64 0, .int .i64 0, .int .i64 0, .int .i64 0, .int .u32 0, .int .i64 0, .int .i64 0, .int .u32 0, .int .i64 0, .int .i64 0, .int .u32 0, .int .i64 0, .int .i64 0, .int .u32 0, .bool false, .int .i64 0] 42) (Yc (.cells #[.int .i64 o.k, .int .i64 o.r, .int .u32 o.imm, .int .i64 o.b, .int .i64 o.x, .int .u32 o.sc] 40) hD.h))
 have H1 := Yh_ (RiM.start0 hD o)
 clear hD hk
 go_enter Tryz.func76, Tryz.ntmps76
 go_wp2_with fail
 refine Yaq 15 (RiB w d v L g s s 999 14 ⟨45, 0, o, Opd.none, false, 0⟩ (w.heap.size + 1) (w.heap.size) o) (fun _ _ => False) (by kernel_rfl) (by decide +kernel) (RiB.start (H1.out)) (fun _ _ _ h => h.elim) ?_
 simp only [List.take_succ_cons, List.take_zero, List.drop_succ_cons, List.drop_zero]
 iterate 6
  apply Yf rfl rfl
  ·intro dd K hd hK w5 hB1
   have HB := Yh_ hB1
   have c1 := Ya HB.out.o; unfold Opd.cells at c1
   clear hB1
   go_wp2_with fail
   first
   |exact hK _ (HB.out.same _ (by decide) (by decide))
   |exact HB.out.same _ (by decide) (by decide)
  ·exact ⟨_, rfl⟩
 iterate 2
  refine Yet rfl rfl (fun dd w hd hB => hB.same _ (by decide) (by decide)) ?_
 iterate 2
  apply Yf rfl rfl
  ·intro dd K hd hK w5 hB1
   have HB := Yh_ hB1
   have c1 := Ya HB.out.o; unfold Opd.cells at c1
   clear hB1
   go_wp2_with fail
   first
   |exact hK _ (HB.out.same _ (by decide) (by decide))
   |exact HB.out.same _ (by decide) (by decide)
  ·exact ⟨_, rfl⟩
 iterate 3
  apply Yf rfl rfl
  ·intro dd K hd hK w5 hB1
   have HB := Yh_ hB1
   have c1 := Ya HB.out.o; unfold Opd.cells at c1
   clear hB1
   go_wp2_with fail
   first
   |exact hK _ (HB.out.same _ (by decide) (by decide))
   |exact HB.out.same _ (by decide) (by decide)
  ·exact ⟨_, rfl⟩
 apply Yf rfl rfl
 ·intro dd K hd hK w5 hB1
  have HB := Yh_ hB1
  have c1 := Ya HB.out.o; unfold Opd.cells at c1
  clear hB1
  go_wp2_with fail
  first
  |exact hK _ (HB.out.same _ (by decide) (by decide))
  |exact HB.out.same _ (by decide) (by decide)
 ·exact ⟨_, rfl⟩
 apply Yf rfl rfl
 ·intro dd K hd hK w5 hB1
  obtain ⟨C, e2, e3, _⟩ := hB1.r
  refine Ya8 ⟨45, 0, o, Opd.none, false, 0⟩ (w.heap.size + 1) _ _ rfl rfl rfl e2 e3 ?_
  intro w6 hw6
  exact hK _ (hB1.store (by decide) hw6)
 ·exact ⟨_, rfl⟩
 refine Yal (fun _ w2 dd hall hB1 => ?_)
 obtain ⟨C2, hC, hI⟩ := hB1.fin (.inr rfl)
 obtain rfl := hI (hall 14 (by decide))
 clear hI
 have H2 := Yh_ hC
 have cm := Ya H2.out.o
 unfold Opd.cells at cm
 clear hC hall hB1
 go_wp2_with fail
 go_wp2_with fail
 exact bodyPost_ret (Yg rfl (Yi 8 (w.heap.size + 1) _ rfl H2.out.r) (Yk 9 rfl)) rfl ⟨rfl, H2.out.h, H2.out.u⟩
theorem Ymn (d g : Nat) (s : Rd) (v : Value) (L : List Int) (w : World) (hD : Yl w d v L g s) (o : Opd) (n : Int) (h0 : n = 3) (hk : o.k = 1) :
  Calls Tryz.prog 76 #[.pointer (some ⟨d, 0, none⟩), .int .u8 221, .agg #[.int .i64 o.k, .int .i64 o.r, .int .u32 o.imm, .int .i64 o.b, .int .i64 o.x, .int .u32 o.sc], .int .i64 n] w (Yr d v L g w ⟨⟨46, 0, o, Opd.none, false, 0⟩, true, s⟩) := by
 have hmo : Tryz.prog.follows .mixedOrders = true := by kernel_rfl
 subst h0
 have q1 : (o.k == 1) = true := by simpa using hk
 have c0 := Ya (Yc (.cells #[.int .i64 0, .int .i64 0, .int .i64 0, .int .i64 0, .int .u32 0, .int .i64 0, .int .i64 0, .int .u32 0, .int .i64 0, .int .i64 0, .int .u32 0, .int .i64 0, .int .i64 0, .int .u32 0, .bool false, .int .i64 0] 42) (Yc (.cells #[.int .i64 o.k, .int .i64 o.r, .int .u32 o.imm, .int .i64 o.b, .int .i64 o.x, .int .u32 o.sc] 40) hD.h))
 have f0 := Yh (Yc (.cells #[.int .i64 0, .int .i64 0, .int .i64 0, .int .i64 0, .int .u32 0, .int .i64 0, .int .i64 0, .int .u32 0, .int .i64 0, .int .i64 0, .int .u32 0, .int .i64 0, .int .i64 0, .int .u32 0, .bool false, .int .i64 0] 42) (Yc (.cells #[.int .i64 o.k, .int .i64 o.r, .int .u32 o.imm, .int .i64 o.b, .int .i64 o.x, .int .u32 o.sc] 40) hD.h))
 have H1 := Yh_ (RiM.start0 hD o)
 clear hD hk
 go_enter Tryz.func76, Tryz.ntmps76
 go_wp2_with fail
 refine Yaq 15 (RiB w d v L g s s 999 14 ⟨46, 0, o, Opd.none, false, 0⟩ (w.heap.size + 1) (w.heap.size) o) (fun _ _ => False) (by kernel_rfl) (by decide +kernel) (RiB.start (H1.out)) (fun _ _ _ h => h.elim) ?_
 simp only [List.take_succ_cons, List.take_zero, List.drop_succ_cons, List.drop_zero]
 iterate 6
  apply Yf rfl rfl
  ·intro dd K hd hK w5 hB1
   have HB := Yh_ hB1
   have c1 := Ya HB.out.o; unfold Opd.cells at c1
   clear hB1
   go_wp2_with fail
   first
   |exact hK _ (HB.out.same _ (by decide) (by decide))
   |exact HB.out.same _ (by decide) (by decide)
  ·exact ⟨_, rfl⟩
 iterate 2
  apply Yf rfl rfl
  ·intro dd K hd hK w5 hB1
   have HB := Yh_ hB1
   have c1 := Ya HB.out.o; unfold Opd.cells at c1
   clear hB1
   go_wp2_with fail
   first
   |exact hK _ (HB.out.same _ (by decide) (by decide))
   |exact HB.out.same _ (by decide) (by decide)
  ·exact ⟨_, rfl⟩
 iterate 2
  apply Yf rfl rfl
  ·intro dd K hd hK w5 hB1
   have HB := Yh_ hB1
   have c1 := Ya HB.out.o; unfold Opd.cells at c1
   clear hB1
   go_wp2_with fail
   first
   |exact hK _ (HB.out.same _ (by decide) (by decide))
   |exact HB.out.same _ (by decide) (by decide)
  ·exact ⟨_, rfl⟩
 iterate 3
  apply Yf rfl rfl
  ·intro dd K hd hK w5 hB1
   have HB := Yh_ hB1
   have c1 := Ya HB.out.o; unfold Opd.cells at c1
   clear hB1
   go_wp2_with fail
   first
   |exact hK _ (HB.out.same _ (by decide) (by decide))
   |exact HB.out.same _ (by decide) (by decide)
  ·exact ⟨_, rfl⟩
 apply Yf rfl rfl
 ·intro dd K hd hK w5 hB1
  have HB := Yh_ hB1
  have c1 := Ya HB.out.o; unfold Opd.cells at c1
  clear hB1
  go_wp2_with fail
  first
  |exact hK _ (HB.out.same _ (by decide) (by decide))
  |exact HB.out.same _ (by decide) (by decide)
 ·exact ⟨_, rfl⟩
 apply Yf rfl rfl
 ·intro dd K hd hK w5 hB1
  obtain ⟨C, e2, e3, _⟩ := hB1.r
  refine Ya8 ⟨46, 0, o, Opd.none, false, 0⟩ (w.heap.size + 1) _ _ rfl rfl rfl e2 e3 ?_
  intro w6 hw6
  exact hK _ (hB1.store (by decide) hw6)
 ·exact ⟨_, rfl⟩
 refine Yal (fun _ w2 dd hall hB1 => ?_)
 obtain ⟨C2, hC, hI⟩ := hB1.fin (.inr rfl)
 obtain rfl := hI (hall 14 (by decide))
 clear hI
 have H2 := Yh_ hC
 have cm := Ya H2.out.o
 unfold Opd.cells at cm
 clear hC hall hB1
 go_wp2_with fail
 go_wp2_with fail
 exact bodyPost_ret (Yg rfl (Yi 8 (w.heap.size + 1) _ rfl H2.out.r) (Yk 9 rfl)) rfl ⟨rfl, H2.out.h, H2.out.u⟩
theorem Yoi (d g : Nat) (s : Rd) (v : Value) (L : List Int) (w : World) (hD : Yl w d v L g s) (o : Opd) (n : Int) (h0 : n = 3) (hk : o.k ≠ 1) :
  Calls Tryz.prog 76 #[.pointer (some ⟨d, 0, none⟩), .int .u8 221, .agg #[.int .i64 o.k, .int .i64 o.r, .int .u32 o.imm, .int .i64 o.b, .int .i64 o.x, .int .u32 o.sc], .int .i64 n] w (Yr d v L g w ⟨⟨46, 0, o, Opd.none, false, 0⟩, false, s⟩) := by
 have hmo : Tryz.prog.follows .mixedOrders = true := by kernel_rfl
 subst h0
 have q1 : (o.k == 1) = false := by simpa using hk
 have c0 := Ya (Yc (.cells #[.int .i64 0, .int .i64 0, .int .i64 0, .int .i64 0, .int .u32 0, .int .i64 0, .int .i64 0, .int .u32 0, .int .i64 0, .int .i64 0, .int .u32 0, .int .i64 0, .int .i64 0, .int .u32 0, .bool false, .int .i64 0] 42) (Yc (.cells #[.int .i64 o.k, .int .i64 o.r, .int .u32 o.imm, .int .i64 o.b, .int .i64 o.x, .int .u32 o.sc] 40) hD.h))
 have f0 := Yh (Yc (.cells #[.int .i64 0, .int .i64 0, .int .i64 0, .int .i64 0, .int .u32 0, .int .i64 0, .int .i64 0, .int .u32 0, .int .i64 0, .int .i64 0, .int .u32 0, .int .i64 0, .int .i64 0, .int .u32 0, .bool false, .int .i64 0] 42) (Yc (.cells #[.int .i64 o.k, .int .i64 o.r, .int .u32 o.imm, .int .i64 o.b, .int .i64 o.x, .int .u32 o.sc] 40) hD.h))
 have H1 := Yh_ (RiM.start0 hD o)
 clear hD hk
 go_enter Tryz.func76, Tryz.ntmps76
 go_wp2_with fail
 refine Yaq 15 (RiB w d v L g s s 999 14 ⟨46, 0, o, Opd.none, false, 0⟩ (w.heap.size + 1) (w.heap.size) o) (fun _ _ => False) (by kernel_rfl) (by decide +kernel) (RiB.start (H1.out)) (fun _ _ _ h => h.elim) ?_
 simp only [List.take_succ_cons, List.take_zero, List.drop_succ_cons, List.drop_zero]
 iterate 6
  apply Yf rfl rfl
  ·intro dd K hd hK w5 hB1
   have HB := Yh_ hB1
   have c1 := Ya HB.out.o; unfold Opd.cells at c1
   clear hB1
   go_wp2_with fail
   first
   |exact hK _ (HB.out.same _ (by decide) (by decide))
   |exact HB.out.same _ (by decide) (by decide)
  ·exact ⟨_, rfl⟩
 iterate 2
  apply Yf rfl rfl
  ·intro dd K hd hK w5 hB1
   have HB := Yh_ hB1
   have c1 := Ya HB.out.o; unfold Opd.cells at c1
   clear hB1
   go_wp2_with fail
   first
   |exact hK _ (HB.out.same _ (by decide) (by decide))
   |exact HB.out.same _ (by decide) (by decide)
  ·exact ⟨_, rfl⟩
 iterate 2
  apply Yf rfl rfl
  ·intro dd K hd hK w5 hB1
   have HB := Yh_ hB1
   have c1 := Ya HB.out.o; unfold Opd.cells at c1
   clear hB1
   go_wp2_with fail
   first
   |exact hK _ (HB.out.same _ (by decide) (by decide))
   |exact HB.out.same _ (by decide) (by decide)
  ·exact ⟨_, rfl⟩
 iterate 3
  apply Yf rfl rfl
  ·intro dd K hd hK w5 hB1
   have HB := Yh_ hB1
   have c1 := Ya HB.out.o; unfold Opd.cells at c1
   clear hB1
   go_wp2_with fail
   first
   |exact hK _ (HB.out.same _ (by decide) (by decide))
   |exact HB.out.same _ (by decide) (by decide)
  ·exact ⟨_, rfl⟩
 apply Yf rfl rfl
 ·intro dd K hd hK w5 hB1
  have HB := Yh_ hB1
  have c1 := Ya HB.out.o; unfold Opd.cells at c1
  clear hB1
  go_wp2_with fail
  first
  |exact hK _ (HB.out.same _ (by decide) (by decide))
  |exact HB.out.same _ (by decide) (by decide)
 ·exact ⟨_, rfl⟩
 apply Yf rfl rfl
 ·intro dd K hd hK w5 hB1
  obtain ⟨C, e2, e3, _⟩ := hB1.r
  refine Ya8 ⟨46, 0, o, Opd.none, false, 0⟩ (w.heap.size + 1) _ _ rfl rfl rfl e2 e3 ?_
  intro w6 hw6
  exact hK _ (hB1.store (by decide) hw6)
 ·exact ⟨_, rfl⟩
 refine Yal (fun _ w2 dd hall hB1 => ?_)
 obtain ⟨C2, hC, hI⟩ := hB1.fin (.inr rfl)
 obtain rfl := hI (hall 14 (by decide))
 clear hI
 have H2 := Yh_ hC
 have cm := Ya H2.out.o
 unfold Opd.cells at cm
 clear hC hall hB1
 go_wp2_with fail
 go_wp2_with fail
 exact bodyPost_ret (Yg rfl (Yi 8 (w.heap.size + 1) _ rfl H2.out.r) (Yk 9 rfl)) rfl ⟨rfl, H2.out.h, H2.out.u⟩
theorem You (d g : Nat) (s : Rd) (v : Value) (L : List Int) (w : World) (hD : Yl w d v L g s) (o : Opd) (n : Int) (hn : n = 0) :
  Calls Tryz.prog 76 #[.pointer (some ⟨d, 0, none⟩), .int .u8 247, .agg #[.int .i64 o.k, .int .i64 o.r, .int .u32 o.imm, .int .i64 o.b, .int .i64 o.x, .int .u32 o.sc], .int .i64 n] w (Yr d v L g w ⟨⟨11, 0, o, Yac (reW L s), false, 0⟩, false, (Yb1 L s)⟩) := by
 have hmo : Tryz.prog.follows .mixedOrders = true := by kernel_rfl
 subst hn
 have c0 := Ya (Yc (.cells #[.int .i64 0, .int .i64 0, .int .i64 0, .int .i64 0, .int .u32 0, .int .i64 0, .int .i64 0, .int .u32 0, .int .i64 0, .int .i64 0, .int .u32 0, .int .i64 0, .int .i64 0, .int .u32 0, .bool false, .int .i64 0] 42) (Yc (.cells #[.int .i64 o.k, .int .i64 o.r, .int .u32 o.imm, .int .i64 o.b, .int .i64 o.x, .int .u32 o.sc] 40) hD.h))
 have f0 := Yh (Yc (.cells #[.int .i64 0, .int .i64 0, .int .i64 0, .int .i64 0, .int .u32 0, .int .i64 0, .int .i64 0, .int .u32 0, .int .i64 0, .int .i64 0, .int .u32 0, .int .i64 0, .int .i64 0, .int .u32 0, .bool false, .int .i64 0] 42) (Yc (.cells #[.int .i64 o.k, .int .i64 o.r, .int .u32 o.imm, .int .i64 o.b, .int .i64 o.x, .int .u32 o.sc] 40) hD.h))
 have H1 := Yh_ (RiM.start0 hD o)
 clear hD
 go_enter Tryz.func76, Tryz.ntmps76
 go_wp2_with fail
 refine Yaq 4 (RiB w d v L g s (Yb1 L s) 2 999 Ins.zero (w.heap.size + 1) (w.heap.size) o) (fun _ _ => False) (by kernel_rfl) (by decide +kernel) (RiB.start ((H1.out.more (.cells #[.int .i64 11, .int .i64 0, .int .i64 14, .int .i64 15, .int .i64 16, .int .i64 17, .int .i64 19, .int .i64 20] 113)))) (fun _ _ _ h => h.elim) ?_
 simp only [List.take_succ_cons, List.take_zero, List.drop_succ_cons, List.drop_zero]
 iterate 2
  apply Yf rfl rfl
  ·intro dd K hd hK w5 hB1
   have HB := Yh_ hB1
   have c1 := Ya HB.out.o; unfold Opd.cells at c1
   clear hB1
   go_wp2_with fail
   first
   |exact hK _ (HB.out.same _ (by decide) (by decide))
   |exact HB.out.same _ (by decide) (by decide)
  ·exact ⟨_, rfl⟩
 apply Yf rfl rfl
 ·intro dd K hd hK w5 hB1
  have HB := Yh_ hB1
  have c1 := Ya HB.out.o; unfold Opd.cells at c1
  clear hB1
  go_wp2_with (go_at_call 59; refine (Yci d g _ v L _ (HB.out.rd hd)).mono ?_; rintro e w' ⟨rfl, h, hu⟩)
  first
  |exact hK _ (HB.out.call hd (by decide) h hu)
  |exact HB.out.call hd (by decide) h hu
 ·exact ⟨_, rfl⟩
 apply Yf rfl rfl
 ·intro dd K hd hK w5 hB1
  have HB := Yh_ hB1
  have c1 := Ya HB.out.o; unfold Opd.cells at c1
  clear hB1
  go_wp2_with (go_at_call 57; refine (Ycb _ _).mono ?_; rintro e w' ⟨rfl, hu⟩; rw [show (Yac (reW L s)).val = .agg #[.int .i64 2, .int .i64 0, .int .u32 (reW L s), .int .i64 0, .int .i64 0, .int .u32 0] from rfl])
  first
  |exact hK _ (HB.out.quiet hu _ (by decide) (by decide))
  |exact HB.out.quiet hu _ (by decide) (by decide)
 ·exact ⟨_, rfl⟩
 refine Yal (fun _ w2 dd hall hB1 => ?_)
 obtain ⟨C2, hC, hI⟩ := hB1.fin (.inl (hall 2 (by decide)))
 clear hI
 have H2 := Yh_ hC
 have cm := Ya H2.out.o
 unfold Opd.cells at cm
 clear hC hall hB1
 go_wp2_with (have _t := H2; clear _t; refine Ye 42 rfl ?_; refine Yb ⟨11, 0, o, Yac (reW L s), false, 0⟩ (w.heap.size + 1) rfl _ _ rfl rfl rfl (H2.out).r (H2.out).z ?_; intro w3 hw; have H3 := Yh_ ((H2.out).store hw); clear hw H2)
 exact bodyPost_ret (Yg rfl (Yi 8 (w.heap.size + 1) _ rfl H3.out.r) (Yk 9 rfl)) rfl ⟨rfl, H3.out.h, H3.out.u⟩
theorem Ypc (d g : Nat) (s : Rd) (v : Value) (L : List Int) (w : World) (hD : Yl w d v L g s) (o : Opd) (n : Int) (hn8 : 0 ≤ n ∧ n < 8) (h0 : n ≠ 0) (hz : Ybd n = 0) :
  Calls Tryz.prog 76 #[.pointer (some ⟨d, 0, none⟩), .int .u8 247, .agg #[.int .i64 o.k, .int .i64 o.r, .int .u32 o.imm, .int .i64 o.b, .int .i64 o.x, .int .u32 o.sc], .int .i64 n] w (Yr d v L g w ⟨⟨0, 0, o, Opd.none, false, 0⟩, true, s⟩) := by
 have hmo : Tryz.prog.follows .mixedOrders = true := by kernel_rfl
 have hcell := Yq5 n hn8 h0
 have q8 : 0 ≤ n := hn8.1
 have q9 : n < 8 := hn8.2
 have q7 : (n == 0) = false := by simpa using h0
 have q0 : Ybd n = 0 := hz
 rw [hz] at hcell
 have c0 := Ya (Yc (.cells #[.int .i64 0, .int .i64 0, .int .i64 0, .int .i64 0, .int .u32 0, .int .i64 0, .int .i64 0, .int .u32 0, .int .i64 0, .int .i64 0, .int .u32 0, .int .i64 0, .int .i64 0, .int .u32 0, .bool false, .int .i64 0] 42) (Yc (.cells #[.int .i64 o.k, .int .i64 o.r, .int .u32 o.imm, .int .i64 o.b, .int .i64 o.x, .int .u32 o.sc] 40) hD.h))
 have f0 := Yh (Yc (.cells #[.int .i64 0, .int .i64 0, .int .i64 0, .int .i64 0, .int .u32 0, .int .i64 0, .int .i64 0, .int .u32 0, .int .i64 0, .int .i64 0, .int .u32 0, .int .i64 0, .int .i64 0, .int .u32 0, .bool false, .int .i64 0] 42) (Yc (.cells #[.int .i64 o.k, .int .i64 o.r, .int .u32 o.imm, .int .i64 o.b, .int .i64 o.x, .int .u32 o.sc] 40) hD.h))
 have H1 := Yh_ (RiM.start0 hD o)
 clear hD hn8 h0 hz
 go_enter Tryz.func76, Tryz.ntmps76
 go_wp2_with fail
 have HT := Yh_ (heap_alloc_new ((w.alloc (.cells #[.int .i64 o.k, .int .i64 o.r, .int .u32 o.imm, .int .i64 o.b, .int .i64 o.x, .int .u32 o.sc] 40)).alloc (.cells #[.int .i64 0, .int .i64 0, .int .i64 0, .int .i64 0, .int .u32 0, .int .i64 0, .int .i64 0, .int .u32 0, .int .i64 0, .int .i64 0, .int .u32 0, .int .i64 0, .int .i64 0, .int .u32 0, .bool false, .int .i64 0] 42)) (.cells #[.int .i64 11, .int .i64 0, .int .i64 14, .int .i64 15, .int .i64 16, .int .i64 17, .int .i64 19, .int .i64 20] 113))
 have HTC := Yh_ hcell
 clear hcell c0 f0
 refine Yaq 10 (RiT w d v L g s 9 ⟨0, 0, o, Opd.none, false, 0⟩ (w.heap.size + 1) w.heap.size o (w.heap.size + 1 + 1) #[.int .i64 11, .int .i64 0, .int .i64 14, .int .i64 15, .int .i64 16, .int .i64 17, .int .i64 19, .int .i64 20]) (fun _ _ => False) (by kernel_rfl) (by decide +kernel) (RiT.start (H1.out.more (.cells #[.int .i64 11, .int .i64 0, .int .i64 14, .int .i64 15, .int .i64 16, .int .i64 17, .int .i64 19, .int .i64 20] 113)) (by first | exact HT.out | (have h := HT.out; simpa using h)) (by omega)) (fun _ _ _ h => h.elim) ?_
 simp only [List.take_succ_cons, List.take_zero, List.drop_succ_cons, List.drop_zero]
 iterate 9
  apply Yf rfl rfl
  ·intro dd K hd hK w5 hB1
   have HB := Yh_ hB1
   have c1 := Ya HB.out.r.o
   unfold Opd.cells at c1
   have ct := Ya HB.out.t n.toNat
   rw [HTC.out] at ct
   clear hB1
   go_wp2_with fail
   first
   |exact hK _ (HB.out.same _ (by decide) (by decide))
   |exact HB.out.same _ (by decide) (by decide)
  ·exact ⟨_, rfl⟩
 apply Yf rfl rfl
 ·intro dd K hd hK w5 hB1
  obtain ⟨C, e2, e3, _⟩ := hB1.r.r
  refine Ya8 ⟨0, 0, o, Opd.none, false, 0⟩ (w.heap.size + 1) _ _ rfl rfl rfl e2 e3 ?_
  intro w6 hw6
  exact hK _ (hB1.store (by decide) hw6)
 ·exact ⟨_, rfl⟩
 refine Yal (fun _ w7 dd hall hB1 => ?_)
 obtain ⟨C7, hC, hI⟩ := hB1.r.fin (.inr rfl)
 obtain rfl := hI (hall 9 (by decide))
 have H7 := Yh_ hC
 clear hI hC hall hB1
 go_wp2_with fail
 go_wp2_with fail
 exact bodyPost_ret (Yg rfl (Yi 8 (w.heap.size + 1) _ rfl H7.out.r) (Yk 9 rfl)) rfl ⟨rfl, H7.out.h, H7.out.u⟩
theorem Ypq (d g : Nat) (s : Rd) (v : Value) (L : List Int) (w : World) (hD : Yl w d v L g s) (o : Opd) (n : Int) (hn8 : 0 ≤ n ∧ n < 8) (h0 : n ≠ 0) (hz : Ybd n ≠ 0) :
  Calls Tryz.prog 76 #[.pointer (some ⟨d, 0, none⟩), .int .u8 247, .agg #[.int .i64 o.k, .int .i64 o.r, .int .u32 o.imm, .int .i64 o.b, .int .i64 o.x, .int .u32 o.sc], .int .i64 n] w (Yr d v L g w ⟨⟨Ybd n, 0, o, Opd.none, false, 0⟩, false, s⟩) := by
 have hmo : Tryz.prog.follows .mixedOrders = true := by kernel_rfl
 have hcell := Yq5 n hn8 h0
 have q8 : 0 ≤ n := hn8.1
 have q9 : n < 8 := hn8.2
 have q7 : (n == 0) = false := by simpa using h0
 have q0 : (Ybd n == 0) = false := by simpa using hz
 have c0 := Ya (Yc (.cells #[.int .i64 0, .int .i64 0, .int .i64 0, .int .i64 0, .int .u32 0, .int .i64 0, .int .i64 0, .int .u32 0, .int .i64 0, .int .i64 0, .int .u32 0, .int .i64 0, .int .i64 0, .int .u32 0, .bool false, .int .i64 0] 42) (Yc (.cells #[.int .i64 o.k, .int .i64 o.r, .int .u32 o.imm, .int .i64 o.b, .int .i64 o.x, .int .u32 o.sc] 40) hD.h))
 have f0 := Yh (Yc (.cells #[.int .i64 0, .int .i64 0, .int .i64 0, .int .i64 0, .int .u32 0, .int .i64 0, .int .i64 0, .int .u32 0, .int .i64 0, .int .i64 0, .int .u32 0, .int .i64 0, .int .i64 0, .int .u32 0, .bool false, .int .i64 0] 42) (Yc (.cells #[.int .i64 o.k, .int .i64 o.r, .int .u32 o.imm, .int .i64 o.b, .int .i64 o.x, .int .u32 o.sc] 40) hD.h))
 have H1 := Yh_ (RiM.start0 hD o)
 clear hD hn8 h0 hz
 go_enter Tryz.func76, Tryz.ntmps76
 go_wp2_with fail
 have HT := Yh_ (heap_alloc_new ((w.alloc (.cells #[.int .i64 o.k, .int .i64 o.r, .int .u32 o.imm, .int .i64 o.b, .int .i64 o.x, .int .u32 o.sc] 40)).alloc (.cells #[.int .i64 0, .int .i64 0, .int .i64 0, .int .i64 0, .int .u32 0, .int .i64 0, .int .i64 0, .int .u32 0, .int .i64 0, .int .i64 0, .int .u32 0, .int .i64 0, .int .i64 0, .int .u32 0, .bool false, .int .i64 0] 42)) (.cells #[.int .i64 11, .int .i64 0, .int .i64 14, .int .i64 15, .int .i64 16, .int .i64 17, .int .i64 19, .int .i64 20] 113))
 have HTC := Yh_ hcell
 clear hcell c0 f0
 refine Yaq 10 (RiT w d v L g s 9 ⟨Ybd n, 0, o, Opd.none, false, 0⟩ (w.heap.size + 1) w.heap.size o (w.heap.size + 1 + 1) #[.int .i64 11, .int .i64 0, .int .i64 14, .int .i64 15, .int .i64 16, .int .i64 17, .int .i64 19, .int .i64 20]) (fun _ _ => False) (by kernel_rfl) (by decide +kernel) (RiT.start (H1.out.more (.cells #[.int .i64 11, .int .i64 0, .int .i64 14, .int .i64 15, .int .i64 16, .int .i64 17, .int .i64 19, .int .i64 20] 113)) (by first | exact HT.out | (have h := HT.out; simpa using h)) (by omega)) (fun _ _ _ h => h.elim) ?_
 simp only [List.take_succ_cons, List.take_zero, List.drop_succ_cons, List.drop_zero]
 iterate 9
  apply Yf rfl rfl
  ·intro dd K hd hK w5 hB1
   have HB := Yh_ hB1
   have c1 := Ya HB.out.r.o
   unfold Opd.cells at c1
   have ct := Ya HB.out.t n.toNat
   rw [HTC.out] at ct
   clear hB1
   go_wp2_with fail
   first
   |exact hK _ (HB.out.same _ (by decide) (by decide))
   |exact HB.out.same _ (by decide) (by decide)
  ·exact ⟨_, rfl⟩
 apply Yf rfl rfl
 ·intro dd K hd hK w5 hB1
  obtain ⟨C, e2, e3, _⟩ := hB1.r.r
  refine Ya8 ⟨Ybd n, 0, o, Opd.none, false, 0⟩ (w.heap.size + 1) _ _ rfl rfl rfl e2 e3 ?_
  intro w6 hw6
  exact hK _ (hB1.store (by decide) hw6)
 ·exact ⟨_, rfl⟩
 refine Yal (fun _ w7 dd hall hB1 => ?_)
 obtain ⟨C7, hC, hI⟩ := hB1.r.fin (.inr rfl)
 obtain rfl := hI (hall 9 (by decide))
 have H7 := Yh_ hC
 clear hI hC hall hB1
 go_wp2_with fail
 go_wp2_with fail
 exact bodyPost_ret (Yg rfl (Yi 8 (w.heap.size + 1) _ rfl H7.out.r) (Yk 9 rfl)) rfl ⟨rfl, H7.out.h, H7.out.u⟩
theorem Yq2 (d g : Nat) (s : Rd) (v : Value) (L : List Int) (w : World) (hD : Yl w d v L g s) (o : Opd) (n : Int) (hn8 : 0 ≤ n ∧ n < 8) (h7 : n = 7) :
  Calls Tryz.prog 76 #[.pointer (some ⟨d, 0, none⟩), .int .u8 255, .agg #[.int .i64 o.k, .int .i64 o.r, .int .u32 o.imm, .int .i64 o.b, .int .i64 o.x, .int .u32 o.sc], .int .i64 n] w (Yr d v L g w ⟨⟨0, 0, o, Opd.none, false, 0⟩, true, { s with bd := true }⟩) := by
 have hmo : Tryz.prog.follows .mixedOrders = true := by kernel_rfl
 subst h7
 have hcell : (#[.int .i64 12, .int .i64 13, .int .i64 30, .int .i64 0, .int .i64 32, .int .i64 0, .int .i64 28, .int .i64 0] : Array Value)[7]? = some (.int .i64 0) := rfl
 have c0 := Ya (Yc (.cells #[.int .i64 12, .int .i64 13, .int .i64 30, .int .i64 0, .int .i64 32, .int .i64 0, .int .i64 28, .int .i64 0] 113) (Yc (.cells #[.int .i64 0, .int .i64 0, .int .i64 0, .int .i64 0, .int .u32 0, .int .i64 0, .int .i64 0, .int .u32 0, .int .i64 0, .int .i64 0, .int .u32 0, .int .i64 0, .int .i64 0, .int .u32 0, .bool false, .int .i64 0] 42) (Yc (.cells #[.int .i64 o.k, .int .i64 o.r, .int .u32 o.imm, .int .i64 o.b, .int .i64 o.x, .int .u32 o.sc] 40) hD.h)))
 have f0 := Yh (Yc (.cells #[.int .i64 12, .int .i64 13, .int .i64 30, .int .i64 0, .int .i64 32, .int .i64 0, .int .i64 28, .int .i64 0] 113) (Yc (.cells #[.int .i64 0, .int .i64 0, .int .i64 0, .int .i64 0, .int .u32 0, .int .i64 0, .int .i64 0, .int .u32 0, .int .i64 0, .int .i64 0, .int .u32 0, .int .i64 0, .int .i64 0, .int .u32 0, .bool false, .int .i64 0] 42) (Yc (.cells #[.int .i64 o.k, .int .i64 o.r, .int .u32 o.imm, .int .i64 o.b, .int .i64 o.x, .int .u32 o.sc] 40) hD.h)))
 have H1 := Yh_ (RiM.start0 hD o)
 clear hD hn8
 go_enter Tryz.func76, Tryz.ntmps76
 go_wp2_with fail
 have HT := Yh_ (heap_alloc_new ((w.alloc (.cells #[.int .i64 o.k, .int .i64 o.r, .int .u32 o.imm, .int .i64 o.b, .int .i64 o.x, .int .u32 o.sc] 40)).alloc (.cells #[.int .i64 0, .int .i64 0, .int .i64 0, .int .i64 0, .int .u32 0, .int .i64 0, .int .i64 0, .int .u32 0, .int .i64 0, .int .i64 0, .int .u32 0, .int .i64 0, .int .i64 0, .int .u32 0, .bool false, .int .i64 0] 42)) (.cells #[.int .i64 12, .int .i64 13, .int .i64 30, .int .i64 0, .int .i64 32, .int .i64 0, .int .i64 28, .int .i64 0] 113))
 have HTC := Yh_ hcell
 clear hcell c0 f0
 refine Yaq 10 (RiT w d v L g { s with bd := true } 9 ⟨0, 0, o, Opd.none, false, 0⟩ (w.heap.size + 1) w.heap.size o (w.heap.size + 1 + 1) #[.int .i64 12, .int .i64 13, .int .i64 30, .int .i64 0, .int .i64 32, .int .i64 0, .int .i64 28, .int .i64 0]) (fun _ _ => False) (by kernel_rfl) (by decide +kernel) (RiT.start ((H1.out.more (.cells #[.int .i64 12, .int .i64 13, .int .i64 30, .int .i64 0, .int .i64 32, .int .i64 0, .int .i64 28, .int .i64 0] 113)).setB true) (((Upd.refl [d] (((w.alloc (.cells #[.int .i64 o.k, .int .i64 o.r, .int .u32 o.imm, .int .i64 o.b, .int .i64 o.x, .int .u32 o.sc] 40)).alloc (.cells #[.int .i64 0, .int .i64 0, .int .i64 0, .int .i64 0, .int .u32 0, .int .i64 0, .int .i64 0, .int .u32 0, .int .i64 0, .int .i64 0, .int .u32 0, .int .i64 0, .int .i64 0, .int .u32 0, .bool false, .int .i64 0] 42)).alloc (.cells #[.int .i64 12, .int .i64 13, .int .i64 30, .int .i64 0, .int .i64 32, .int .i64 0, .int .i64 28, .int .i64 0] 113))).setCell (p := ⟨d, 3, none⟩) (by simp) (.bool true)).get (by first | exact HT.out | (have h := HT.out; simpa using h)) (by have := H1.out.lt; simp; omega)) (by omega)) (fun _ _ _ h => h.elim) ?_
 simp only [List.take_succ_cons, List.take_zero, List.drop_succ_cons, List.drop_zero]
 iterate 9
  apply Yf rfl rfl
  ·intro dd K hd hK w5 hB1
   have HB := Yh_ hB1
   have c1 := Ya HB.out.r.o
   unfold Opd.cells at c1
   have ct := Ya HB.out.t 7
   rw [HTC.out] at ct
   clear hB1
   go_wp2_with fail
   first
   |exact hK _ (HB.out.same _ (by decide) (by decide))
   |exact HB.out.same _ (by decide) (by decide)
  ·exact ⟨_, rfl⟩
 apply Yf rfl rfl
 ·intro dd K hd hK w5 hB1
  obtain ⟨C, e2, e3, _⟩ := hB1.r.r
  refine Ya8 ⟨0, 0, o, Opd.none, false, 0⟩ (w.heap.size + 1) _ _ rfl rfl rfl e2 e3 ?_
  intro w6 hw6
  exact hK _ (hB1.store (by decide) hw6)
 ·exact ⟨_, rfl⟩
 refine Yal (fun _ w7 dd hall hB1 => ?_)
 obtain ⟨C7, hC, hI⟩ := hB1.r.fin (.inr rfl)
 obtain rfl := hI (hall 9 (by decide))
 have H7 := Yh_ hC
 clear hI hC hall hB1
 go_wp2_with fail
 go_wp2_with fail
 exact bodyPost_ret (Yg rfl (Yi 8 (w.heap.size + 1) _ rfl H7.out.r) (Yk 9 rfl)) rfl ⟨rfl, H7.out.h, H7.out.u⟩
theorem Ypx (d g : Nat) (s : Rd) (v : Value) (L : List Int) (w : World) (hD : Yl w d v L g s) (o : Opd) (n : Int) (hn8 : 0 ≤ n ∧ n < 8) (h7 : n ≠ 7) (hz : Ycn n = 0) :
  Calls Tryz.prog 76 #[.pointer (some ⟨d, 0, none⟩), .int .u8 255, .agg #[.int .i64 o.k, .int .i64 o.r, .int .u32 o.imm, .int .i64 o.b, .int .i64 o.x, .int .u32 o.sc], .int .i64 n] w (Yr d v L g w ⟨⟨0, 0, o, Opd.none, false, 0⟩, true, { s with bd := false }⟩) := by
 have hmo : Tryz.prog.follows .mixedOrders = true := by kernel_rfl
 have hcell := Yrc n hn8
 have q8 : 0 ≤ n := hn8.1
 have q9 : n < 8 := hn8.2
 have q7 : (n == 7) = false := by simpa using h7
 have q0 : Ycn n = 0 := hz
 rw [hz] at hcell
 have c0 := Ya (Yc (.cells #[.int .i64 12, .int .i64 13, .int .i64 30, .int .i64 0, .int .i64 32, .int .i64 0, .int .i64 28, .int .i64 0] 113) (Yc (.cells #[.int .i64 0, .int .i64 0, .int .i64 0, .int .i64 0, .int .u32 0, .int .i64 0, .int .i64 0, .int .u32 0, .int .i64 0, .int .i64 0, .int .u32 0, .int .i64 0, .int .i64 0, .int .u32 0, .bool false, .int .i64 0] 42) (Yc (.cells #[.int .i64 o.k, .int .i64 o.r, .int .u32 o.imm, .int .i64 o.b, .int .i64 o.x, .int .u32 o.sc] 40) hD.h)))
 have f0 := Yh (Yc (.cells #[.int .i64 12, .int .i64 13, .int .i64 30, .int .i64 0, .int .i64 32, .int .i64 0, .int .i64 28, .int .i64 0] 113) (Yc (.cells #[.int .i64 0, .int .i64 0, .int .i64 0, .int .i64 0, .int .u32 0, .int .i64 0, .int .i64 0, .int .u32 0, .int .i64 0, .int .i64 0, .int .u32 0, .int .i64 0, .int .i64 0, .int .u32 0, .bool false, .int .i64 0] 42) (Yc (.cells #[.int .i64 o.k, .int .i64 o.r, .int .u32 o.imm, .int .i64 o.b, .int .i64 o.x, .int .u32 o.sc] 40) hD.h)))
 have H1 := Yh_ (RiM.start0 hD o)
 clear hD hn8 h7 hz
 go_enter Tryz.func76, Tryz.ntmps76
 go_wp2_with fail
 have HT := Yh_ (heap_alloc_new ((w.alloc (.cells #[.int .i64 o.k, .int .i64 o.r, .int .u32 o.imm, .int .i64 o.b, .int .i64 o.x, .int .u32 o.sc] 40)).alloc (.cells #[.int .i64 0, .int .i64 0, .int .i64 0, .int .i64 0, .int .u32 0, .int .i64 0, .int .i64 0, .int .u32 0, .int .i64 0, .int .i64 0, .int .u32 0, .int .i64 0, .int .i64 0, .int .u32 0, .bool false, .int .i64 0] 42)) (.cells #[.int .i64 12, .int .i64 13, .int .i64 30, .int .i64 0, .int .i64 32, .int .i64 0, .int .i64 28, .int .i64 0] 113))
 have HTC := Yh_ hcell
 clear hcell c0 f0
 refine Yaq 10 (RiT w d v L g { s with bd := false } 9 ⟨0, 0, o, Opd.none, false, 0⟩ (w.heap.size + 1) w.heap.size o (w.heap.size + 1 + 1) #[.int .i64 12, .int .i64 13, .int .i64 30, .int .i64 0, .int .i64 32, .int .i64 0, .int .i64 28, .int .i64 0]) (fun _ _ => False) (by kernel_rfl) (by decide +kernel) (RiT.start ((H1.out.more (.cells #[.int .i64 12, .int .i64 13, .int .i64 30, .int .i64 0, .int .i64 32, .int .i64 0, .int .i64 28, .int .i64 0] 113)).setB false) (((Upd.refl [d] (((w.alloc (.cells #[.int .i64 o.k, .int .i64 o.r, .int .u32 o.imm, .int .i64 o.b, .int .i64 o.x, .int .u32 o.sc] 40)).alloc (.cells #[.int .i64 0, .int .i64 0, .int .i64 0, .int .i64 0, .int .u32 0, .int .i64 0, .int .i64 0, .int .u32 0, .int .i64 0, .int .i64 0, .int .u32 0, .int .i64 0, .int .i64 0, .int .u32 0, .bool false, .int .i64 0] 42)).alloc (.cells #[.int .i64 12, .int .i64 13, .int .i64 30, .int .i64 0, .int .i64 32, .int .i64 0, .int .i64 28, .int .i64 0] 113))).setCell (p := ⟨d, 3, none⟩) (by simp) (.bool false)).get (by first | exact HT.out | (have h := HT.out; simpa using h)) (by have := H1.out.lt; simp; omega)) (by omega)) (fun _ _ _ h => h.elim) ?_
 simp only [List.take_succ_cons, List.take_zero, List.drop_succ_cons, List.drop_zero]
 iterate 9
  apply Yf rfl rfl
  ·intro dd K hd hK w5 hB1
   have HB := Yh_ hB1
   have c1 := Ya HB.out.r.o
   unfold Opd.cells at c1
   have ct := Ya HB.out.t n.toNat
   rw [HTC.out] at ct
   clear hB1
   go_wp2_with fail
   first
   |exact hK _ (HB.out.same _ (by decide) (by decide))
   |exact HB.out.same _ (by decide) (by decide)
  ·exact ⟨_, rfl⟩
 apply Yf rfl rfl
 ·intro dd K hd hK w5 hB1
  obtain ⟨C, e2, e3, _⟩ := hB1.r.r
  refine Ya8 ⟨0, 0, o, Opd.none, false, 0⟩ (w.heap.size + 1) _ _ rfl rfl rfl e2 e3 ?_
  intro w6 hw6
  exact hK _ (hB1.store (by decide) hw6)
 ·exact ⟨_, rfl⟩
 refine Yal (fun _ w7 dd hall hB1 => ?_)
 obtain ⟨C7, hC, hI⟩ := hB1.r.fin (.inr rfl)
 obtain rfl := hI (hall 9 (by decide))
 have H7 := Yh_ hC
 clear hI hC hall hB1
 go_wp2_with fail
 go_wp2_with fail
 exact bodyPost_ret (Yg rfl (Yi 8 (w.heap.size + 1) _ rfl H7.out.r) (Yk 9 rfl)) rfl ⟨rfl, H7.out.h, H7.out.u⟩
theorem Yqh (d g : Nat) (s : Rd) (v : Value) (L : List Int) (w : World) (hD : Yl w d v L g s) (o : Opd) (n : Int) (hn8 : 0 ≤ n ∧ n < 8) (h7 : n ≠ 7) (hz : Ycn n ≠ 0) :
  Calls Tryz.prog 76 #[.pointer (some ⟨d, 0, none⟩), .int .u8 255, .agg #[.int .i64 o.k, .int .i64 o.r, .int .u32 o.imm, .int .i64 o.b, .int .i64 o.x, .int .u32 o.sc], .int .i64 n] w (Yr d v L g w ⟨⟨Ycn n, 0, o, Opd.none, false, 0⟩, false, { s with bd := false }⟩) := by
 have hmo : Tryz.prog.follows .mixedOrders = true := by kernel_rfl
 have hcell := Yrc n hn8
 have q8 : 0 ≤ n := hn8.1
 have q9 : n < 8 := hn8.2
 have q7 : (n == 7) = false := by simpa using h7
 have q0 : (Ycn n == 0) = false := by simpa using hz
 have c0 := Ya (Yc (.cells #[.int .i64 12, .int .i64 13, .int .i64 30, .int .i64 0, .int .i64 32, .int .i64 0, .int .i64 28, .int .i64 0] 113) (Yc (.cells #[.int .i64 0, .int .i64 0, .int .i64 0, .int .i64 0, .int .u32 0, .int .i64 0, .int .i64 0, .int .u32 0, .int .i64 0, .int .i64 0, .int .u32 0, .int .i64 0, .int .i64 0, .int .u32 0, .bool false, .int .i64 0] 42) (Yc (.cells #[.int .i64 o.k, .int .i64 o.r, .int .u32 o.imm, .int .i64 o.b, .int .i64 o.x, .int .u32 o.sc] 40) hD.h)))
 have f0 := Yh (Yc (.cells #[.int .i64 12, .int .i64 13, .int .i64 30, .int .i64 0, .int .i64 32, .int .i64 0, .int .i64 28, .int .i64 0] 113) (Yc (.cells #[.int .i64 0, .int .i64 0, .int .i64 0, .int .i64 0, .int .u32 0, .int .i64 0, .int .i64 0, .int .u32 0, .int .i64 0, .int .i64 0, .int .u32 0, .int .i64 0, .int .i64 0, .int .u32 0, .bool false, .int .i64 0] 42) (Yc (.cells #[.int .i64 o.k, .int .i64 o.r, .int .u32 o.imm, .int .i64 o.b, .int .i64 o.x, .int .u32 o.sc] 40) hD.h)))
 have H1 := Yh_ (RiM.start0 hD o)
 clear hD hn8 h7 hz
 go_enter Tryz.func76, Tryz.ntmps76
 go_wp2_with fail
 have HT := Yh_ (heap_alloc_new ((w.alloc (.cells #[.int .i64 o.k, .int .i64 o.r, .int .u32 o.imm, .int .i64 o.b, .int .i64 o.x, .int .u32 o.sc] 40)).alloc (.cells #[.int .i64 0, .int .i64 0, .int .i64 0, .int .i64 0, .int .u32 0, .int .i64 0, .int .i64 0, .int .u32 0, .int .i64 0, .int .i64 0, .int .u32 0, .int .i64 0, .int .i64 0, .int .u32 0, .bool false, .int .i64 0] 42)) (.cells #[.int .i64 12, .int .i64 13, .int .i64 30, .int .i64 0, .int .i64 32, .int .i64 0, .int .i64 28, .int .i64 0] 113))
 have HTC := Yh_ hcell
 clear hcell c0 f0
 refine Yaq 10 (RiT w d v L g { s with bd := false } 9 ⟨Ycn n, 0, o, Opd.none, false, 0⟩ (w.heap.size + 1) w.heap.size o (w.heap.size + 1 + 1) #[.int .i64 12, .int .i64 13, .int .i64 30, .int .i64 0, .int .i64 32, .int .i64 0, .int .i64 28, .int .i64 0]) (fun _ _ => False) (by kernel_rfl) (by decide +kernel) (RiT.start ((H1.out.more (.cells #[.int .i64 12, .int .i64 13, .int .i64 30, .int .i64 0, .int .i64 32, .int .i64 0, .int .i64 28, .int .i64 0] 113)).setB false) (((Upd.refl [d] (((w.alloc (.cells #[.int .i64 o.k, .int .i64 o.r, .int .u32 o.imm, .int .i64 o.b, .int .i64 o.x, .int .u32 o.sc] 40)).alloc (.cells #[.int .i64 0, .int .i64 0, .int .i64 0, .int .i64 0, .int .u32 0, .int .i64 0, .int .i64 0, .int .u32 0, .int .i64 0, .int .i64 0, .int .u32 0, .int .i64 0, .int .i64 0, .int .u32 0, .bool false, .int .i64 0] 42)).alloc (.cells #[.int .i64 12, .int .i64 13, .int .i64 30, .int .i64 0, .int .i64 32, .int .i64 0, .int .i64 28, .int .i64 0] 113))).setCell (p := ⟨d, 3, none⟩) (by simp) (.bool false)).get (by first | exact HT.out | (have h := HT.out; simpa using h)) (by have := H1.out.lt; simp; omega)) (by omega)) (fun _ _ _ h => h.elim) ?_
 simp only [List.take_succ_cons, List.take_zero, List.drop_succ_cons, List.drop_zero]
 iterate 9
  apply Yf rfl rfl
  ·intro dd K hd hK w5 hB1
   have HB := Yh_ hB1
   have c1 := Ya HB.out.r.o
   unfold Opd.cells at c1
   have ct := Ya HB.out.t n.toNat
   rw [HTC.out] at ct
   clear hB1
   go_wp2_with fail
   first
   |exact hK _ (HB.out.same _ (by decide) (by decide))
   |exact HB.out.same _ (by decide) (by decide)
  ·exact ⟨_, rfl⟩
 apply Yf rfl rfl
 ·intro dd K hd hK w5 hB1
  obtain ⟨C, e2, e3, _⟩ := hB1.r.r
  refine Ya8 ⟨Ycn n, 0, o, Opd.none, false, 0⟩ (w.heap.size + 1) _ _ rfl rfl rfl e2 e3 ?_
  intro w6 hw6
  exact hK _ (hB1.store (by decide) hw6)
 ·exact ⟨_, rfl⟩
 refine Yal (fun _ w7 dd hall hB1 => ?_)
 obtain ⟨C7, hC, hI⟩ := hB1.r.fin (.inr rfl)
 obtain rfl := hI (hall 9 (by decide))
 have H7 := Yh_ hC
 clear hI hC hall hB1
 go_wp2_with fail
 go_wp2_with fail
 exact bodyPost_ret (Yg rfl (Yi 8 (w.heap.size + 1) _ rfl H7.out.r) (Yk 9 rfl)) rfl ⟨rfl, H7.out.h, H7.out.u⟩
end
end Go.Proofs.YteiplidhkelkbaaGreat
