/-
  Parts of the proof (their names shortened by a program). No condition.
-/
import Derived.Test.YtjkolegknpflfaaDoorMg01
import Derived.Test.YtjkolegknpflfaaDoorMg06
import Derived.Test.YtjkolegknpflfaaDoorMg04
import Derived.Maps.AppendAt
import Derived.Test.YtjkolegknpflfaaDoorMg05
import Derived.Test.YtjkolegknpflfaaDoorMg03
import Derived.ChangeKeysEq
import Derived.Lib.SliceRun
import Derived.Laws.IdiomStrings
import Derived.Outline
import Derived.Test.YtjkolegknpflfaaDoorMg02
import Derived.Deep.QuietTactic
import Derived.BigQuiet
import Derived.ChangeSlices
namespace Go.Proofs.YtjkolegknpflfaaDoor
open Go Go.RowKit
set_option linter.unusedVariables false
set_option linter.unusedSimpArgs false
set_option maxRecDepth 100000
set_option maxHeartbeats 16000000
structure MO where
 k : Nat
 r : Rn
 F : Flt
def DoesM (d ma pb : Nat) (o : MO) (w : World) (e : Ending) (w' : World) : Prop :=
 (o.k = 0 → MRun d ma pb o.r Mem.zero w e w') ∧ (o.k = 1 → MPan d ma pb o.r Mem.zero o.F w e w') ∧
  (o.k = 2 → e = .panicked [{ v := .iface 56 (.agg #[]), recovered := false }] ∧ Ys w' d ma o.r ∧ Yg w' ma pb Mem.zero ∧ Upd [d, pb] w w')
def Yba (f : Mi → Rn → MO) (x : Mi) : Prop := ∀ d ma pb r w, Ybf w d ma pb r Mem.zero → Calls Tryd.prog 14 #[.pointer (some ⟨d, 0, none⟩), .agg x.cells] w (DoesM d ma pb (f x r) w)
def Yae (f : Mi → Rn → MO) : List Mi → Rn → MO
 |[], r => ⟨0, r, Flt.zero⟩
 |x :: l, r => if (f x r).k = 0 then Yae f l (f x r).r else f x r
def Ybr (o : MO) : St := if o.k = 1 then o.r.p else o.r.s
def outF (o : MO) : Flt := if o.k = 1 then { o.F with pc := o.r.p.pc } else Flt.zero
def outK (o : MO) : Bool := !(o.k == 1)
def outQ (o : MO) : Bool := o.k == 2
def rn0 (s : St) : Rn := ⟨s, s, fun _ => 0⟩
theorem Yfc (a : Nat) (s p : St) (w : World) : (Instr.build 54 #[(0, .pointer (some ⟨a, 0, none⟩)), (1, .agg s.cells), (2, .agg p.cells)]).run Tryd.prog w = .ok (.agg (Yj a ⟨s, p, fun _ => 0⟩)) w := by
 unfold St.cells
 kernel_rfl
theorem Ycf {ops : Array Oper} {rest : List Oper} {o : Oper} {a : Act} {w : World} {Q : Exit → Act → World → Prop} (hgd : o.guard = none) (p : Nat) (s s2 : St) (x y z : Operand) (ho : o.op = .build 54 #[(0, x), (1, y), (2, z)]) (hx : a.eval x = .pointer (some ⟨p, 0, none⟩)) (hy : a.eval y = .agg s.cells) (hz : a.eval z = .agg s2.cells)
  (h : wpList Tryd.prog ops Q rest (a.put o.dst (.agg (Yj p ⟨s, s2, fun _ => 0⟩))) w) : wpList Tryd.prog ops Q (o :: rest) a w := by
 refine wpList_plain hgd fun _ hK => ?_
 unfold Oper.wp execOp
 simp only [ho, List.map_toArray, List.map_cons, List.map_nil, hx, hy, hz, Sem.run_bind, Yfc, Result.andThen_ok, Sem.run_pure]
 exact hK _ _ h
structure RuS (w : World) (s : St) (w1 : World) : Prop where
 zs : w1.heap[w.heap.size]? = some (.cells s.cells 28 (0, 0))
 zo : w1.heap[w.heap.size + 1]? = some (.cells St.zero.cells 28 (0, 0))
 zf : w1.heap[w.heap.size + 1 + 1]? = some (.cells #[.int .i64 0, .int .u32 0, .int .u32 0, .int .i64 0] 37 (0, 0))
 zk : w1.heap[w.heap.size + 1 + 1 + 1]? = some (.cells #[.bool false] 4 (0, 0))
 zq : w1.heap[w.heap.size + 1 + 1 + 1 + 1]? = some (.cells #[.bool false] 4 (0, 0))
theorem RuS.keep {w w1 w2 : World} {s : St} {S : List Nat} (h : RuS w s w1) (u : Upd S w1 w2) (hS : ∀ x, x ∈ S → x < w.heap.size ∨ w.heap.size + 4 < x) : RuS w s w2 := by
 have n : ∀ k, k ≤ 4 → w.heap.size + k ∉ S := fun k hk hh => by have := hS _ hh; omega
 exact ⟨u.get h.zs (n 0 (by decide)), u.get h.zo (n 1 (by decide)), u.get h.zf (n 2 (by decide)), u.get h.zk (n 3 (by decide)), u.get h.zq (n 4 (by decide))⟩
def ruW (w : World) (s : St) : World := ((((w.alloc (.cells s.cells 28)).alloc (.cells St.zero.cells 28)).alloc (.cells #[.int .i64 0, .int .u32 0, .int .u32 0, .int .i64 0] 37)).alloc (.cells #[.bool false] 4)).alloc (.cells #[.bool false] 4)
theorem Yfa (w : World) (s : St) : (ruW w s).heap.size = w.heap.size + 1 + 1 + 1 + 1 + 1 := by simp [ruW]
theorem ruW_up (w : World) (s : St) : Upd [] w (ruW w s) := (((((Upd.refl [] w).alloc _).alloc _).alloc _).alloc _).alloc _
theorem RuS.start (w : World) (s : St) : RuS w s (ruW w s) := by
 have h2 := heap_alloc_new ((w.alloc (.cells s.cells 28)).alloc (.cells St.zero.cells 28)) (.cells #[.int .i64 0, .int .u32 0, .int .u32 0, .int .i64 0] 37)
 have h3 := heap_alloc_new (((w.alloc (.cells s.cells 28)).alloc (.cells St.zero.cells 28)).alloc (.cells #[.int .i64 0, .int .u32 0, .int .u32 0, .int .i64 0] 37)) (.cells #[.bool false] 4)
 have h4 := heap_alloc_new ((((w.alloc (.cells s.cells 28)).alloc (.cells St.zero.cells 28)).alloc (.cells #[.int .i64 0, .int .u32 0, .int .u32 0, .int .i64 0] 37)).alloc (.cells #[.bool false] 4)) (.cells #[.bool false] 4)
 rw [show ((w.alloc (.cells s.cells 28)).alloc (.cells St.zero.cells 28)).heap.size = w.heap.size + 1 + 1 from by simp] at h2
 rw [show (((w.alloc (.cells s.cells 28)).alloc (.cells St.zero.cells 28)).alloc (.cells #[.int .i64 0, .int .u32 0, .int .u32 0, .int .i64 0] 37)).heap.size = w.heap.size + 1 + 1 + 1 from by simp] at h3
 rw [show ((((w.alloc (.cells s.cells 28)).alloc (.cells St.zero.cells 28)).alloc (.cells #[.int .i64 0, .int .u32 0, .int .u32 0, .int .i64 0] 37)).alloc (.cells #[.bool false] 4)).heap.size = w.heap.size + 1 + 1 + 1 + 1 from by simp] at h4
 exact ⟨Ye _ (Ye _ (Ye _ (heap_alloc2_old _ _ _))), Ye _ (Ye _ (Ye _ (heap_alloc2_new _ _ _))), Ye _ (Ye _ h2), Ye _ h3, h4⟩
structure RuL (w : World) (s : St) (ma pb d : Nat) (r : Rn) (w1 : World) : Prop where
 v : RuS w s w1
 a : Ybf w1 d ma pb r Mem.zero
 b : w1.heap[d + 1]? = some (.cells #[.pointer (some ⟨d, 0, none⟩)] 52 (0, 0))
 u : Upd [pb] w w1
 lt : w.heap.size + 5 ≤ d ∧ pb < w.heap.size
theorem RuL.call {w w1 w2 : World} {s : St} {ma pb d : Nat} {r r2 : Rn} (h : RuL w s ma pb d r w1) (u : Upd [d, pb] w1 w2) (hr : Ys w2 d ma r2) (hm : Yg w2 ma pb Mem.zero) : RuL w s ma pb d r2 w2 := by
 have hl := h.lt
 refine ⟨h.v.keep u (by simp only [List.mem_cons, List.not_mem_nil, or_false]; intro x hx; omega), ⟨hr, hm, h.a.n⟩, u.get h.b (by simp; omega), h.u.also u (by simp only [List.mem_cons, List.not_mem_nil, or_false]; intro x hx; omega), hl⟩
theorem RuL.quiet {w w1 w2 : World} {s : St} {ma pb d : Nat} {r : Rn} (h : RuL w s ma pb d r w1) (u : Upd [] w1 w2) : RuL w s ma pb d r w2 := h.call (u.mono (by simp)) (h.a.r.keep u (by simp)) (h.a.m.keep u (by simp) (by simp))
theorem RuL.rv {w w1 : World} {s : St} {ma pb d : Nat} {r : Rn} (h : RuL w s ma pb d r w1) : RV w1 (d + 1) (w.heap.size + 1) (w.heap.size + 1 + 1) (w.heap.size + 1 + 1 + 1) (w.heap.size + 1 + 1 + 1 + 1) d ma r := by
 have hl := h.lt
 exact ⟨h.b, h.a.r, ⟨_, h.v.zo, rfl⟩, ⟨_, _, _, _, h.v.zf⟩, ⟨_, h.v.zk⟩, ⟨_, h.v.zq⟩, by omega⟩
theorem Yep (f : Mi → Rn → MO) {l : List Mi} {k : Nat} {x : Mi} (hx : l[k]? = some x) (r : Rn) : Yae f (l.drop k) r = if (f x r).k = 0 then Yae f (l.drop (k + 1)) (f x r).r else f x r := by
 have hk : k < l.length := (List.getElem?_eq_some_iff.1 hx).1
 have e : l.drop k = x :: l.drop (k + 1) := by
  rw [List.drop_eq_getElem_cons hk]
  rw [List.getElem?_eq_getElem hk] at hx
  injection hx with hx
  rw [hx]
 rw [e]
 rfl
def Ydy (rb ob fb kb qb : Nat) : List Deferred :=
 [{ target := .fn (.func 13) #[.pointer (some ⟨rb, 0, none⟩), .pointer (some ⟨ob, 0, none⟩), .pointer (some ⟨fb, 0, none⟩), .pointer (some ⟨kb, 0, none⟩), .pointer (some ⟨qb, 0, none⟩)], args := #[] }]
theorem Yd7 {fn : Func} {tmps : Array Value} {R : Ending → World → Prop} {w1 : World} {rb ob fb kb qb : Nat} (V : Value) (hres : (results fn tmps).run Tryd.prog w1 = .ok V w1) (hR : R (.returned V) w1) :
  Leaves Tryd.prog fn tmps R (Ydy rb ob fb kb qb) .returning w1 := by
 refine leaves_cons (f := 13) (args := #[.pointer (some ⟨rb, 0, none⟩), .pointer (some ⟨ob, 0, none⟩), .pointer (some ⟨fb, 0, none⟩), .pointer (some ⟨kb, 0, none⟩), .pointer (some ⟨qb, 0, none⟩)]) (by simp) (by simp [go_sem]) ?_
 refine (Yf9 rb ob fb kb qb w1).mono ?_
 rintro e u' w2 ⟨rfl, rfl, rfl⟩
 simp only [settle]
 exact ⟨_, hres, hR⟩
theorem Ydf {fn : Func} {tmps : Array Value} {R : Ending → World → Prop} {w1 : World} {rb ob fb kb qb d ma : Nat} {r : Rn} (F : Flt) (V : Value) (h : RV w1 rb ob fb kb qb d ma r)
  (hres : ∀ w2, RO w2 ob fb kb qb r.p { F with pc := r.p.pc } false false → (results fn tmps).run Tryd.prog w2 = .ok V w2) (hR : ∀ w2, Upd [ob, fb, kb, qb] w1 w2 → R (.returned V) w2) :
  Leaves Tryd.prog fn tmps R (Ydy rb ob fb kb qb) (.panicking [{ v := .iface 37 F.val, recovered := false }]) w1 := by
 refine leaves_cons (f := 13) (args := #[.pointer (some ⟨rb, 0, none⟩), .pointer (some ⟨ob, 0, none⟩), .pointer (some ⟨fb, 0, none⟩), .pointer (some ⟨kb, 0, none⟩), .pointer (some ⟨qb, 0, none⟩)]) (by simp) (by simp [go_sem]) ?_
 refine (Yfw rb ob fb kb qb d ma r F.k F.pc F.a F.wt [] w1 h).mono ?_
 rintro e u' w2 ⟨rfl, rfl, hO, hU⟩
 simp only [settle, List.dropWhile_nil]
 exact ⟨_, hres w2 hO, hR w2 hU⟩
theorem Ydv {fn : Func} {tmps : Array Value} {R : Ending → World → Prop} {w1 : World} {rb ob fb kb qb d ma : Nat} {r : Rn} (V : Value) (h : RV w1 rb ob fb kb qb d ma r)
  (hres : ∀ w2, RO w2 ob fb kb qb r.s Flt.zero true true → (results fn tmps).run Tryd.prog w2 = .ok V w2) (hR : ∀ w2, Upd [ob, fb, kb, qb] w1 w2 → R (.returned V) w2) :
  Leaves Tryd.prog fn tmps R (Ydy rb ob fb kb qb) (.panicking [{ v := .iface 56 (.agg #[]), recovered := false }]) w1 := by
 refine leaves_cons (f := 13) (args := #[.pointer (some ⟨rb, 0, none⟩), .pointer (some ⟨ob, 0, none⟩), .pointer (some ⟨fb, 0, none⟩), .pointer (some ⟨kb, 0, none⟩), .pointer (some ⟨qb, 0, none⟩)]) (by simp) (by simp [go_sem]) ?_
 refine (Yga rb ob fb kb qb d ma r [] w1 h).mono ?_
 rintro e u' w2 ⟨rfl, rfl, hO, hU⟩
 simp only [settle, List.dropWhile_nil]
 exact ⟨_, hres w2 hO, hR w2 hU⟩
theorem Yft (f : Mi → Rn → MO) (ma pb g : Nat) (s : St) (v : Value) (l : List Mi) (w : World) (hM : Yg w ma pb Mem.zero) (hs : s.Ok) (hv : MSl w v l g) (hok : ∀ x ∈ l, x.Ok) (hn : l.length ≤ maxLen) (hd : ∀ x ∈ l, Yba f x) (hf3 : ∀ x r, (f x r).k = 0 ∨ (f x r).k = 1 ∨ (f x r).k = 2) (hg : g ≠ pb) (his : isL l = true) :
  Calls Tryd.prog 10 #[.pointer (some ⟨ma, 0, none⟩), .agg s.cells, v] w fun e w' => e = .returned (.tuple #[.agg (Ybr (Yae f l (rn0 s))).cells, (outF (Yae f l (rn0 s))).val, .bool (outK (Yae f l (rn0 s))), .bool (outQ (Yae f l (rn0 s)))]) ∧ Yg w' ma pb Mem.zero ∧ Upd [pb] w w' := by
 obtain ⟨b, c, rfl⟩ := hv.form
 obtain ⟨O, hO⟩ : ∃ O, Yae f l (rn0 s) = O := ⟨_, rfl⟩
 rw [hO]
 have HO := Yh_ hO
 have HM := Yh_ (And.intro hM (And.intro hs (And.intro hv (And.intro hok (And.intro hn (And.intro hd (And.intro hf3 (And.intro hg his))))))))
 have HS := Yh_ (RuS.start w s)
 have U0 := Yh_ (ruW_up w s)
 have Z0 := Yh_ (Yfa w s)
 have HP := Yh_ (And.intro hM.al hM.pl)
 clear hO hM hs hv hok hd hf3 hg his
 obtain ⟨ln, hln⟩ : ∃ ln : Int, ln = (l.length : Int) := ⟨_, rfl⟩
 have ec : ((l.length : Nat) : Int) = ln := hln.symm
 have HL := Yh_ (And.intro hln hn)
 clear hln hn
 have tokL : True := trivial
 have tokR : True := trivial
 go_enter_defers Tryd.func10, Tryd.ntmps10
 go_upto_region 1 with fail
 change Code.wp _ _ _ _ (ruW w s)
 generalize ruW w s = w1 at *
 go_upto_region 5 with (first
  |(have _t := tokR; clear _t; go_at_call 8; refine (Ycm _ l g _ (HM.out.2.2.1.keep U0.out (by simp)) HM.out.2.2.2.1 HM.out.2.2.2.2.1).mono ?_; rintro e w2 ⟨rfl, hu⟩; rw [HM.out.2.2.2.2.2.2.2.2]; have H2 := Yh_ (And.intro (HS.out.keep hu (by simp)) (And.intro (U0.out.also hu (by simp)) (Nat.le_trans (Nat.le_of_eq Z0.out.symm) hu.size))); clear hu tokR)
  |(refine Yah 28 rfl ?_; refine Ybd s w.heap.size rfl _ rfl rfl H2.out.1.zs ?_)
  |(refine Ycf rfl ma s s _ _ _ rfl rfl rfl rfl ?_))
 have hst : RuL w s ma pb w2.heap.size (rn0 s) ((w2.alloc (.cells (Yj ma (rn0 s)) 54)).alloc (.cells #[.pointer (some ⟨w2.heap.size, 0, none⟩)] 52)) := by
  have hu := ((Upd.refl [] w2).alloc (.cells (Yj ma (rn0 s)) 54)).alloc (.cells #[.pointer (some ⟨w2.heap.size, 0, none⟩)] 52)
  have h5 := H2.out.2.2
  have hp := HP.out
  refine ⟨H2.out.1.keep hu (by simp), ⟨⟨Ye _ (heap_alloc_new _ _), HM.out.2.1, HM.out.2.1, fun _ => by show (0 : Int) ≤ 0 ∧ (0 : Int) < 4294967296; decide⟩, (HM.out.1.keep H2.out.2.1 (by simp) (by simp)).keep hu (by simp) (by simp), by omega, by omega⟩, ?_, (H2.out.2.1.also hu (by simp)).mono (by simp), by omega, hp.2⟩
  have := heap_alloc_new (w2.alloc (.cells (Yj ma (rn0 s)) 54)) (.cells #[.pointer (some ⟨w2.heap.size, 0, none⟩)] 52)
  rwa [show (w2.alloc (.cells (Yj ma (rn0 s)) 54)).heap.size = w2.heap.size + 1 from by simp] at this
 have K0 := Yh_ hst
 clear hst H2 U0 Z0 HS
 change Code.wp _ _ _ _ ((w2.alloc (.cells (Yj ma (rn0 s)) 54)).alloc (.cells #[.pointer (some ⟨w2.heap.size, 0, none⟩)] 52))
 generalize (w2.alloc (.cells (Yj ma (rn0 s)) 54)).alloc (.cells #[.pointer (some ⟨w2.heap.size, 0, none⟩)] 52) = w3 at *
 generalize w2.heap.size = d at *
 go_wp2_with fail
 go_loopw [26] (fun i wr => ∃ (q : Int) (r : Rn), i = .int .i64 q ∧ Hid (0 ≤ q ∧ q ≤ ln) ∧ Hid (Yae f (l.drop q.toNat) r = O) ∧ Hid (RuL w s ma pb d r wr)) (fun i _ => (ln - intOf i).toNat)
 case atStart => exact ⟨0, _, rfl, Yh_ (by have := HL.out; omega), HO, K0⟩
 case round =>
  clear K0 HO
  obtain ⟨q, r, rfl, hq, HO, K1⟩ := hrel
  by_cases hlt : q < ln
  ·have d1 : decide (q < ln) = true := by simp [hlt]
   have hq0 := hq.out
   have hl0 := HL.out
   obtain ⟨k, hk⟩ : ∃ k : Nat, q = k := ⟨q.toNat, by omega⟩
   have hkl : k < l.length := by omega
   obtain ⟨x, hx⟩ : ∃ x, l[k]? = some x := ⟨l[k], List.getElem?_eq_getElem hkl⟩
   obtain ⟨o, rfl⟩ := HM.out.2.2.1.block (by omega)
   have HR2 := Yh_ ((HM.out.2.2.1.keep K1.out.u (by simpa using HM.out.2.2.2.2.2.2.2.1)).at hx)
   have hxm : x ∈ l := List.mem_of_getElem? hx
   have hqt : q.toNat = k := by omega
   have hrun := HO.out
   rw [hqt, Yep f hx r] at hrun
   have HX := Yh_ (And.intro hx (And.intro (HM.out.2.2.2.1 x hxm) (And.intro (HM.out.2.2.2.2.2.1 x hxm) hrun)))
   have hb1 : 0 ≤ q ∧ q < ln := by omega
   have e1 : wrap64 (q + 1) = q + 1 := by unfold wrap64; unfold maxLen at hl0; omega
   have HB := Yh_ (And.intro hb1 hqt)
   have h3 := HM.out.2.2.2.2.2.2.1 x r
   clear hx hxm hq0 hl0 hkl hlt hk hrun
   have tokA : True := trivial
   have tokB : True := trivial
   have cb := Yb (((Upd.refl [] wr).alloc (.cells Mi.zero.cells 35)).get K1.out.b (by simp))
   have hlb := Yf K1.out.b
   rcases h3 with h3 | h3 | h3
   all_goals
    have H3 := Yh_ h3
    clear h3
    go_wp2_with (first
     |(have _t := tokA; clear _t; refine Yah 35 rfl ?_; refine Yab rfl 35 _ rfl g (o + k * 7) (by first | rfl | (rw [← HB.out.2]; rfl)) x.cells _ HR2.out Tryd.underlying35 rfl (by rw [Mi.size]; exact Ycs) ?_; clear hqt tokA)
     |(refine Yaw 35 rfl ?_; refine Ybm x wr.heap.size rfl _ _ rfl rfl rfl (heap_alloc_new wr (.cells Mi.zero.cells 35)) rfl ?_; intro w3 hw; have h3 := Ye8 (S := []) (w0 := wr) hw (heap_alloc_new wr (.cells Mi.zero.cells 35)) rfl ((Upd.refl [] wr).alloc _) (.inr (Nat.le_refl _)); clear hw cb; have cb := Yb (h3.2.get K1.out.b (by simp)); have U3 := Yh_ (And.intro (K1.out.quiet h3.2) h3.1); clear h3)
     |(have _t := U3; clear _t; refine Yah 35 rfl ?_; refine Ybt x wr.heap.size rfl _ rfl rfl U3.out.2 ?_)
     |(have _t := U3; clear _t; go_at_call 14; refine (HX.out.2.2.1 d ma pb r _ U3.out.1.a).mono ?_; intro e w4 hd4; first | (have hd5 := hd4.1 H3.out; obtain ⟨rfl, hr, hm, hu⟩ := hd5; have U4 := Yh_ (U3.out.1.call hu hr hm); clear hr hm hu U3 hd4 cb) | (have hd5 := hd4.2.1 H3.out; obtain ⟨rfl, hr, hm, hu⟩ := hd5; have U4 := Yh_ (U3.out.1.call hu hr hm); clear hr hm hu U3 hd4 cb) | (have hd5 := hd4.2.2 H3.out; obtain ⟨rfl, hr, hm, hu⟩ := hd5; have U4 := Yh_ (U3.out.1.call hu hr hm); clear hr hm hu U3 hd4 cb)))
   ·try simp only [e1]
    go_roundw
    case rel => exact ⟨q + 1, _, rfl, Yh_ (by have := HB.out; omega), Yh_ (by have h1 := HX.out.2.2.2; rw [if_pos H3.out] at h1; rw [show (q + 1).toNat = k + 1 by have := HB.out; omega]; exact h1), U4⟩
    case measure => have := HB.out; simp only [intOf]; omega
   ·have hOe : (f x r) = O := by have h1 := HX.out.2.2.2; rw [if_neg (by rw [H3.out]; decide)] at h1; exact h1
    rw [hOe] at U4 H3 ⊢
    have hh := HP.out
    refine Ydf O.F _ U4.out.rv (fun w5 hr => ?_) (fun w5 hu => ⟨rfl, U4.out.a.m.keep hu (by simp; omega) (by simp; omega), U4.out.u.also hu (by simp; omega)⟩)
    rw [Ybr, outF, outK, outQ, if_pos H3.out, if_pos H3.out, H3.out]
    exact Yap rfl (Ybj 6 (w.heap.size + 1) _ rfl hr.o) (Yb7 7 (w.heap.size + 1 + 1) _ rfl hr.f) (Yal 8 (w.heap.size + 1 + 1 + 1) _ rfl hr.k) (Yal 9 (w.heap.size + 1 + 1 + 1 + 1) _ rfl hr.q)
   ·have hOe : (f x r) = O := by have h1 := HX.out.2.2.2; rw [if_neg (by rw [H3.out]; decide)] at h1; exact h1
    rw [hOe] at U4 H3
    have hh := HP.out
    refine Ydv _ U4.out.rv (fun w5 hr => ?_) (fun w5 hu => ⟨rfl, U4.out.a.m.keep hu (by simp; omega) (by simp; omega), U4.out.u.also hu (by simp; omega)⟩)
    rw [Ybr, outF, outK, outQ, if_neg (by rw [H3.out]; decide), if_neg (by rw [H3.out]; decide), H3.out]
    exact Yap rfl (Ybj 6 (w.heap.size + 1) _ rfl hr.o) (Yb7 7 (w.heap.size + 1 + 1) Flt.zero rfl hr.f) (Yal 8 (w.heap.size + 1 + 1 + 1) _ rfl hr.k) (Yal 9 (w.heap.size + 1 + 1 + 1 + 1) _ rfl hr.q)
  ·have hqk : q = ln := by have := hq.out; omega
   subst hqk
   have d1 : decide (q < q) = false := by simp
   have hfin : (⟨0, r, Flt.zero⟩ : MO) = O := by
    have h1 := HO.out
    rw [List.drop_eq_nil_of_le (by have := HL.out; omega)] at h1
    exact h1
   have HFI := Yh_ hfin
   have cb := Yb K1.out.b
   have cd := K1.out.a.r.cell
   have tokS : True := trivial
   clear hlt hfin
   go_wp2_with (first
    |(have _t := tokS; clear _t; refine Yah 28 rfl ?_; refine Yab rfl 28 _ rfl d 1 rfl r.s.cells _ K1.out.a.r.rs Tryd.underlying28 rfl (by rw [St.size]; exact Yag) ?_; clear tokS)
    |(refine Yaw 28 rfl ?_; refine Yac r.s (w.heap.size + 1) rfl _ _ rfl rfl rfl K1.out.v.zo rfl ?_; intro w6 hw; have h6 := Yaj r.s K1.out.v.zo rfl; rw [hw] at h6; have u6 : Upd [w.heap.size + 1] wr w6 := hw ▸ (Upd.refl [w.heap.size + 1] wr).setCells (.inl (by simp)) r.s.cells.toList 0; clear hw; have hf6 := u6.get K1.out.v.zf (by rw [List.mem_singleton]; omega); have hk6 := u6.get K1.out.v.zk (by rw [List.mem_singleton]; omega); have hq6 := u6.get K1.out.v.zq (by rw [List.mem_singleton]; omega); have cf := Yb hf6; have ck := Yb hk6; have cq := Yb hq6; have gf := Yi hf6; have gk := Yi hk6; have gq := Yi hq6; have H6 := Yh_ (And.intro h6 (And.intro hf6 (And.intro hk6 (And.intro hq6 u6)))); clear h6 u6 hf6 hk6 hq6))
   have hend := Yc1 (m := True) Flt.zero true false H6.out.1 H6.out.2.1 H6.out.2.2.1 H6.out.2.2.2.1 ⟨by omega, by omega, by omega, trivial⟩ H6.out.2.2.2.2
   have hh := HP.out
   have hO2 := HFI.out
   subst hO2
   refine Yd7 _ ?_ ⟨rfl, K1.out.a.m.keep hend.2 (by simp; omega) (by simp; omega), K1.out.u.also hend.2 (by simp; omega)⟩
   have hr := hend.1
   exact Yap rfl (Ybj 6 (w.heap.size + 1) _ rfl hr.o) (Yb7 7 (w.heap.size + 1 + 1) Flt.zero rfl hr.f) (Yal 8 (w.heap.size + 1 + 1 + 1) _ rfl hr.k) (Yal 9 (w.heap.size + 1 + 1 + 1 + 1) _ rfl hr.q)
def Yu (D : Mi → Rn → MO) (x : Mi) (r : Rn) : MO :=
 if x.k = 1 then ⟨0, r.setT x.t.toNat x.n, Flt.zero⟩
 else if x.k = 2 then ⟨0, r.setT x.t.toNat (r.s.R x.n.toNat), Flt.zero⟩
 else if x.k = 3 then ⟨0, { r with s := r.s.setR x.n.toNat (r.T x.a.toNat) }, Flt.zero⟩
 else if x.k = 4 then ⟨1, r, Mem.zero.rdF (r.T x.a.toNat) 4 1⟩
 else if x.k = 5 then ⟨1, r, Mem.zero.rdF (r.T x.a.toNat) 1 1⟩
 else if x.k = 6 then ⟨1, r, Mem.zero.wrF (r.T x.a.toNat) 4⟩
 else if x.k = 7 then ⟨1, r, Mem.zero.wrF (r.T x.a.toNat) 1⟩
 else if x.k = 9 then ⟨0, r.setT x.t.toNat (truthI (flagB r.s x.n)), Flt.zero⟩
 else if x.k = 10 then ⟨0, r.setT x.t.toNat (truthI (condB r.s.fl x.n)), Flt.zero⟩
 else if x.k = 11 then ⟨0, r.setT x.t.toNat (selV r x.c x.a x.b), Flt.zero⟩
 else if x.k = 14 then ⟨0, { r with s := r.s.setPc (r.T x.a.toNat) }, Flt.zero⟩
 else if x.k = 15 then ⟨2, { r with s := r.s.setPc x.n }, Flt.zero⟩
 else if x.k = 16 then ⟨0, ⟨r.s.setPc x.n, r.s.setPc x.n, r.T⟩, Flt.zero⟩
 else if x.k = 17 then ⟨0, { r with s := r.s.setDf (x.n == 1) }, Flt.zero⟩
 else D x r
def MO.G (o : MO) : Prop := o.k = 0 ∨ o.k = 1 ∨ o.k = 2
theorem MO.ite_g (p : Prop) [Decidable p] {a b : MO} (ha : a.G) (hb : b.G) : (if p then a else b).G := by split; exact ha; exact hb
theorem Yem {D : Mi → Rn → MO} (hD : ∀ x r, (D x r).k = 0 ∨ (D x r).k = 1 ∨ (D x r).k = 2) (x : Mi) (r : Rn) : (Yu D x r).k = 0 ∨ (Yu D x r).k = 1 ∨ (Yu D x r).k = 2 := by
 show (Yu D x r).G
 unfold Yu
 repeat (first | exact hD x r | refine MO.ite_g _ (by first | exact .inl rfl | exact .inr (.inl rfl) | exact .inr (.inr rfl)) ?_)
theorem zero_can (x r : Int) (h : r = 1 ∨ r = 2 ∨ r = 4) : Mem.zero.can x r = false := by
 rcases h with rfl | rfl | rfl <;> (unfold Mem.can Mem.zero; simp; intro _; decide)
theorem zero_bad (x r : Int) (h : r = 1 ∨ r = 2 ∨ r = 4) (n : Nat) (hn : 0 < n) : Mem.zero.bad x r n ≠ none := by
 unfold Mem.bad
 intro hh
 rw [List.find?_eq_none] at hh
 have := hh 0 (by simpa using hn)
 simp [zero_can _ _ h] at this
theorem Yf8 (x : Int) : Mem.zero.readK x 4 1 = false ∧ Mem.zero.readK x 1 1 = false := by
 constructor
 all_goals
  unfold Mem.readK
  rw [Bool.eq_false_iff]
  intro hh
  rw [Option.isNone_iff_eq_none] at hh
  exact zero_bad _ _ (by decide) _ (by decide) hh
theorem Mi.in_of {x : Mi} (h : x.is = true) (hx : x.Ok) : x.In := by
 have h1 : x.tOk = true := by unfold Mi.is at h; rw [Bool.and_eq_true] at h; exact h.1
 have h2 := (Mi.tOk_all x).1 h1
 exact ⟨Yaq (h2 0 (by decide) (by decide)), Yaq (h2 1 (by decide) (by decide)), Yaq (h2 2 (by decide) (by decide)), Yaq (h2 3 (by decide) (by decide)), hx.n⟩
theorem Mi.k_of {x : Mi} (h : x.is = true) : x.kOk = true := by unfold Mi.is at h; rw [Bool.and_eq_true] at h; exact h.2
theorem btw_iff {n lo hi : Int} : btw n lo hi = true ↔ lo ≤ n ∧ n ≤ hi := by simp [btw]
theorem run_of {d ma pb : Nat} {r r' : Rn} {w w' : World} {e : Ending} (h : Ybf w d ma pb r Mem.zero) (h1 : e = .returned (.tuple #[]) ∧ Ys w' d ma r' ∧ Upd [d] w w') : MRun d ma pb r' Mem.zero w e w' :=
 ⟨h1.1, h1.2.1, h.m.keep h1.2.2 (by simpa using h.n.1.symm) (by simpa using h.n.2.symm), h1.2.2.mono (by simp)⟩
theorem Yc6 {D : Mi → Rn → MO} {d ma pb : Nat} {r r' : Rn} {w : World} {x : Mi} {Q : Ending → World → Prop} (h : Ybf w d ma pb r Mem.zero) (hf : Yu D x r = ⟨0, r', Flt.zero⟩) {F : Nat} {A : Array Value}
  (hc : Calls Tryd.prog F A w fun e w' => e = .returned (.tuple #[]) ∧ Ys w' d ma r' ∧ Upd [d] w w') : Calls Tryd.prog F A w (DoesM d ma pb (Yu D x r) w) :=
 hc.mono fun e w' hh => by rw [hf]; exact ⟨fun _ => run_of h hh, fun hh => (by cases hh), fun hh => (by cases hh)⟩
theorem Yd2 {D : Mi → Rn → MO} {x : Mi} (hk : x.k = 1) (h : x.is = true) (hx : x.Ok) : Yba (Yu D) x := fun d ma pb r w hw => by
 obtain ⟨k, t, a, b, c, n, fl⟩ := x
 obtain rfl : k = 1 := hk
 exact Yc6 (Q := fun _ _ => True) hw rfl (Yfz d ma r t a b c n fl w hw.r (Mi.in_of h hx))
theorem Ydm {D : Mi → Rn → MO} {x : Mi} (hk : x.k = 3) (h : x.is = true) (hx : x.Ok) : Yba (Yu D) x := fun d ma pb r w hw => by
 obtain ⟨k, t, a, b, c, n, fl⟩ := x
 obtain rfl : k = 3 := hk
 have h8 : n < 8 := by have := btw_iff.1 (show btw n 0 7 = true from Mi.k_of h); omega
 exact Yc6 (Q := fun _ _ => True) hw rfl (Yfg d ma r t a b c n fl w hw.r (Mi.in_of h hx) h8)
theorem as_goto {D : Mi → Rn → MO} {x : Mi} (hk : x.k = 14) (h : x.is = true) (hx : x.Ok) : Yba (Yu D) x := fun d ma pb r w hw => by
 obtain ⟨k, t, a, b, c, n, fl⟩ := x
 obtain rfl : k = 14 := hk
 exact Yc6 (Q := fun _ _ => True) hw rfl (Ygb d ma r t a b c n fl w hw.r (Mi.in_of h hx))
theorem Ye4 {D : Mi → Rn → MO} {x : Mi} (hk : x.k = 16) (h : x.is = true) (hx : x.Ok) : Yba (Yu D) x := fun d ma pb r w hw => by
 obtain ⟨k, t, a, b, c, n, fl⟩ := x
 obtain rfl : k = 16 := hk
 exact Yc6 (Q := fun _ _ => True) hw rfl (Yf0 d ma r t a b c n fl w hw.r (Mi.in_of h hx))
theorem as_ask {D : Mi → Rn → MO} {x : Mi} (hk : x.k = 15) (h : x.is = true) (hx : x.Ok) : Yba (Yu D) x := fun d ma pb r w hw => by
 obtain ⟨k, t, a, b, c, n, fl⟩ := x
 obtain rfl : k = 15 := hk
 refine (does_ask d ma r t a b c n fl w hw.r (Mi.in_of h hx)).mono fun e w' hh => ?_
 exact ⟨fun hh => (by cases hh), fun hh => (by cases hh), fun _ => ⟨hh.1, hh.2.1, hw.m.keep hh.2.2 (by simpa using hw.n.1.symm) (by simpa using hw.n.2.symm), hh.2.2.mono (by simp)⟩⟩
theorem does_pan {D : Mi → Rn → MO} {d ma pb : Nat} {r : Rn} {w : World} {x : Mi} {F : Flt} (hf : Yu D x r = ⟨1, r, F⟩) {fn : Nat} {A : Array Value}
  (hc : Calls Tryd.prog fn A w (fun e w' => if false = true then MRun d ma pb r Mem.zero w e w' else MPan d ma pb r Mem.zero F w e w')) : Calls Tryd.prog fn A w (DoesM d ma pb (Yu D x r) w) :=
 hc.mono fun e w' hh => by rw [hf]; exact ⟨fun hh => (by cases hh), fun _ => hh, fun hh => (by cases hh)⟩
theorem as_load {D : Mi → Rn → MO} {x : Mi} (hk : x.k = 4) (h : x.is = true) (hx : x.Ok) : Yba (Yu D) x := fun d ma pb r w hw => by
 obtain ⟨k, t, a, b, c, n, fl⟩ := x
 obtain rfl : k = 4 := hk
 exact does_pan rfl (Yfx d ma pb r Mem.zero 4 t a b c n fl w hw (Mi.in_of h hx) (by decide) (fun w1 => MPan d ma pb r Mem.zero (Mem.zero.rdF (r.T a.toNat) 4 1) w1) false
  (fun w1 h1 => Ygd d ma pb r Mem.zero t a b c n _ _ fl w1 h1 (h1.r.ok.T _) (h1.r.ok.T _) (Yf8 _).1) r _ (fun w1 e w' hh => hh))
section
open Go.Shelf
theorem ms_extra : Builder.Extra Tryd.prog Yc3 where
 sizeBuilder := by kernel_rfl
 liesBuilder := by kernel_rfl
 t5 := Tryd.underlying5
 a5 := Tryd.isAgg5
 z5 := Tryd.sizeOf5
 v5 := Tryd.zeroValue5
 infoByte := by kernel_rfl
 cellsByte := by kernel_rfl
 sizeByte := by kernel_rfl
 neB5 := by decide
def Yo (z : Int) : ByteArray := ⟨#[(48 + z.toNat).toUInt8]⟩
theorem Yfs (z : Int) (hz : z = 0 ∨ z = 1 ∨ z = 7) (w : World) : Calls Tryd.prog 42 #[.int .i64 z] w fun e w' => e = .returned (.string (Yo z)) ∧ w = w' := by
 rcases hz with rfl | rfl | rfl
 all_goals
  go_enter Tryd.func42, Tryd.ntmps42
  go_wp2
  go_ret
  exact ⟨rfl, rfl⟩
theorem Ydh (z : Int) (hz : z = 0 ∨ z = 1) (w : World) : Calls Tryd.prog 15 #[.int .i64 z] w fun e w' => e = .returned (.string (Yo z)) ∧ w = w' := by
 have H := Yh_ (show z = 0 ∨ z = 1 ∨ z = 7 by omega)
 rcases hz with rfl | rfl
 all_goals
  go_enter Tryd.func15, Tryd.ntmps15
  go_wp2_with (first | (go_at_call 42; refine (Yfs _ H.out _).mono ?_; rintro e w' ⟨rfl, rfl⟩) | go_in)
  go_ret
  exact ⟨rfl, rfl⟩
theorem mtFmt (w : World) : Calls Tryd.prog 16 #[.int .u64 7, .int .i64 10] w fun e w' => e = .returned (.string (Yo 7)) ∧ w = w' := by
 go_enter Tryd.func16, Tryd.ntmps16
 go_wp2_with (first | (go_at_call 42; refine (Yfs _ (by decide) _).mono ?_; rintro e w' ⟨rfl, rfl⟩) | go_in)
 go_ret
 exact ⟨rfl, rfl⟩
theorem mt_info : (Tryd.prog.info? 9).map (fun i => (i.zero, i.size, i.bytes)) = some (some (.string ⟨#[]⟩), 1, 16) := by kernel_rfl
def mtStrs : List Value := [.string (Yo 1), .string (Yo 1), .string (Yo 0), .string (Yo 0), .string (Yo 0)]
structure MtB (w w1 : World) : Prop where
 x : w1.heap[w.heap.size]? = some (.cells (⟨1, 1, 0, 0, 0, 7, false⟩ : Mi).cells 35 (0, 0))
 l : w1.heap[w.heap.size + 1]? = some (.cells #[.int .i64 1, .int .i64 1, .int .i64 0, .int .i64 0, .int .i64 0] 3 (0, 0))
 u : Upd [] w w1
theorem MtB.le {w w1 : World} (h : MtB w w1) : w.heap.size + 1 + 1 ≤ w1.heap.size := Yf h.l
theorem Ybq {w w1 w2 : World} {S : List Nat} (h : MtB w w1) (u : Upd S w1 w2) (hS : ∀ z ∈ S, w.heap.size + 1 + 1 ≤ z) : MtB w w2 :=
 ⟨u.get h.x (fun hh => by have := hS _ hh; omega), u.get h.l (fun hh => by have := hS _ hh; omega), h.u.also u (fun z hz => .inr (by have := hS z hz; omega))⟩
theorem Yb8 (w : World) (x : ByteArray) : ∀ (t : Nat) u, [Value.string x][t]? = some u → (w.alloc (.cells #[.string x] 9)).cell? ((⟨w.heap.size, 0, none⟩ : Addr).add t) = some u := by
 intro t u hu
 rcases t with _ | t
 ·simp only [List.getElem?_cons_zero, Option.some.injEq] at hu
  subst hu
  rw [Addr.add_mid, Yb (heap_alloc_new _ _)]
  rfl
 ·simp at hu
theorem Ycp (x : ByteArray) : ∀ u ∈ [Value.string x], u.oneCell' = true := by
 intro u hu
 simp only [List.mem_singleton] at hu
 subst hu; rfl
theorem mt_form {w : World} {base : Nat} {v : Value} (h : w.ownsRow base 9 1 v 6 [.string (Yo 1), .string (Yo 1), .string (Yo 0), .string (Yo 0), .string (Yo 0), .string (Yo 7)]) :
  ∃ g cap, v = .slice (some ⟨g, 0, none⟩) 6 cap ∧ g < w.heap.size ∧ (∀ (j : Nat) x, [Yo 1, Yo 1, Yo 0, Yo 0, Yo 0, Yo 7][j]? = some x → w.cell? ⟨g, 0 + j, none⟩ = some (.string x)) ∧ 6 ≤ cap := by
 rcases h.2 with ⟨_, h0⟩ | ⟨g, cap, cur, rfl, hb, hg, hnc, hcur⟩
 ·cases h0
 ·refine ⟨g, cap, rfl, Yf hg, fun j x hx => ?_, by omega⟩
  rw [Yb hg, Nat.zero_add]
  have hj : j < 6 := (List.getElem?_eq_some_iff.1 hx).1
  have e1 : cur[j]? = (List.take (6 * 1) cur.toList)[j]? := by rw [List.getElem?_take, if_pos (by omega), Array.getElem?_toList]
  rw [e1, hcur.2.2]
  have hj' : j = 0 ∨ j = 1 ∨ j = 2 ∨ j = 3 ∨ j = 4 ∨ j = 5 := by omega
  rcases hj' with rfl | rfl | rfl | rfl | rfl | rfl <;> (simp only [List.getElem?_cons_zero, List.getElem?_cons_succ, Option.some.injEq] at hx ⊢; rw [hx])
theorem mt_join (g cap : Nat) (w : World) (hc : ∀ (j : Nat) x, [Yo 1, Yo 1, Yo 0, Yo 0, Yo 0, Yo 7][j]? = some x → w.cell? ⟨g, 0 + j, none⟩ = some (.string x)) (hg : g < w.heap.size) (h6 : 6 ≤ cap) :
  Calls Tryd.prog 17 #[.slice (some ⟨g, 0, none⟩) 6 cap, .string ⟨#[32]⟩] w fun e w' => e = .returned (.string ⟨#[49, 32, 49, 32, 48, 32, 48, 32, 48, 32, 55]⟩) ∧ Upd [] w w' := by
 have h := Any.strings_Join (ρ := Yc3) msJoin ms_extra g 0 cap [Yo 1, Yo 1, Yo 0, Yo 0, Yo 0, Yo 7] ⟨#[32]⟩ w hc hg (by decide) h6 (by decide +kernel)
 refine Calls.mono h fun e w' ⟨he, hb⟩ => ⟨?_, Upd.of_below hb⟩
 rw [he]
 have e2 : (Lib.join ([Yo 1, Yo 1, Yo 0, Yo 0, Yo 0, Yo 7].map (·.data.toList)) (⟨#[32]⟩ : ByteArray).data.toList) = [49, 32, 49, 32, 48, 32, 48, 32, 48, 32, 55] := by decide +kernel
 rw [e2]
theorem Text_one (w : World) : Calls Tryd.prog 11 #[.agg #[.int .i64 1, .int .i64 1, .int .i64 0, .int .i64 0, .int .i64 0, .int .u32 7, .bool false]] w fun e w' => e = .returned (.string ⟨#[49, 32, 49, 32, 48, 32, 48, 32, 48, 32, 55]⟩) ∧ Upd [] w w' := by
 obtain ⟨i0, hi, hz0, hz1, hz2⟩ := info_parts mt_info
 have HI := Yh_ (And.intro hi (And.intro hz0 (And.intro hz1 hz2)))
 clear hi hz0 hz1 hz2
 have HB0 := Yh_ (show MtB w ((w.alloc (.cells #[.int .i64 1, .int .i64 1, .int .i64 0, .int .i64 0, .int .i64 0, .int .u32 7, .bool false] 35)).alloc (.cells #[.int .i64 1, .int .i64 1, .int .i64 0, .int .i64 0, .int .i64 0] 3)) from
  ⟨heap_alloc2_old _ _ _, heap_alloc2_new _ _ _, ((Upd.refl [] w).alloc _).alloc _⟩)
 go_enter Tryd.func11, Tryd.ntmps11
 go_wp2_with fail
 generalize (w.alloc (.cells #[.int .i64 1, .int .i64 1, .int .i64 0, .int .i64 0, .int .i64 0, .int .u32 7, .bool false] 35)).alloc (.cells #[.int .i64 1, .int .i64 1, .int .i64 0, .int .i64 0, .int .i64 0] 3) = w0 at *
 go_loopw [3, 18] (fun v i wr => ∃ q : Int, i = .int .i64 q ∧ Hid (0 ≤ q ∧ q ≤ 5) ∧ Hid (wr.ownsRow (w.heap.size + 1 + 1) 9 1 v q.toNat (mtStrs.take q.toNat)) ∧ Hid (MtB w wr)) (fun _ i _ => (5 - intOf i).toNat)
 case atStart => exact ⟨0, rfl, Yh_ (by decide), Yh_ (World.ownsRow_nil _ _ _ _), HB0⟩
 case round =>
  obtain ⟨q, rfl, hq, HO, HB⟩ := hrel
  have hq5 : q = 0 ∨ q = 1 ∨ q = 2 ∨ q = 3 ∨ q = 4 ∨ q = 5 := by have := hq.out; omega
  have cx := Yb HB.out.x
  have cl := Yb HB.out.l
  have hlx := Yf HB.out.x
  have hll := Yf HB.out.l
  unfold Mi.cells at cx
  have tok : True := trivial
  rcases hq5 with rfl | rfl | rfl | rfl | rfl | rfl
  ·go_wp2_with (first
    |(go_at_call 15; refine (Ydh 1 (by decide) _).mono ?_; rintro e w' ⟨rfl, rfl⟩)
    |(have _t := tok; clear _t; at_builtin; refine wpList_append_own _ rfl _ _ 58 rfl (w.heap.size + 1 + 1) 9 i0 (.string ⟨#[]⟩) 1 16 Tryd.underlying58 HI.out.1 HI.out.2.1 HI.out.2.2.1 HI.out.2.2.2 rfl (by decide) _ _ _ rfl (HO.out.alloc _) ⟨wr.heap.size, 0, none⟩ 1 1 [.string (Yo 1)] rfl rfl ?_ ?_ ?_ ?_ ?_ ?_; clear tok))
   ·exact Yb8 _ _
   ·exact Ycp _
   ·unfold maxLen; decide
   ·decide
   ·have := HB.out.le; simp; omega
   ·intro v' w1 hown' hgrow _
    have hU1 := Upd.of_grown hgrow
    have hne := HO.out.lt
    have HB2 := Yh_ (Ybq HB.out (((Upd.refl [] wr).alloc (.cells #[.string (Yo 1)] 9)).trans (T := _) hU1 (by simp) (fun z hz => .inl hz)) (fun z hz => (hne z (by simpa using hz)).1))
    have HO2 := Yh_ hown'
    clear hU1 hne hown' hgrow HO HB cx cl hlx hll
    go_wp2_with fail
    go_roundw
    case rel => exact ⟨1, rfl, Yh_ (by decide), HO2, HB2⟩
    case measure => decide
  ·go_wp2_with (first
    |(go_at_call 15; refine (Ydh 1 (by decide) _).mono ?_; rintro e w' ⟨rfl, rfl⟩)
    |(have _t := tok; clear _t; at_builtin; refine wpList_append_own _ rfl _ _ 58 rfl (w.heap.size + 1 + 1) 9 i0 (.string ⟨#[]⟩) 1 16 Tryd.underlying58 HI.out.1 HI.out.2.1 HI.out.2.2.1 HI.out.2.2.2 rfl (by decide) _ _ _ rfl (HO.out.alloc _) ⟨wr.heap.size, 0, none⟩ 1 1 [.string (Yo 1)] rfl rfl ?_ ?_ ?_ ?_ ?_ ?_; clear tok))
   ·exact Yb8 _ _
   ·exact Ycp _
   ·unfold maxLen; decide
   ·decide
   ·have := HB.out.le; simp; omega
   ·intro v' w1 hown' hgrow _
    have hU1 := Upd.of_grown hgrow
    have hne := HO.out.lt
    have HB2 := Yh_ (Ybq HB.out (((Upd.refl [] wr).alloc (.cells #[.string (Yo 1)] 9)).trans (T := _) hU1 (by simp) (fun z hz => .inl hz)) (fun z hz => (hne z (by simpa using hz)).1))
    have HO2 := Yh_ hown'
    clear hU1 hne hown' hgrow HO HB cx cl hlx hll
    go_wp2_with fail
    go_roundw
    case rel => exact ⟨2, rfl, Yh_ (by decide), HO2, HB2⟩
    case measure => decide
  ·go_wp2_with (first
    |(go_at_call 15; refine (Ydh 0 (by decide) _).mono ?_; rintro e w' ⟨rfl, rfl⟩)
    |(have _t := tok; clear _t; at_builtin; refine wpList_append_own _ rfl _ _ 58 rfl (w.heap.size + 1 + 1) 9 i0 (.string ⟨#[]⟩) 1 16 Tryd.underlying58 HI.out.1 HI.out.2.1 HI.out.2.2.1 HI.out.2.2.2 rfl (by decide) _ _ _ rfl (HO.out.alloc _) ⟨wr.heap.size, 0, none⟩ 1 1 [.string (Yo 0)] rfl rfl ?_ ?_ ?_ ?_ ?_ ?_; clear tok))
   ·exact Yb8 _ _
   ·exact Ycp _
   ·unfold maxLen; decide
   ·decide
   ·have := HB.out.le; simp; omega
   ·intro v' w1 hown' hgrow _
    have hU1 := Upd.of_grown hgrow
    have hne := HO.out.lt
    have HB2 := Yh_ (Ybq HB.out (((Upd.refl [] wr).alloc (.cells #[.string (Yo 0)] 9)).trans (T := _) hU1 (by simp) (fun z hz => .inl hz)) (fun z hz => (hne z (by simpa using hz)).1))
    have HO2 := Yh_ hown'
    clear hU1 hne hown' hgrow HO HB cx cl hlx hll
    go_wp2_with fail
    go_roundw
    case rel => exact ⟨3, rfl, Yh_ (by decide), HO2, HB2⟩
    case measure => decide
  ·go_wp2_with (first
    |(go_at_call 15; refine (Ydh 0 (by decide) _).mono ?_; rintro e w' ⟨rfl, rfl⟩)
    |(have _t := tok; clear _t; at_builtin; refine wpList_append_own _ rfl _ _ 58 rfl (w.heap.size + 1 + 1) 9 i0 (.string ⟨#[]⟩) 1 16 Tryd.underlying58 HI.out.1 HI.out.2.1 HI.out.2.2.1 HI.out.2.2.2 rfl (by decide) _ _ _ rfl (HO.out.alloc _) ⟨wr.heap.size, 0, none⟩ 1 1 [.string (Yo 0)] rfl rfl ?_ ?_ ?_ ?_ ?_ ?_; clear tok))
   ·exact Yb8 _ _
   ·exact Ycp _
   ·unfold maxLen; decide
   ·decide
   ·have := HB.out.le; simp; omega
   ·intro v' w1 hown' hgrow _
    have hU1 := Upd.of_grown hgrow
    have hne := HO.out.lt
    have HB2 := Yh_ (Ybq HB.out (((Upd.refl [] wr).alloc (.cells #[.string (Yo 0)] 9)).trans (T := _) hU1 (by simp) (fun z hz => .inl hz)) (fun z hz => (hne z (by simpa using hz)).1))
    have HO2 := Yh_ hown'
    clear hU1 hne hown' hgrow HO HB cx cl hlx hll
    go_wp2_with fail
    go_roundw
    case rel => exact ⟨4, rfl, Yh_ (by decide), HO2, HB2⟩
    case measure => decide
  ·go_wp2_with (first
    |(go_at_call 15; refine (Ydh 0 (by decide) _).mono ?_; rintro e w' ⟨rfl, rfl⟩)
    |(have _t := tok; clear _t; at_builtin; refine wpList_append_own _ rfl _ _ 58 rfl (w.heap.size + 1 + 1) 9 i0 (.string ⟨#[]⟩) 1 16 Tryd.underlying58 HI.out.1 HI.out.2.1 HI.out.2.2.1 HI.out.2.2.2 rfl (by decide) _ _ _ rfl (HO.out.alloc _) ⟨wr.heap.size, 0, none⟩ 1 1 [.string (Yo 0)] rfl rfl ?_ ?_ ?_ ?_ ?_ ?_; clear tok))
   ·exact Yb8 _ _
   ·exact Ycp _
   ·unfold maxLen; decide
   ·decide
   ·have := HB.out.le; simp; omega
   ·intro v' w1 hown' hgrow _
    have hU1 := Upd.of_grown hgrow
    have hne := HO.out.lt
    have HB2 := Yh_ (Ybq HB.out (((Upd.refl [] wr).alloc (.cells #[.string (Yo 0)] 9)).trans (T := _) hU1 (by simp) (fun z hz => .inl hz)) (fun z hz => (hne z (by simpa using hz)).1))
    have HO2 := Yh_ hown'
    clear hU1 hne hown' hgrow HO HB cx cl hlx hll
    go_wp2_with fail
    go_roundw
    case rel => exact ⟨5, rfl, Yh_ (by decide), HO2, HB2⟩
    case measure => decide
  ·have tokF : True := trivial
   go_wp2_with (first
    |(have _t := tokF; clear _t; go_at_call 16; refine (mtFmt _).mono ?_; rintro e w' ⟨rfl, rfl⟩; clear tokF)
    |(have _t := tok; clear _t; at_builtin; refine wpList_append_own _ rfl _ _ 58 rfl (w.heap.size + 1 + 1) 9 i0 (.string ⟨#[]⟩) 1 16 Tryd.underlying58 HI.out.1 HI.out.2.1 HI.out.2.2.1 HI.out.2.2.2 rfl (by decide) _ _ _ rfl (HO.out.alloc _) ⟨wr.heap.size, 0, none⟩ 1 1 [.string (Yo 7)] rfl rfl ?_ ?_ ?_ ?_ ?_ ?_; clear tok))
   ·exact Yb8 _ _
   ·exact Ycp _
   ·unfold maxLen; decide
   ·decide
   ·have := HB.out.le; simp; omega
   ·intro v' w1 hown' hgrow _
    have hU1 := Upd.of_grown hgrow
    have hne := HO.out.lt
    have hB2 := Ybq HB.out (((Upd.refl [] wr).alloc (.cells #[.string (Yo 7)] 9)).trans (T := _) hU1 (by simp) (fun z hz => .inl hz)) (fun z hz => (hne z (by simpa using hz)).1)
    have HB2 := Yh_ hB2
    have cx := Yb hB2.x
    unfold Mi.cells at cx
    obtain ⟨g, cap, rfl, hgl, hcc⟩ := mt_form hown'
    have HC := Yh_ hcc
    clear hU1 hne hown' hgrow HO HB cl hlx hll hcc hB2
    go_wp2_with (go_at_call 17; refine (mt_join g cap _ HC.out.1 hgl HC.out.2).mono ?_; rintro e w5 ⟨rfl, hu⟩; have H5 := Yh_ (HB2.out.u.also hu (by simp)); clear hu)
    go_ret
    exact ⟨rfl, H5.out⟩
end
theorem mi_info3 : (Tryd.prog.info? 35).map (fun i => (i.zero, i.size, i.bytes)) = some (some (.agg Mi.zero.cells), 7, 48) := by kernel_rfl
def Yaz (w : World) (base : Nat) (v : Value) (l : List Mi) : Prop := w.ownsRow base 35 7 v l.length (Yp l)
structure GrewM (w : World) (base : Nat) (v : Value) (l : List Mi) (v' : Value) (w' : World) : Prop where
 o : Yaz w' base v' l
 u : Upd v.ownBlock.toList w w'
theorem ownM_nil (w : World) (base : Nat) : Yaz w base (.slice none 0 0) [] := World.ownsRow_nil _ _ _ _
theorem Yaz.keep {w w' : World} {base : Nat} {v : Value} {l : List Mi} {S : List Nat} (h : Yaz w base v l) (u : Upd S w w') (hS : ∀ g, v.ownBlock = some g → g ∉ S) : Yaz w' base v l := by
 refine ⟨h.1, ?_⟩
 rcases h.2 with h0 | ⟨g, cap, cur, rfl, hb, hg, hr⟩
 ·exact .inl h0
 ·exact .inr ⟨g, cap, cur, rfl, hb, u.get hg (hS g rfl), hr⟩
theorem Yaz.block {w : World} {base : Nat} {v : Value} {l : List Mi} (h : Yaz w base v l) : ∀ g, v.ownBlock = some g → base ≤ g ∧ g < w.heap.size := by
 intro g e
 rcases h.2 with ⟨rfl, _⟩ | ⟨g', cap, cur, rfl, hb, hg, hr⟩
 ·cases e
 ·simp only [Value.ownBlock, Option.some.injEq] at e
  subst e
  exact ⟨hb, Yf hg⟩
theorem Yaz.old {w w' : World} {base : Nat} {v : Value} {l : List Mi} {S : List Nat} (h : Yaz w base v l) (u : Upd S w w') (hS : ∀ g ∈ S, g < base ∨ w.heap.size ≤ g) : Yaz w' base v l :=
 h.keep u fun g e hg => by have := h.block g e; have := hS g hg; omega
theorem Yaz.form {w : World} {base : Nat} {v : Value} {l : List Mi} (h : Yaz w base v l) : ∃ a c, v = .slice a l.length c := by
 rcases h.2 with ⟨h1, h2⟩ | ⟨g, cap, cur, h1, _⟩
 ·exact ⟨none, 0, by rw [h1, h2]⟩
 ·exact ⟨_, _, h1⟩
theorem Yaz.sl {w : World} {base : Nat} {v : Value} {l : List Mi} (h : Yaz w base v l) : ∃ g, MSl w v l g ∧ (base ≤ g ∨ g = 0) ∧ (l ≠ [] → base ≤ g) := by
 rcases h.2 with ⟨h1, h2⟩ | ⟨g, cap, cur, h1, hb, hg, hn, _, _, hc⟩
 ·exact ⟨0, .inl ⟨none, 0, h1, List.eq_nil_of_length_eq_zero h2⟩, .inr rfl, fun hh => absurd (List.eq_nil_of_length_eq_zero h2) hh⟩
 ·refine ⟨g, .inr ⟨0, cap, h1, Yf hg, fun k u hu => ?_⟩, .inl hb, fun _ => hb⟩
  rw [← hc] at hu
  rw [Yb hg, Nat.zero_add, ← Array.getElem?_toList]
  rw [List.getElem?_take] at hu
  split at hu
  ·exact hu
  ·cases hu
theorem Ybx {w : World} {g c : Nat} {l : List Mi} {T : TypeId} {f : Nat × Nat} (h : w.heap[g]? = some (.cells (Yp l).toArray T f)) : MSl w (.slice (some ⟨g, 0, none⟩) l.length c) l g :=
 .inr ⟨0, c, rfl, Yf h, fun k u hu => by rw [Yb h, Nat.zero_add, List.getElem?_toArray]; exact hu⟩
theorem Ygk {w : World} {base g c : Nat} {l : List Mi} (h : w.heap[g]? = some (.cells (Yp l).toArray 35 (0, 0))) (hb : base ≤ g) (hl : l.length ≤ maxLen) : Yaz w base (.slice (some ⟨g, 0, none⟩) l.length l.length) l :=
 ⟨Yby l, .inr ⟨g, l.length, _, rfl, hb, h, Nat.le_refl _, hl, by rw [List.size_toArray, Yby], by rw [List.take_of_length_le (by rw [show (Yp l).toArray.toList = Yp l from rfl, Yby]; exact Nat.le_refl _)]⟩⟩
theorem Yf2 (l : List Mi) (k : Nat) : Yp (l.take k) = (Yp l).take (k * 7) := by
 induction l generalizing k with
 |nil => simp [Yp]
 |cons x l ih =>
  cases k with
  |zero => simp [Yp]
  |succ k =>
   rw [List.take_succ_cons, Yb6, Yb6, ih]
   have e : ((k + 1) * 7) = x.cells.toList.length + k * 7 := by rw [Ycl]; omega
   rw [e, List.take_length_add_append]
theorem MSl.cut {w : World} {b : Option Addr} {n c : Nat} {l : List Mi} {g : Nat} (h : MSl w (.slice b n c) l g) (k : Nat) (hk : k ≤ l.length) : MSl w (.slice b k c) (l.take k) g := by
 rcases h with ⟨a, c', h1, h2⟩ | ⟨o, c', h1, h2, h3⟩
 ·injection h1 with e1 e2 e3
  subst h2
  have : k = 0 := by simpa using hk
  subst this
  exact .inl ⟨b, c, rfl, by simp⟩
 ·injection h1 with e1 e2 e3
  subst e1
  refine .inr ⟨o, c, by rw [List.length_take, Nat.min_eq_left hk], h2, fun j u hu => h3 j u ?_⟩
  rw [Yf2, List.getElem?_take] at hu
  split at hu
  ·exact hu
  ·cases hu
theorem Yev (w : World) (base : Nat) (ty : TypeId) (v : Value) (l : List Mi) (hown : Yaz w base v l) (vb : Value) (m : List Mi) (g : Nat) (hb : MSl w vb m g) (hn : l.length + m.length ≤ 10000) (hbase : base ≤ w.heap.size) :
  ∃ v' w', (Builtin.append_ #[29, 29] ty #[v, vb]).run Tryd.prog w = .ok v' w' ∧ GrewM w base v (l ++ m) v' w' := by
 obtain ⟨i, hi, hz0, hz1, hz2⟩ := info_parts mi_info3
 rcases hb with ⟨a, c, rfl, rfl⟩ | ⟨o, c, rfl, hg, hc⟩
 ·refine ⟨v, w, ?_, ?_, Upd.refl _ _⟩
  ·rcases hown.2 with ⟨rfl, h0⟩ | ⟨g, cap, cur, rfl, _, _, hnc, _⟩
   ·cases a <;> simp [Builtin.append_, run_underlying Tryd.underlying29, sizeOf, typeInfo, hi, Builtin.lenOf, Builtin.firstCells, loadCells, loadCellsFrom]
   ·cases a <;> simp [Builtin.append_, run_underlying Tryd.underlying29, sizeOf, typeInfo, hi, Builtin.lenOf, Builtin.firstCells, hnc, storeCells, loadCells, loadCellsFrom]
  ·rw [List.append_nil]; exact hown
 ·obtain ⟨v', w', h1, h2, h3, _, h5⟩ := run_append_own_at (P := Tryd.prog) w base 29 ty 35 i _ 7 48 Tryd.underlying29 hi hz0 hz1 hz2 rfl (by decide) v l.length _ hown ⟨g, o, none⟩ m.length c (Yp m) (by rw [Yby]) (fun j u hu => by rw [Addr.add_lit]; exact hc j u hu)
   Ygg (by unfold maxLen; omega) (by omega) hbase
  refine ⟨v', w', h1, ?_, Upd.of_grown h3⟩
  unfold Yaz
  rw [List.length_append, Ygi]
  exact h2
theorem Ybh {ops : Array Oper} {rest : List Oper} {o : Oper} {a : Act} {w : World} {Q : Exit → Act → World → Prop} (hgd : o.guard = none) (s x : Operand)
  (ho : o.op = .call { callee := .builtin .append, args := #[s, x], argTypes := #[29, 29] })
  (base : Nat) (v : Value) (l : List Mi) (hs : a.eval s = v) (hown : Yaz w base v l) (vb : Value) (m : List Mi) (g : Nat) (hx : a.eval x = vb) (hb : MSl w vb m g) (hn : l.length + m.length ≤ 10000) (hbase : base ≤ w.heap.size)
  (h : ∀ v' w', GrewM w base v (l ++ m) v' w' → wpList Tryd.prog ops Q rest (a.put o.dst v') w') : wpList Tryd.prog ops Q (o :: rest) a w := by
 refine wpList_plain hgd fun _ hK => ?_
 obtain ⟨v', w', hr, h2⟩ := Yev w base o.type v l hown vb m g hb hn hbase
 unfold Oper.wp execOp
 simp only [ho, resolve, invoke, builtin, Sem.run_bind, Sem.run_pure, Result.andThen_ok, List.map_toArray, List.map_cons, List.map_nil, hs, hx, hr]
 exact hK _ _ (h v' w' h2)
def Mem.samePage (M N : Mem) (p : Nat) : Bool := (M.R p == N.R p) && (List.range 256).all fun j => M.B (p * 256 + j) == N.B (p * 256 + j)
def Mem.same (M N : Mem) : Bool := (List.range 64).all fun p => M.samePage N p
structure Yb4 where
 pg : Int
 ct : Int
 rt : Int
 by_ : ByteArray
 deriving Inhabited
def Yb4.ok (s : Yb4) : Prop := -9223372036854775808 ≤ s.ct ∧ s.ct ≤ 9223372036854775807
def Ydq (w : World) (v : Value) (l : List Yb4) (g : Nat) : Prop :=
 (∃ a c, v = .slice a 0 c ∧ l = []) ∨
 ∃ o c, v = .slice (some ⟨g, o, none⟩) l.length c ∧ g < w.heap.size ∧ l.length ≤ 9223372036854775807 ∧ ∀ i s, l[i]? = some s → w.cell? ⟨g, o + i * 4, none⟩ = some (.int .i64 s.pg) ∧ w.cell? ⟨g, o + i * 4 + 1, none⟩ = some (.int .i64 s.ct) ∧ w.cell? ⟨g, o + i * 4 + 2, none⟩ = some (.int .i64 s.rt) ∧ w.cell? ⟨g, o + i * 4 + 3, none⟩ = some (.string s.by_)
theorem Ydq.keep {w w' : World} {v : Value} {l : List Yb4} {g : Nat} {S : List Nat} (h : Ydq w v l g) (u : Upd S w w') (hg : g ∉ S) : Ydq w' v l g := by
 rcases h with h | ⟨o, c, h1, h2, h4, h3⟩
 ·exact .inl h
 ·refine .inr ⟨o, c, h1, Nat.lt_of_lt_of_le h2 u.size, h4, fun i s hs => ?_⟩
  have e : ∀ k, w'.cell? ⟨g, k, none⟩ = w.cell? ⟨g, k, none⟩ := fun k => by
   simp only [World.cell?]; rw [u.block g h2 hg]
  rw [e, e, e, e]
  exact h3 i s hs
section
open Go.WideShapes Go.ChangeShapes
structure Yb4.Ok (s : Yb4) : Prop where
 pg : -9223372036854775808 ≤ s.pg ∧ s.pg ≤ 9223372036854775807
 ct : -9223372036854775808 ≤ s.ct ∧ s.ct ≤ 9223372036854775807
 rt : -9223372036854775808 ≤ s.rt ∧ s.rt ≤ 9223372036854775807
 by_ : s.by_.size ≤ maxLen
structure SArg (w : World) (v : Value) (L : List Yb4) (g : Nat) : Prop where
 sp : Ydq w v L g
 ok : ∀ s ∈ L, s.Ok
 len : L.length ≤ maxLen
 lt : g ≤ w.heap.size
 form : ∀ b n c, v = .slice b n c → n = L.length
theorem SArg.keep {w w' : World} {v : Value} {L : List Yb4} {g : Nat} (h : SArg w v L g) (u : Upd [] w w') : SArg w' v L g :=
 ⟨h.sp.keep u (by simp), h.ok, h.len, Nat.le_trans h.lt u.size, h.form⟩
end
theorem Upd.drewN {S : List Nat} {a b : World} (h : Upd S a b) (n : Nat) : Upd S a (b.drewN n) := ⟨h.os, h.tape, h.output, h.size, h.block⟩
def Mem.rat (M : Mem) (k : Nat) : Value := if k < 64 then .int .i64 (M.R k) else .int .u8 (M.B (k - 64))
structure HoldsR (C : Array Value) (M : Mem) : Prop where
 size : C.size = 16448
 get : ∀ k, k < 16448 → C[k]? = some (M.rat k)
def Mem.mapM (M : Mem) (p n r : Int) : Mem := if M.mapB p n r then M.mapN p.toNat n.toNat r else M
structure Rep (v : Value) (l : List Value) (n : Nat) : Prop where
 eq : l = List.replicate n v
theorem Rep.append {v : Value} {l m : List Value} {a b : Nat} (h : Rep v l a) (k : Rep v m b) : Rep v (l.append m) (a + b) :=
 ⟨by rw [h.eq, k.eq]; exact List.replicate_append_replicate⟩
structure Rep2 (v u : Value) (l : List Value) (n m : Nat) : Prop where
 eq : l = List.replicate n v ++ List.replicate m u
theorem Rep2.append {v u : Value} {l l' : List Value} {n m m' : Nat} (h : Rep2 v u l n m) (k : Rep u l' m') : Rep2 v u (l.append l') n (m + m') :=
 ⟨by rw [h.eq, k.eq]; show (List.replicate n v ++ List.replicate m u) ++ List.replicate m' u = _; rw [List.append_assoc, List.replicate_append_replicate]⟩
theorem rat_one (M : Mem) (k : Nat) : (M.rat k).oneCell' = true := by
 unfold Mem.rat; split <;> rfl
theorem HoldsR.one {C : Array Value} {M : Mem} (h : HoldsR C M) : C.all (·.oneCell') = true := by
 rw [Array.all_eq_true]
 intro i hi
 have hi' : i < 16448 := by rw [← h.size]; exact hi
 have e := h.get i hi'
 rw [Array.getElem?_eq_getElem hi] at e
 injection e with e
 rw [e]
 exact rat_one M i
section
open Go.WideShapes Go.ChangeShapes
def ByS0 (w : World) (v : Value) (l : List Int) (g : Nat) : Prop := (∃ a c, v = .slice a 0 c ∧ l = []) ∨ (l ≠ [] ∧ g < w.heap.size ∧ BySl w v l g)
theorem ByS0.keep {w w' : World} {v : Value} {l : List Int} {g : Nat} (h : ByS0 w v l g) (u : Upd [] w w') : ByS0 w' v l g := by
 rcases h with h | ⟨h0, h1, h2⟩
 ·exact .inl h
 ·exact .inr ⟨h0, Nat.lt_of_lt_of_le h1 u.size, h2.keep u (by simp)⟩
structure Ydp where
 wt : Int
 pg : Int
 ct : Int
 rt : Int
 nb : Int
 at_ : Int
 v : Int
 vb : Value
 vs : Value
 B : List Int
 S : List Yb4
 gb : Nat
 gs : Nat
def Ydp.cells (s : Ydp) : Array Value := #[.int .i64 s.wt, .int .i64 s.pg, .int .i64 s.ct, .int .i64 s.rt, .int .i64 s.nb, .int .u32 s.at_, .int .u32 s.v, s.vb, s.vs]
structure Ydp.Good (q : Ydp) (w : World) : Prop where
 pg : -9223372036854775808 ≤ q.pg ∧ q.pg ≤ 9223372036854775807
 ct : -9223372036854775808 ≤ q.ct ∧ q.ct ≤ 9223372036854775807
 nb : -9223372036854775808 ≤ q.nb ∧ q.nb ≤ 9223372036854775807
 at_ : 0 ≤ q.at_ ∧ q.at_ < 4294967296
 v : 0 ≤ q.v ∧ q.v < 4294967296
 b : ByS0 w q.vb q.B q.gb
 bl : ∀ i, 0 ≤ q.B.getD i 0 ∧ q.B.getD i 0 ≤ 255
 bn : q.B.length ≤ maxLen
 bf : ∃ b c, q.vb = .slice b q.B.length c
 sa : SArg w q.vs q.S q.gs
 sf : ∃ b c, q.vs = .slice b q.S.length c
theorem Ydp.Good.keep {s : Ydp} {w w' : World} (h : s.Good w) (u : Upd [] w w') : s.Good w' := ⟨h.pg, h.ct, h.nb, h.at_, h.v, h.b.keep u, h.bl, h.bn, h.bf, h.sa.keep u, h.sf⟩
end
section
structure Kn (w : World) (a pb : Nat) (M : Mem) (L : List (Nat × Obj)) (w1 : World) : Prop where
 m : Yg w1 a pb M
 u : Upd [] w w1
 v : ∀ p ∈ L, w1.heap[p.1]? = some p.2
 s : L.Pairwise (fun p q => q.1 < p.1)
 t : ∀ p ∈ L, p.1 < w1.heap.size ∧ p.1 ≠ pb ∧ p.1 ≠ a
 l : w.heap.size ≤ pb
 w : ∀ p ∈ L, w.heap.size ≤ p.1
section
variable {w w1 w2 : World} {a pb : Nat} {M M2 : Mem} {L : List (Nat × Obj)} {T T2 : St} {F : Flt}
theorem Kn.step (h : Kn w a pb M L w1) (hm : Yg w2 a pb M2) (u : Upd [pb] w1 w2) : Kn w a pb M2 L w2 :=
 ⟨hm, h.u.also u (by have := h.l; simp <;> omega), fun p hp => u.get (h.v p hp) (by have := (h.t p hp).2.1; simpa using this), h.s, fun p hp => ⟨Nat.lt_of_lt_of_le (h.t p hp).1 u.size, (h.t p hp).2⟩, h.l, h.w⟩
theorem Ycn (hw : ((w1.alloc (.cells St.zero.cells 28)).alloc (.cells #[.int .i64 0, .int .u32 0, .int .u32 0, .int .i64 0] 37)).setCells w1.heap.size 0 T.cells.toList = w2) :
  w2.heap[w1.heap.size]? = some (.cells T.cells 28 (0, 0)) ∧ w2.heap[w1.heap.size + 1]? = some (.cells #[.int .i64 0, .int .u32 0, .int .u32 0, .int .i64 0] 37 (0, 0)) ∧ Upd [] w1 w2 := by
 have u := ((Upd.refl [] w1).alloc (.cells St.zero.cells 28)).alloc (.cells #[.int .i64 0, .int .u32 0, .int .u32 0, .int .i64 0] 37)
 subst hw
 have u2 := (Upd.refl [w1.heap.size] ((w1.alloc (.cells St.zero.cells 28)).alloc (.cells #[.int .i64 0, .int .u32 0, .int .u32 0, .int .i64 0] 37))).setCells (q := w1.heap.size) (.inl (by simp)) T.cells.toList 0
 exact ⟨Yaj T (heap_alloc2_old w1 _ _) (St.size _), u2.get (heap_alloc2_new w1 (.cells St.zero.cells 28) (.cells #[.int .i64 0, .int .u32 0, .int .u32 0, .int .i64 0] 37)) (by simp), u.also u2 (by simp)⟩
theorem Kn.set {p1 p2 p3 : Nat × Obj} {b : Nat} (h : Kn w a pb M (p1 :: p2 :: p3 :: (b, .cells T.cells 28 (0, 0)) :: L) w1) (k : Nat) (hk : k < 8) (v : Int) : Kn w a pb M (p1 :: p2 :: p3 :: (b, .cells (T.setR k v).cells 28 (0, 0)) :: L) (w1.setCell ⟨b, k, none⟩ (.int .u32 v)) := by
 have hb := h.t (b, .cells T.cells 28 (0, 0)) (by simp)
 have u := (Upd.refl [b] w1).setCell (p := ⟨b, k, none⟩) (.inl (by simp)) (.int .u32 v)
 have hs := h.s
 simp only [List.pairwise_cons] at hs
 have hn : ∀ p, (p = p1 ∨ p = p2 ∨ p = p3 ∨ p ∈ L) → p.1 ∉ [b] := by
  intro p hp hh
  simp only [List.mem_singleton] at hh
  rcases hp with rfl | rfl | rfl | hp
  ·have := hs.1 (b, .cells T.cells 28 (0, 0)) (by simp); dsimp only at this; omega
  ·have := hs.2.1 (b, .cells T.cells 28 (0, 0)) (by simp); dsimp only at this; omega
  ·have := hs.2.2.1 (b, .cells T.cells 28 (0, 0)) (by simp); dsimp only at this; omega
  ·have := hs.2.2.2.1 p hp; omega
 refine ⟨h.m.keep u (by simpa using fun e => hb.2.2 e.symm) (by simpa using fun e => hb.2.1 e.symm), ?_, fun p hp => ?_, ?_, fun p hp => ?_, h.l, fun p hp => ?_⟩
 ·exact h.u.also u (fun x hx => .inr (by simp only [List.mem_singleton] at hx; rw [hx]; exact h.w (b, .cells T.cells 28 (0, 0)) (by simp)))
 ·simp only [List.mem_cons] at hp
  rcases hp with rfl | rfl | rfl | rfl | hp
  ·exact u.get (h.v _ (by simp)) (hn _ (.inl rfl))
  ·exact u.get (h.v _ (by simp)) (hn _ (.inr (.inl rfl)))
  ·exact u.get (h.v _ (by simp)) (hn _ (.inr (.inr (.inl rfl))))
  ·dsimp only; rw [← St.cells_setR T k v hk]; exact Yd (h.v (b, .cells T.cells 28 (0, 0)) (by simp)) k _
  ·exact u.get (h.v _ (by simp [hp])) (hn _ (.inr (.inr (.inr hp))))
 ·simp only [List.pairwise_cons]
  refine ⟨fun q hq => ?_, fun q hq => ?_, fun q hq => ?_, hs.2.2.2.1, hs.2.2.2.2⟩
  all_goals
   simp only [List.mem_cons] at hq
  ·rcases hq with rfl | rfl | rfl | hq
   ·exact hs.1 _ (by simp)
   ·exact hs.1 _ (by simp)
   ·exact hs.1 (b, .cells T.cells 28 (0, 0)) (by simp)
   ·exact hs.1 _ (by simp [hq])
  ·rcases hq with rfl | rfl | hq
   ·exact hs.2.1 _ (by simp)
   ·exact hs.2.1 (b, .cells T.cells 28 (0, 0)) (by simp)
   ·exact hs.2.1 _ (by simp [hq])
  ·rcases hq with rfl | hq
   ·exact hs.2.2.1 (b, .cells T.cells 28 (0, 0)) (by simp)
   ·exact hs.2.2.1 _ (by simp [hq])
 ·simp only [List.mem_cons] at hp
  rcases hp with rfl | rfl | rfl | rfl | hp
  ·exact ⟨Nat.lt_of_lt_of_le (h.t _ (by simp)).1 u.size, (h.t _ (by simp)).2⟩
  ·exact ⟨Nat.lt_of_lt_of_le (h.t _ (by simp)).1 u.size, (h.t _ (by simp)).2⟩
  ·exact ⟨Nat.lt_of_lt_of_le (h.t _ (by simp)).1 u.size, (h.t _ (by simp)).2⟩
  ·exact ⟨Nat.lt_of_lt_of_le hb.1 u.size, hb.2⟩
  ·exact ⟨Nat.lt_of_lt_of_le (h.t _ (by simp [hp])).1 u.size, (h.t _ (by simp [hp])).2⟩
 ·simp only [List.mem_cons] at hp
  rcases hp with rfl | rfl | rfl | rfl | hp
  ·exact h.w _ (by simp)
  ·exact h.w _ (by simp)
  ·exact h.w _ (by simp)
  ·exact h.w (b, .cells T.cells 28 (0, 0)) (by simp)
  ·exact h.w _ (by simp [hp])
theorem Kn.two (h : Kn w a pb M L w1) (h2 : w2.heap[w1.heap.size]? = some (.cells T.cells 28 (0, 0)) ∧ w2.heap[w1.heap.size + 1]? = some (.cells #[.int .i64 0, .int .u32 0, .int .u32 0, .int .i64 0] 37 (0, 0)) ∧ Upd [] w1 w2) :
  Kn w a pb M ((w1.heap.size + 1, .cells (Ym F) 37 (0, 0)) :: (w1.heap.size, .cells T.cells 28 (0, 0)) :: L) ((((w2.setCell ⟨w1.heap.size + 1, 0, none⟩ (.int .i64 F.k)).setCell ⟨w1.heap.size + 1, 1, none⟩ (.int .u32 F.pc)).setCell ⟨w1.heap.size + 1, 2, none⟩ (.int .u32 F.a)).setCell ⟨w1.heap.size + 1, 3, none⟩ (.int .i64 F.wt)) := by
 have hpb : pb < w1.heap.size := by obtain ⟨C, _, hc⟩ := h.m.pg; exact Yf hc
 have hab : a < w1.heap.size := by obtain ⟨C, _, hc⟩ := h.m.hd; exact Yf hc
 have hs := h.u.size
 have u4 := Ycv (S := [w1.heap.size + 1]) (b := w1.heap.size + 1) (Upd.refl _ w2) (.inl (by simp)) (.int .i64 F.k) (.int .u32 F.pc) (.int .u32 F.a) (.int .i64 F.wt)
 have hf := Ye7 h2.2.1 (.int .i64 F.k) (.int .u32 F.pc) (.int .u32 F.a) (.int .i64 F.wt)
 have hl := Yf hf
 have u5 := h2.2.2.also (S' := [w1.heap.size + 1]) u4 (by simp)
 refine ⟨h.m.keep u5 (by simp) (by simp), h.u.also u5 (by simp), fun p hp => ?_, ?_, fun p hp => ?_, h.l, fun p hp => ?_⟩
 ·simp only [List.mem_cons] at hp
  rcases hp with rfl | rfl | hp
  ·exact hf
  ·exact u4.get h2.1 (by simp)
  ·exact u5.get (h.v p hp) (by simp)
 ·refine List.pairwise_cons.2 ⟨fun q hq => ?_, List.pairwise_cons.2 ⟨fun q hq => (h.t q hq).1, h.s⟩⟩
  simp only [List.mem_cons] at hq
  rcases hq with rfl | hq
  ·exact Nat.lt_succ_self _
  ·exact Nat.lt_succ_of_lt (h.t q hq).1
 ·simp only [List.mem_cons] at hp
  rcases hp with rfl | rfl | hp
  ·exact ⟨Nat.lt_of_lt_of_le (Yf h2.2.1) u4.size, by dsimp only; omega, by dsimp only; omega⟩
  ·exact ⟨Nat.lt_of_lt_of_le (Yf h2.1) u4.size, by dsimp only; omega, by dsimp only; omega⟩
  ·exact ⟨Nat.lt_of_lt_of_le (h.t p hp).1 u5.size, (h.t p hp).2⟩
 ·simp only [List.mem_cons] at hp
  rcases hp with rfl | rfl | hp
  ·exact Nat.le_succ_of_le hs
  ·exact hs
  ·exact h.w p hp
end
end
def k1 : Mem := Mem.zero.mapN (0 : Int).toNat (1 : Int).toNat 3
def k2 : Mem := k1.putN 0 16909060 (Yan 4).toNat
theorem Ybn {n : Int} (h : (Lit.int .u32 n).wf = true) : 0 ≤ n ∧ n < 4294967296 := by
 simp [Lit.wf, IntKind.min, IntKind.max, IntKind.signed, IntKind.bits] at h; omega
section
section
variable {w w1 w2 : World} {a pb : Nat} {M M2 : Mem} {L : List (Nat × Obj)}
theorem Kn.get (h : Kn w a pb M L w1) (n : Nat) {b : Nat} {o : Obj} (hn : L[n]? = some (b, o)) : w1.heap[b]? = some o :=
 h.v (b, o) (List.mem_of_getElem? hn)
theorem Kn.put (h : Kn w a pb M L w1) (n : Nat) {b : Nat} {o o' : Obj} (hn : L[n]? = some (b, o)) (u : Upd [b] w1 w2) (ho : w2.heap[b]? = some o') : Kn w a pb M (L.set n (b, o')) w2 := by
 have hb := h.t (b, o) (List.mem_of_getElem? hn)
 have hw := h.w (b, o) (List.mem_of_getElem? hn)
 obtain ⟨hl, he⟩ := List.getElem?_eq_some_iff.1 hn
 have hs := List.pairwise_iff_getElem.1 h.s
 have hc : ∀ p, p ∈ L.set n (b, o') → p = (b, o') ∨ (p ∈ L ∧ p.1 ≠ b) := by
  intro p hp
  obtain ⟨j, hj⟩ := List.mem_iff_getElem?.1 hp
  rw [List.getElem?_set] at hj
  by_cases e : n = j
  ·subst e
   simp only [if_true, hl] at hj
   exact .inl (Option.some.inj hj).symm
  ·simp only [e, if_false] at hj
   obtain ⟨hl2, he2⟩ := List.getElem?_eq_some_iff.1 hj
   refine .inr ⟨List.mem_of_getElem? hj, fun hh => ?_⟩
   rcases Nat.lt_or_gt_of_ne e with h1 | h1
   ·have := hs n j hl hl2 h1; rw [he, he2, hh] at this; exact Nat.lt_irrefl _ this
   ·have := hs j n hl2 hl h1; rw [he, he2, hh] at this; exact Nat.lt_irrefl _ this
 refine ⟨h.m.keep u (by simpa using fun e => hb.2.2 e.symm) (by simpa using fun e => hb.2.1 e.symm), h.u.also u (fun x hx => .inr (by rw [List.mem_singleton.1 hx]; exact hw)), fun p hp => ?_, ?_, fun p hp => ?_, h.l, fun p hp => ?_⟩
 ·rcases hc p hp with rfl | ⟨h1, h2⟩
  ·exact ho
  ·exact u.get (h.v p h1) (by simpa using h2)
 ·refine List.pairwise_iff_getElem.2 fun i j hi hj hij => ?_
  rw [List.length_set] at hi hj
  have h1 : ∀ q (hq : q < L.length) (hq2 : q < (L.set n (b, o')).length), ((L.set n (b, o'))[q]).1 = (L[q]).1 := by
   intro q hq hq2
   rw [List.getElem_set]
   split
   ·rename_i e; subst e; rw [he]
   ·rfl
  rw [h1 i hi (by rw [List.length_set]; exact hi), h1 j hj (by rw [List.length_set]; exact hj)]
  exact hs i j hi hj hij
 ·rcases hc p hp with rfl | ⟨h1, h2⟩
  ·exact ⟨Nat.lt_of_lt_of_le hb.1 u.size, hb.2⟩
  ·exact ⟨Nat.lt_of_lt_of_le (h.t p h1).1 u.size, (h.t p h1).2⟩
 ·rcases hc p hp with rfl | ⟨h1, h2⟩
  ·exact hw
  ·exact h.w p h1
theorem Kn.add (h : Kn w a pb M L w1) (u : Upd [] w1 w2) {b : Nat} {o : Obj} (hb : w1.heap.size ≤ b) (ho : w2.heap[b]? = some o) : Kn w a pb M ((b, o) :: L) w2 := by
 have hpb : pb < w1.heap.size := by obtain ⟨C, _, hc⟩ := h.m.pg; exact Yf hc
 have hab : a < w1.heap.size := by obtain ⟨C, _, hc⟩ := h.m.hd; exact Yf hc
 have hs := h.u.size
 refine ⟨h.m.keep u (by simp) (by simp), h.u.also u (by simp), fun p hp => ?_, List.pairwise_cons.2 ⟨fun q hq => Nat.lt_of_lt_of_le (h.t q hq).1 hb, h.s⟩, fun p hp => ?_, h.l, fun p hp => ?_⟩
 ·rcases List.mem_cons.1 hp with rfl | hp
  ·exact ho
  ·exact u.get (h.v p hp) (by simp)
 ·rcases List.mem_cons.1 hp with rfl | hp
  ·exact ⟨Yf ho, by dsimp only; omega, by dsimp only; omega⟩
  ·exact ⟨Nat.lt_of_lt_of_le (h.t p hp).1 u.size, (h.t p hp).2⟩
 ·rcases List.mem_cons.1 hp with rfl | hp
  ·exact Nat.le_trans hs hb
  ·exact h.w p hp
end
section
variable {w : World} {a pb : Nat} {M : Mem} {s : St}
end
end
end Go.Proofs.YtjkolegknpflfaaDoor
