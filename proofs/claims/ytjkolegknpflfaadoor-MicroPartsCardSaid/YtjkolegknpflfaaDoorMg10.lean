/-
  Parts of the proof (their names shortened by a program). No condition.
-/
import Derived.Test.YtjkolegknpflfaaDoorMg01
import Derived.Test.YtjkolegknpflfaaDoorMg09
import Derived.Test.YtjkolegknpflfaaDoorMg04
import Derived.Test.YtjkolegknpflfaaDoorMg06
import Derived.Maps.AppendAt
import Derived.OwnWalk
import Derived.ChangeSlices
import Derived.ChangeKeysEq
import Derived.Lib.SliceRun
import Derived.Test.YtjkolegknpflfaaDoorMg05
namespace Go.Proofs.YtjkolegknpflfaaDoor
open Go Go.RowKit
set_option linter.unusedVariables false
set_option linter.unusedSimpArgs false
set_option maxRecDepth 100000
set_option maxHeartbeats 16000000
def Ybe (d ma pb : Nat) (r : Rn) (M : Mem) (F : Flt) (w : World) (e : Ending) (w' : World) : Prop :=
 e = .panicked [{ v := .iface 37 F.val, recovered := false }] ∧ Ys w' d ma r ∧ Yi w' ma pb M ∧ Upd [d, pb] w w'
def Ycm (d ma pb : Nat) (r : Rn) (M : Mem) (w : World) (e : Ending) (w' : World) : Prop :=
 e = .returned (.tuple #[]) ∧ Ys w' d ma r ∧ Yi w' ma pb M ∧ Upd [d, pb] w w'
structure Yal (w : World) (d ma pb : Nat) (r : Rn) (M : Mem) : Prop where
 r : Ys w d ma r
 m : Yi w ma pb M
 n : d ≠ ma ∧ d ≠ pb
theorem Yal.keep {w w' : World} {d ma pb : Nat} {r : Rn} {M : Mem} {S : List Nat} (h : Yal w d ma pb r M) (u : Upd S w w') (h1 : d ∉ S) (h2 : ma ∉ S) (h3 : pb ∉ S) : Yal w' d ma pb r M :=
 ⟨h.r.keep u h1, h.m.keep u h2 h3, h.n⟩
structure Four (w : World) (d a' b' : Value) (C : Array Value) (w1 : World) : Prop where
 b0 : w1.heap[w.heap.size]? = some (.cells #[d] 52 (0, 0))
 b1 : w1.heap[w.heap.size + 1]? = some (.cells C 35 (0, 0))
 b2 : w1.heap[w.heap.size + 2]? = some (.cells #[a'] 22 (0, 0))
 b3 : w1.heap[w.heap.size + 3]? = some (.cells #[b'] 22 (0, 0))
 u : Upd [] w w1
theorem Yf9 (w : World) (d a' b' : Value) (C : Array Value) : Four w d a' b' C ((((w.alloc (.cells #[d] 52)).alloc (.cells C 35)).alloc (.cells #[a'] 22)).alloc (.cells #[b'] 22)) := by
 have k1 := heap_alloc_new w (.cells #[d] 52)
 have k2 := heap_alloc_new (w.alloc (.cells #[d] 52)) (.cells C 35)
 have k3 := heap_alloc_new ((w.alloc (.cells #[d] 52)).alloc (.cells C 35)) (.cells #[a'] 22)
 have k4 := heap_alloc_new (((w.alloc (.cells #[d] 52)).alloc (.cells C 35)).alloc (.cells #[a'] 22)) (.cells #[b'] 22)
 have e2 : (w.alloc (.cells #[d] 52)).heap.size = w.heap.size + 1 := by simp
 have e3 : ((w.alloc (.cells #[d] 52)).alloc (.cells C 35)).heap.size = w.heap.size + 2 := by simp
 have e4 : (((w.alloc (.cells #[d] 52)).alloc (.cells C 35)).alloc (.cells #[a'] 22)).heap.size = w.heap.size + 3 := by simp
 rw [e2] at k2
 rw [e3] at k3
 rw [e4] at k4
 exact ⟨Ym _ (Ym _ (Ym _ k1)), Ym _ (Ym _ k2), Ym _ k3, k4, ((((Upd.refl [] w).alloc _).alloc _).alloc _).alloc _⟩
theorem Ylp (d ma pb : Nat) (r : Rn) (M : Mem) (t a' b' c n a b : Int) (fl : Bool) (w : World) (h : Yal w d ma pb r M) (ha : 0 ≤ a ∧ a < 4294967296) (hb : 0 ≤ b ∧ b < 4294967296) (hk : M.readK a 4 1 = false) :
  Calls Tryd.prog 25 #[.pointer (some ⟨d, 0, none⟩), .agg #[.int .i64 4, .int .i64 t, .int .i64 a', .int .i64 b', .int .i64 c, .int .u32 n, .bool fl], .int .u32 a, .int .u32 b] w (Ybe d ma pb r M (M.rdF a 4 1) w) := by
 have HFo := Yh_ (Yf9 w (.pointer (some ⟨d, 0, none⟩)) (.int .u32 a) (.int .u32 b) #[.int .i64 4, .int .i64 t, .int .i64 a', .int .i64 b', .int .i64 c, .int .u32 n, .bool fl])
 have HA := Yh_ (And.intro h (And.intro ha (And.intro hb hk)))
 clear h ha hb hk
 go_enter Tryd.func25, Tryd.ntmps25
 go_wp2_with (go_at_call 35; refine (Yi7 d ma pb w.heap.size (w.heap.size + 1) (w.heap.size + 1 + 1) r ⟨4, t, a', b', c, n, fl⟩ M a 4 _ (HA.out.1.r.keep HFo.out.u (by simp)) (HA.out.1.m.keep HFo.out.u (by simp) (by simp)) HA.out.2.1 HA.out.2.2.2 HFo.out.b0 HFo.out.b2 HFo.out.b1).mono ?_; rintro e w5 ⟨rfl, hu⟩; have H5 := Yh_ (HFo.out.u.also hu (by simp)); clear hu)
 exact ⟨rfl, rfl, HA.out.1.r.keep H5.out (by simp), HA.out.1.m.keep H5.out (by simp) (by simp), H5.out.mono (by simp)⟩
theorem Yla (d ma pb : Nat) (r : Rn) (M : Mem) (t a' b' c n a b : Int) (fl : Bool) (w : World) (h : Yal w d ma pb r M) (ha : 0 ≤ a ∧ a < 4294967296) (hb : 0 ≤ b ∧ b < 4294967296) (hk : M.readK a 1 1 = false) :
  Calls Tryd.prog 25 #[.pointer (some ⟨d, 0, none⟩), .agg #[.int .i64 5, .int .i64 t, .int .i64 a', .int .i64 b', .int .i64 c, .int .u32 n, .bool fl], .int .u32 a, .int .u32 b] w (Ybe d ma pb r M (M.rdF a 1 1) w) := by
 have HFo := Yh_ (Yf9 w (.pointer (some ⟨d, 0, none⟩)) (.int .u32 a) (.int .u32 b) #[.int .i64 5, .int .i64 t, .int .i64 a', .int .i64 b', .int .i64 c, .int .u32 n, .bool fl])
 have HA := Yh_ (And.intro h (And.intro ha (And.intro hb hk)))
 clear h ha hb hk
 go_enter Tryd.func25, Tryd.ntmps25
 go_wp2_with (go_at_call 35; refine (Yi7 d ma pb w.heap.size (w.heap.size + 1) (w.heap.size + 1 + 1) r ⟨5, t, a', b', c, n, fl⟩ M a 1 _ (HA.out.1.r.keep HFo.out.u (by simp)) (HA.out.1.m.keep HFo.out.u (by simp) (by simp)) HA.out.2.1 HA.out.2.2.2 HFo.out.b0 HFo.out.b2 HFo.out.b1).mono ?_; rintro e w5 ⟨rfl, hu⟩; have H5 := Yh_ (HFo.out.u.also hu (by simp)); clear hu)
 exact ⟨rfl, rfl, HA.out.1.r.keep H5.out (by simp), HA.out.1.m.keep H5.out (by simp) (by simp), H5.out.mono (by simp)⟩
theorem Ylg (d ma pb : Nat) (r : Rn) (M : Mem) (t a' b' c n a b : Int) (fl : Bool) (w : World) (h : Yal w d ma pb r M) (ha : 0 ≤ a ∧ a < 4294967296) (hb : 0 ≤ b ∧ b < 4294967296) (hk : M.writeK a 4 = false) :
  Calls Tryd.prog 25 #[.pointer (some ⟨d, 0, none⟩), .agg #[.int .i64 6, .int .i64 t, .int .i64 a', .int .i64 b', .int .i64 c, .int .u32 n, .bool fl], .int .u32 a, .int .u32 b] w (Ybe d ma pb r M (M.wrF a 4) w) := by
 have HFo := Yh_ (Yf9 w (.pointer (some ⟨d, 0, none⟩)) (.int .u32 a) (.int .u32 b) #[.int .i64 6, .int .i64 t, .int .i64 a', .int .i64 b', .int .i64 c, .int .u32 n, .bool fl])
 have HA := Yh_ (And.intro h (And.intro ha (And.intro hb hk)))
 clear h ha hb hk
 go_enter Tryd.func25, Tryd.ntmps25
 go_wp2_with (go_at_call 37; refine (Yia d ma pb w.heap.size (w.heap.size + 1 + 1) (w.heap.size + 1 + 1 + 1) r M a b 4 _ (HA.out.1.r.keep HFo.out.u (by simp)) (HA.out.1.m.keep HFo.out.u (by simp) (by simp)) ⟨HA.out.2.1, HA.out.2.2.1⟩ ⟨HA.out.2.2.2, HA.out.1.n.2, by have := HA.out.1.m.pl; omega, by have := HA.out.1.m.pl; omega, by have := HA.out.1.m.pl; omega⟩ HFo.out.b0 HFo.out.b2 HFo.out.b3).mono ?_; rintro e w5 ⟨rfl, hm, hu⟩; have H5 := Yh_ (And.intro hm ((HFo.out.u.mono (T := [pb]) (by simp)).also hu (by simp))); clear hu hm)
 exact ⟨rfl, rfl, HA.out.1.r.keep H5.out.2 (by simpa using HA.out.1.n.2), H5.out.1, H5.out.2.mono (by simp)⟩
theorem Ykz (d ma pb : Nat) (r : Rn) (M : Mem) (t a' b' c n a b : Int) (fl : Bool) (w : World) (h : Yal w d ma pb r M) (ha : 0 ≤ a ∧ a < 4294967296) (hb : 0 ≤ b ∧ b < 4294967296) (hk : M.writeK a 1 = false) :
  Calls Tryd.prog 25 #[.pointer (some ⟨d, 0, none⟩), .agg #[.int .i64 7, .int .i64 t, .int .i64 a', .int .i64 b', .int .i64 c, .int .u32 n, .bool fl], .int .u32 a, .int .u32 b] w (Ybe d ma pb r M (M.wrF a 1) w) := by
 have HFo := Yh_ (Yf9 w (.pointer (some ⟨d, 0, none⟩)) (.int .u32 a) (.int .u32 b) #[.int .i64 7, .int .i64 t, .int .i64 a', .int .i64 b', .int .i64 c, .int .u32 n, .bool fl])
 have HA := Yh_ (And.intro h (And.intro ha (And.intro hb hk)))
 clear h ha hb hk
 go_enter Tryd.func25, Tryd.ntmps25
 go_wp2_with (go_at_call 37; refine (Yia d ma pb w.heap.size (w.heap.size + 1 + 1) (w.heap.size + 1 + 1 + 1) r M a b 1 _ (HA.out.1.r.keep HFo.out.u (by simp)) (HA.out.1.m.keep HFo.out.u (by simp) (by simp)) ⟨HA.out.2.1, HA.out.2.2.1⟩ ⟨HA.out.2.2.2, HA.out.1.n.2, by have := HA.out.1.m.pl; omega, by have := HA.out.1.m.pl; omega, by have := HA.out.1.m.pl; omega⟩ HFo.out.b0 HFo.out.b2 HFo.out.b3).mono ?_; rintro e w5 ⟨rfl, hm, hu⟩; have H5 := Yh_ (And.intro hm ((HFo.out.u.mono (T := [pb]) (by simp)).also hu (by simp))); clear hu hm)
 exact ⟨rfl, rfl, HA.out.1.r.keep H5.out.2 (by simpa using HA.out.1.n.2), H5.out.1, H5.out.2.mono (by simp)⟩
theorem Yby (d ma pb : Nat) (r : Rn) (M : Mem) (k t a b c n : Int) (fl : Bool) (w : World) (h : Yal w d ma pb r M) (hx : (⟨k, t, a, b, c, n, fl⟩ : Mi).In) (hk : (k == 1) = false ∧ (k == 2) = false ∧ (k == 3) = false ∧ (k == 8) = false ∧ (k == 9) = false ∧ (k == 10) = false ∧ (k == 11) = false ∧ (k == 14) = false ∧ (k == 15) = false ∧ (k == 16) = false ∧ (k == 17) = false) (Q : World → Ending → World → Prop) (good : Bool)
  (hq : ∀ w1, Yal w1 d ma pb r M → Calls Tryd.prog 25 #[.pointer (some ⟨d, 0, none⟩), .agg #[.int .i64 k, .int .i64 t, .int .i64 a, .int .i64 b, .int .i64 c, .int .u32 n, .bool fl], .int .u32 (r.T a.toNat), .int .u32 (r.T b.toNat)] w1 (Q w1)) (r' : Rn) (F : Flt)
  (hg : ∀ w1 e w', Q w1 e w' → if good = true then Ycm d ma pb r' M w1 e w' else Ybe d ma pb r' M F w1 e w') :
  Calls Tryd.prog 14 #[.pointer (some ⟨d, 0, none⟩), .agg #[.int .i64 k, .int .i64 t, .int .i64 a, .int .i64 b, .int .i64 c, .int .u32 n, .bool fl]] w fun e w' => if good = true then Ycm d ma pb r' M w e w' else Ybe d ma pb r' M F w e w' := by
 have ha : 0 ≤ a ∧ a < 64 := hx.a
 have hb : 0 ≤ b ∧ b < 64 := hx.b
 have HX := Yh_ (And.intro h (And.intro hq hg))
 obtain ⟨k1, k2, k3, k8, k9, k10, k11, k14, k15, k16, k17⟩ := hk
 have hno := h.r
 clear hx hq hg h
 obtain ⟨M0, hM0⟩ : ∃ M0, w.heap.size = M0 := ⟨_, rfl⟩
 go_enter Tryd.func14, Tryd.ntmps14
 go_upto_region 1 with fail
 have hm := heap_alloc_new w (.cells #[.int .i64 k, .int .i64 t, .int .i64 a, .int .i64 b, .int .i64 c, .int .u32 n, .bool fl] 35)
 have hu := (Upd.refl [] w).alloc (.cells #[.int .i64 k, .int .i64 t, .int .i64 a, .int .i64 b, .int .i64 c, .int .u32 n, .bool fl] 35)
 have hr := hno.keep hu (by simp)
 rw [hM0] at hm
 generalize w.alloc (.cells #[.int .i64 k, .int .i64 t, .int .i64 a, .int .i64 b, .int .i64 c, .int .u32 n, .bool fl] 35) = w1 at *
 have cm := Ya hm
 have cd := hr.cell
 have ra := Yah ma r a.toNat (by omega)
 have rb := Yah ma r b.toNat (by omega)
 have HH := Yh_ (And.intro hm (And.intro hu (And.intro hr hM0)))
 clear hm hu hr hno hM0
 go_quiet (fail)
 have HH2 := Yh_ (Yz HH.out.2.1 nq)
 have cm2 : ∀ o, (w1.drewN nq).cell? ⟨M0, o, none⟩ = _ := cm
 clear cm cd HH ra rb
 generalize w1.drewN nq = w2 at *
 cases good
 all_goals
  go_wp2_with (go_at_call 25; refine (HX.out.2.1 _ (HX.out.1.keep HH2.out (by simp) (by simp) (by simp))).mono ?_; intro e w5 hq5; have hg5 := HX.out.2.2 _ _ _ hq5; clear hq5; obtain ⟨rfl, hr5, hm5, hu5⟩ := hg5; have H5 := Yh_ (And.intro hr5 (And.intro hm5 ((HH2.out.mono (T := [d, pb]) (by simp)).also hu5 (fun x hx => .inl hx)))); clear hr5 hm5 hu5)
 ·exact ⟨rfl, rfl, H5.out.1, H5.out.2.1, H5.out.2.2⟩
 ·go_end0
  exact ⟨rfl, H5.out.1, H5.out.2.1, H5.out.2.2⟩
theorem does_alu (d ma pb : Nat) (r : Rn) (M : Mem) (k t a b c n : Int) (fl : Bool) (w : World) (h : Yal w d ma pb r M) (hx : (⟨k, t, a, b, c, n, fl⟩ : Mi).In) (hk : k = 8) (Q : World → Ending → World → Prop) (good : Bool)
  (hq : ∀ w1, Yal w1 d ma pb r M → Calls Tryd.prog 21 #[.pointer (some ⟨d, 0, none⟩), .agg #[.int .i64 k, .int .i64 t, .int .i64 a, .int .i64 b, .int .i64 c, .int .u32 n, .bool fl], .int .u32 (r.T a.toNat), .int .u32 (r.T b.toNat)] w1 (Q w1)) (r' : Rn) (F : Flt)
  (hg : ∀ w1 e w', Q w1 e w' → if good = true then Ycm d ma pb r' M w1 e w' else Ybe d ma pb r' M F w1 e w') :
  Calls Tryd.prog 14 #[.pointer (some ⟨d, 0, none⟩), .agg #[.int .i64 k, .int .i64 t, .int .i64 a, .int .i64 b, .int .i64 c, .int .u32 n, .bool fl]] w fun e w' => if good = true then Ycm d ma pb r' M w e w' else Ybe d ma pb r' M F w e w' := by
 have ha : 0 ≤ a ∧ a < 64 := hx.a
 have hb : 0 ≤ b ∧ b < 64 := hx.b
 have HX := Yh_ (And.intro h (And.intro hq hg))
 subst hk
 have hno := h.r
 clear hx hq hg h
 obtain ⟨M0, hM0⟩ : ∃ M0, w.heap.size = M0 := ⟨_, rfl⟩
 go_enter Tryd.func14, Tryd.ntmps14
 go_upto_region 1 with fail
 have hm := heap_alloc_new w (.cells #[.int .i64 8, .int .i64 t, .int .i64 a, .int .i64 b, .int .i64 c, .int .u32 n, .bool fl] 35)
 have hu := (Upd.refl [] w).alloc (.cells #[.int .i64 8, .int .i64 t, .int .i64 a, .int .i64 b, .int .i64 c, .int .u32 n, .bool fl] 35)
 have hr := hno.keep hu (by simp)
 rw [hM0] at hm
 generalize w.alloc (.cells #[.int .i64 8, .int .i64 t, .int .i64 a, .int .i64 b, .int .i64 c, .int .u32 n, .bool fl] 35) = w1 at *
 have cm := Ya hm
 have cd := hr.cell
 have ra := Yah ma r a.toNat (by omega)
 have rb := Yah ma r b.toNat (by omega)
 have HH := Yh_ (And.intro hm (And.intro hu (And.intro hr hM0)))
 clear hm hu hr hno hM0
 go_quiet (fail)
 have HH2 := Yh_ (Yz HH.out.2.1 nq)
 have cm2 : ∀ o, (w1.drewN nq).cell? ⟨M0, o, none⟩ = _ := cm
 clear cm cd HH ra rb
 generalize w1.drewN nq = w2 at *
 cases good
 all_goals
  go_wp2_with (go_at_call 21; refine (HX.out.2.1 _ (HX.out.1.keep HH2.out (by simp) (by simp) (by simp))).mono ?_; intro e w5 hq5; have hg5 := HX.out.2.2 _ _ _ hq5; clear hq5; obtain ⟨rfl, hr5, hm5, hu5⟩ := hg5; have H5 := Yh_ (And.intro hr5 (And.intro hm5 ((HH2.out.mono (T := [d, pb]) (by simp)).also hu5 (fun x hx => .inl hx)))); clear hr5 hm5 hu5)
 ·exact ⟨rfl, rfl, H5.out.1, H5.out.2.1, H5.out.2.2⟩
 ·go_end0
  exact ⟨rfl, H5.out.1, H5.out.2.1, H5.out.2.2⟩
theorem Yjx (w : World) : (Instr.typeAssert (.iface 56 (.agg #[])) 20 37 true).run Tryd.prog w = .ok (.tuple #[.agg #[.int .i64 0, .int .u32 0, .int .u32 0, .int .i64 0], .bool false]) w := by kernel_rfl
theorem Yjc (w : World) : (Instr.typeAssert (.iface 56 (.agg #[])) 20 56 true).run Tryd.prog w = .ok (.tuple #[.agg #[], .bool true]) w := by kernel_rfl
theorem rn_ppc (a : Nat) (r : Rn) : (Ye a r)[26]? = some (.int .u32 r.p.pc) := rn_p a r 8 (by decide)
theorem Ys.rp {w : World} {d ma : Nat} {r : Rn} (h : Ys w d ma r) : w.rangeAt d 18 r.p.cells.toList := fun j u hu => by
 have hj : j < 17 := by have := (List.getElem?_eq_some_iff.1 hu).1; rwa [St.len] at this
 rw [h.cell, rn_p _ _ _ hj, ← Array.getElem?_toList]; exact hu
structure RV (w : World) (rb ob fb kb qb d ma : Nat) (r : Rn) : Prop where
 h0 : w.heap[rb]? = some (.cells #[.pointer (some ⟨d, 0, none⟩)] 52 (0, 0))
 hr : Ys w d ma r
 ho : ∃ C, w.heap[ob]? = some (.cells C 28 (0, 0)) ∧ C.size = 17
 hf : ∃ y0 y1 y2 y3, w.heap[fb]? = some (.cells #[y0, y1, y2, y3] 37 (0, 0))
 hk : ∃ k0, w.heap[kb]? = some (.cells #[k0] 4 (0, 0))
 hq : ∃ q0, w.heap[qb]? = some (.cells #[q0] 4 (0, 0))
 ne : (ob < fb ∧ fb < kb ∧ kb < qb ∧ qb < rb ∧ qb < d)
structure RO (w : World) (ob fb kb qb : Nat) (s : St) (F : Flt) (k q : Bool) : Prop where
 o : w.heap[ob]? = some (.cells s.cells 28 (0, 0))
 f : w.heap[fb]? = some (.cells #[.int .i64 F.k, .int .u32 F.pc, .int .u32 F.a, .int .i64 F.wt] 37 (0, 0))
 k : w.heap[kb]? = some (.cells #[.bool k] 4 (0, 0))
 q : w.heap[qb]? = some (.cells #[.bool q] 4 (0, 0))
structure OB (ob : Nat) (V C : Array Value) (w1 : World) (dn : Nat → Bool) (w5 : World) : Prop where
 o : w5.heap[ob]? = some (.cells (if dn 5 then V else C) 28 (0, 0))
 u : Upd [ob] w1 w5
theorem OB.same {ob : Nat} {V C : Array Value} {w1 w5 : World} {dn : Nat → Bool} (h : OB ob V C w1 dn w5) (j : Nat) (hj : 5 ≠ j) : OB ob V C w1 (Yw dn j) w5 := ⟨by rw [Yb hj]; exact h.o, h.u⟩
theorem OB.put {ob : Nat} {s : St} {C : Array Value} {w1 w5 : World} {dn : Nat → Bool} (h : OB ob s.cells C w1 dn w5) (hC : C.size = 17) : OB ob s.cells C w1 (Yw dn 5) (w5.setCells ob 0 s.cells.toList) :=
 ⟨by rw [Ya6, if_pos rfl, Yad _ _ _ _ h.o, Ygr _ _ (by split; exact St.size _; exact hC)], h.u.setCells (.inl (by simp)) _ _⟩
theorem Ye1 {w w6 : World} {ob fb kb qb : Nat} {s : St} (F : Flt) (k q : Bool) {y0 y1 y2 y3 k0 q0 : Value} {m : Prop} (ho : w6.heap[ob]? = some (.cells s.cells 28 (0, 0))) (hf : w6.heap[fb]? = some (.cells #[y0, y1, y2, y3] 37 (0, 0))) (hk : w6.heap[kb]? = some (.cells #[k0] 4 (0, 0))) (hq : w6.heap[qb]? = some (.cells #[q0] 4 (0, 0))) (ne : ob < fb ∧ fb < kb ∧ kb < qb ∧ m) (u : Upd [ob] w w6) :
  RO ((((((w6.setCell ⟨fb, 0, none⟩ (.int .i64 F.k)).setCell ⟨fb, 1, none⟩ (.int .u32 F.pc)).setCell ⟨fb, 2, none⟩ (.int .u32 F.a)).setCell ⟨fb, 3, none⟩ (.int .i64 F.wt)).setCell ⟨kb, 0, none⟩ (.bool k)).setCell ⟨qb, 0, none⟩ (.bool q)) ob fb kb qb s F k q ∧
   Upd [ob, fb, kb, qb] w ((((((w6.setCell ⟨fb, 0, none⟩ (.int .i64 F.k)).setCell ⟨fb, 1, none⟩ (.int .u32 F.pc)).setCell ⟨fb, 2, none⟩ (.int .u32 F.a)).setCell ⟨fb, 3, none⟩ (.int .i64 F.wt)).setCell ⟨kb, 0, none⟩ (.bool k)).setCell ⟨qb, 0, none⟩ (.bool q)) := by
 have u4 := Ybw (S := [fb]) (b := fb) (Upd.refl _ w6) (.inl (by simp)) (.int .i64 F.k) (.int .u32 F.pc) (.int .u32 F.a) (.int .i64 F.wt)
 have hF := Yft hf (.int .i64 F.k) (.int .u32 F.pc) (.int .u32 F.a) (.int .i64 F.wt)
 have n1 : ob ≠ fb := by omega
 have n2 : kb ≠ fb := by omega
 have n3 : qb ≠ fb := by omega
 have n4 : fb ≠ kb := by omega
 have n5 : fb ≠ qb := by omega
 have n6 : kb ≠ qb := by omega
 have n7 : ob ≠ kb := by omega
 have n8 : ob ≠ qb := by omega
 refine ⟨⟨?_, ?_, ?_, ?_⟩, ?_⟩
 ·exact Yd _ (by simpa using n8) (Yd _ (by simpa using n7) (u4.get ho (by simpa using n1)))
 ·exact Yd _ (by simpa using n5) (Yd _ (by simpa using n4) hF)
 ·exact Yd _ (by simpa using n6) (Yf (u4.get hk (by simpa using n2)) 0 (.bool k))
 ·exact Yf (Yd _ (by simpa using n6.symm) (u4.get hq (by simpa using n3))) 0 (.bool q)
 ·exact (((u.mono (T := [ob, fb, kb, qb]) (by simp)).also u4 (by simp)).setCell (.inl (by simp)) _).setCell (.inl (by simp)) _
theorem Yle (rb ob fb kb qb : Nat) (w : World) :
  CallsD Tryd.prog 13 #[.pointer (some ⟨rb, 0, none⟩), .pointer (some ⟨ob, 0, none⟩), .pointer (some ⟨fb, 0, none⟩), .pointer (some ⟨kb, 0, none⟩), .pointer (some ⟨qb, 0, none⟩)] .returning w fun e u' w' => e = .returned (.tuple #[]) ∧ u' = .returning ∧ w = w' := by
 refine callsD_of_wpS Tryd.func13 rfl fun c₀ cs hu => ?_
 simp only [Tryd.ntmps13, List.size_toArray, List.length_cons, List.length_nil, Nat.reduceAdd, Nat.reduceSub, Array.replicate_succ, Array.replicate_zero, List.push_toArray, List.append_toArray, List.nil_append, List.cons_append]
 apply wpS_seq
 apply wpS_region
 simp [wpOpsS, go_sem, recoverD, hu, Tryd.ntmps13, Exit.thenS]
 refine wpS_of_wp ?_
 have HU := Yh_ hu
 clear hu
 go_wp2_with fail
 refine ⟨rfl, .returning, ?_, _, results_none rfl _ _ _, rfl, rfl, rfl⟩
 rw [← HU.out]
theorem Ykk (rb ob fb kb qb d ma : Nat) (r : Rn) (x0 x1 x2 x3 : Int) (older : List PanicEntry) (w : World) (h : RV w rb ob fb kb qb d ma r) :
  CallsD Tryd.prog 13 #[.pointer (some ⟨rb, 0, none⟩), .pointer (some ⟨ob, 0, none⟩), .pointer (some ⟨fb, 0, none⟩), .pointer (some ⟨kb, 0, none⟩), .pointer (some ⟨qb, 0, none⟩)] (.panicking ({ v := .iface 37 (.agg #[.int .i64 x0, .int .u32 x1, .int .u32 x2, .int .i64 x3]), recovered := false } :: older)) w fun e u' w' =>
   e = .returned (.tuple #[]) ∧ u' = .panicking ({ v := .iface 37 (.agg #[.int .i64 x0, .int .u32 x1, .int .u32 x2, .int .i64 x3]), recovered := true } :: older) ∧ RO w' ob fb kb qb r.p ⟨x0, r.p.pc, x2, x3⟩ false false ∧ Upd [ob, fb, kb, qb] w w' := by
 refine callsD_of_wpS Tryd.func13 rfl fun c₀ cs hu => ?_
 simp only [Tryd.ntmps13, List.size_toArray, List.length_cons, List.length_nil, Nat.reduceAdd, Nat.reduceSub, Array.replicate_succ, Array.replicate_zero, List.push_toArray, List.append_toArray, List.nil_append, List.cons_append]
 apply wpS_seq
 apply wpS_region
 simp [wpOpsS, go_sem, recoverD, hu, Tryd.ntmps13, Exit.thenS]
 refine wpS_of_wp ?_
 clear hu
 have hta := Yea
 have c0 := Ya h.h0
 have cd := h.hr.cell
 have hl1 := Yr h.h0
 have hl2 := h.hr.lt
 have rpp := rn_ppc ma r
 have H := Yh_ h
 clear h
 go_upto_region 8 with fail
 have hm := heap_alloc_new w (.cells #[.int .i64 x0, .int .u32 r.p.pc, .int .u32 x2, .int .i64 x3] 37)
 have hu := (Upd.refl [] w).alloc (.cells #[.int .i64 x0, .int .u32 r.p.pc, .int .u32 x2, .int .i64 x3] 37)
 generalize w.alloc (.cells #[.int .i64 x0, .int .u32 r.p.pc, .int .u32 x2, .int .i64 x3] 37) = w1 at *
 obtain ⟨M0, hM0⟩ : ∃ M0, w.heap.size = M0 := ⟨_, rfl⟩
 rw [hM0] at hm
 obtain ⟨C, hC, hC17⟩ := H.out.ho
 have H1 := Yh_ (And.intro hm (And.intro hu (And.intro (hu.get hC (by simp)) (And.intro hC17 hM0))))
 clear c0 cd hm hu hC hC17 hta rpp hl1 hl2
 try rw [hM0]
 clear hM0
 refine wp_drawD 6 (OB ob r.p.cells C w1) (fun _ _ => False) (by kernel_rfl) (by decide +kernel) ⟨((Upd.refl [] w1).drew).get H1.out.2.2.1 (by simp), (Upd.refl [ob] w1).drew⟩ (fun _ _ _ h => h.elim) ?_
 simp only [List.take_succ_cons, List.take_zero, List.drop_succ_cons, List.drop_zero]
 iterate 6
  apply Yk9 rfl rfl
  ·intro dn K hd hK w5 hB1
   have n1 := H.out.ne
   have u5 := (H1.out.2.1.mono (T := [ob]) (by simp)).also hB1.u (fun x hx => .inl hx)
   have c0 := Ya (u5.get H.out.h0 (by simp; omega))
   have ud := H.out.hr.keep u5 (by simp; omega)
   have c6 := Ya (hB1.u.get H1.out.1 (by have := Yr H.out.hr.h; have := H1.out.2.2.2.2; simp; omega))
   have HB := Yh_ (And.intro hB1 ud)
   clear hB1 u5 ud n1
   first
   |(refine wp_load_mid 28 _ rfl d 18 rfl r.p.cells.toList _ HB.out.2.rp Tryd.underlying28 rfl (by rw [Array.length_toList, St.size]; exact Yay) (by rw [Array.toArray_toList]; go_simp; exact hK _ (HB.out.1.same _ (by decide))))
   |(refine wp_store_mid 28 _ _ rfl ob 0 r.p.cells rfl rfl (Ycu HB.out.1.o 0 r.p.cells.size (by split <;> simp [St.size, H1.out.2.2.2.1])) (by rw [St.size]; exact Yay) (St.one _) ?_; go_simp; exact hK _ (HB.out.1.put H1.out.2.2.2.1))
   |(go_wp2_with fail
     first
     |exact hK _ (HB.out.1.same _ (by decide))
     |exact HB.out.1.same _ (by decide))
  ·first | exact ⟨undef, rfl⟩ | exact ⟨_, rfl⟩
 refine Yls (fun _ w6 dn hall hB1 => ?_)
 obtain ⟨hB2, hB3⟩ := hB1
 rw [if_pos (hall 5 (by decide))] at hB2
 obtain ⟨y0, y1, y2, y3, hf0⟩ := H.out.hf
 obtain ⟨k0, hk0⟩ := H.out.hk
 obtain ⟨q0, hq0⟩ := H.out.hq
 have n1 := H.out.ne
 have hw6 : Upd [ob] w w6 := (H1.out.2.1.mono (T := [ob]) (by simp)).also hB3 (fun x hx => .inl hx)
 have hf6 := hw6.get hf0 (by simp; omega)
 have hk6 := hw6.get hk0 (by simp; omega)
 have hq6 := hw6.get hq0 (by simp; omega)
 have cf := Ya hf6
 have ck := Ya hk6
 have cq := Ya hq6
 have gf := Yc hf6
 have gk := Yc hk6
 have gq := Yc hq6
 have H6 := Yh_ (And.intro hB2 (And.intro hf6 (And.intro hk6 (And.intro hq6 (And.intro hw6 n1)))))
 have m1 : kb ≠ fb := by omega
 have m2 : qb ≠ fb := by omega
 have m3 : qb ≠ kb := by omega
 have m4 : fb ≠ kb := by omega
 have m5 : fb ≠ qb := by omega
 have m6 : kb ≠ qb := by omega
 clear hf0 hk0 hq0 n1 hB2 hB3 hall hf6 hk6 hq6 hw6
 go_wp2_with fail
 refine ⟨rfl, _, rfl, _, results_none rfl _ _ _, rfl, rfl, Ye1 ⟨x0, r.p.pc, x2, x3⟩ false false H6.out.1 H6.out.2.1 H6.out.2.2.1 H6.out.2.2.2.1 H6.out.2.2.2.2.2 H6.out.2.2.2.2.1⟩
theorem Yk4 (rb ob fb kb qb d ma : Nat) (r : Rn) (older : List PanicEntry) (w : World) (h : RV w rb ob fb kb qb d ma r) :
  CallsD Tryd.prog 13 #[.pointer (some ⟨rb, 0, none⟩), .pointer (some ⟨ob, 0, none⟩), .pointer (some ⟨fb, 0, none⟩), .pointer (some ⟨kb, 0, none⟩), .pointer (some ⟨qb, 0, none⟩)] (.panicking ({ v := .iface 56 (.agg #[]), recovered := false } :: older)) w fun e u' w' =>
   e = .returned (.tuple #[]) ∧ u' = .panicking ({ v := .iface 56 (.agg #[]), recovered := true } :: older) ∧ RO w' ob fb kb qb r.s Flt.zero true true ∧ Upd [ob, fb, kb, qb] w w' := by
 refine callsD_of_wpS Tryd.func13 rfl fun c₀ cs hu => ?_
 simp only [Tryd.ntmps13, List.size_toArray, List.length_cons, List.length_nil, Nat.reduceAdd, Nat.reduceSub, Array.replicate_succ, Array.replicate_zero, List.push_toArray, List.append_toArray, List.nil_append, List.cons_append]
 apply wpS_seq
 apply wpS_region
 simp [wpOpsS, go_sem, recoverD, hu, Tryd.ntmps13, Exit.thenS]
 refine wpS_of_wp ?_
 clear hu
 have hta := Yjx
 have htb := Yjc
 have c0 := Ya h.h0
 have cd := h.hr.cell
 have hl1 := Yr h.h0
 have hl2 := h.hr.lt
 have H := Yh_ h
 clear h
 go_upto_region 11 with fail
 have hu := (Upd.refl [] w).alloc (.cells #[] 56)
 obtain ⟨C, hC, hC17⟩ := H.out.ho
 obtain ⟨y0, y1, y2, y3, hf0⟩ := H.out.hf
 obtain ⟨k0, hk0⟩ := H.out.hk
 obtain ⟨q0, hq0⟩ := H.out.hq
 have n1 := H.out.ne
 generalize w.alloc (.cells #[] 56) = w1 at *
 generalize w.heap.size = M0 at *
 have H1 := Yh_ (And.intro hu (And.intro (hu.get hC (by simp)) (And.intro hC17 (And.intro (hu.get hf0 (by simp)) (And.intro (hu.get hk0 (by simp)) (And.intro (hu.get hq0 (by simp)) (And.intro (H.out.hr.keep hu (by simp)) n1)))))))
 have c0' := Ya (hu.get H.out.h0 (by simp))
 have m1 : kb ≠ fb := by omega
 have m2 : qb ≠ fb := by omega
 have m3 : qb ≠ kb := by omega
 have m4 : fb ≠ kb := by omega
 have m5 : fb ≠ qb := by omega
 have m6 : kb ≠ qb := by omega
 clear c0 cd hu hC hC17 hta htb hl1 hl2 hf0 hk0 hq0 n1
 have tok : True := trivial
 go_wp2_with (first
  |(have _t := tok; clear _t; refine Yaa 28 rfl ?_; refine Yl rfl 28 _ rfl d 1 rfl r.s.cells _ H1.out.2.2.2.2.2.2.1.rs Tryd.underlying28 rfl (by rw [St.size]; exact Yay) ?_; clear tok)
  |(refine Yag 28 rfl ?_; refine Yax r.s ob rfl _ _ rfl rfl rfl H1.out.2.1 H1.out.2.2.1 ?_; intro w6 hw; have h6 := Ya7 r.s H1.out.2.1 H1.out.2.2.1; rw [hw] at h6; have u6 : Upd [ob] w1 w6 := hw ▸ (Upd.refl [ob] w1).setCells (.inl (by simp)) r.s.cells.toList 0; clear hw; have n1 := H1.out.2.2.2.2.2.2.2; have hf6 := u6.get H1.out.2.2.2.1 (by simp; omega); have hk6 := u6.get H1.out.2.2.2.2.1 (by simp; omega); have hq6 := u6.get H1.out.2.2.2.2.2.1 (by simp; omega); have cf := Ya hf6; have ck := Ya hk6; have cq := Ya hq6; have gf := Yc hf6; have gk := Yc hk6; have gq := Yc hq6; have H6 := Yh_ (And.intro h6 (And.intro hf6 (And.intro hk6 (And.intro hq6 (And.intro ((H1.out.1.mono (T := [ob]) (by simp)).also u6 (fun x hx => .inl hx)) n1))))); clear h6 u6 hf6 hk6 hq6 n1 c0'))
 refine ⟨rfl, _, rfl, _, results_none rfl _ _ _, rfl, rfl, Ye1 Flt.zero true true H6.out.1 H6.out.2.1 H6.out.2.2.1 H6.out.2.2.2.1 H6.out.2.2.2.2.2 H6.out.2.2.2.2.1⟩
theorem Ycy {tmps : Array Value} {w : World} (a : Tmp) (b : Nat) (s : St) (ha : tmps.getD a undef = .pointer (some ⟨b, 0, none⟩)) (hb : w.heap[b]? = some (.cells s.cells 28 (0, 0))) :
  (Ya9 tmps (.cell a 28)).run Tryd.prog w = .ok (.agg s.cells) w :=
 Yh2 a 28 b _ _ ha hb Tryd.underlying28 rfl Yay
section
open Go.WideShapes Go.ChangeShapes
theorem BOk.app {L M : List Int} (h : BOk L) (k : BOk M) : BOk (L ++ M) := by
 intro i
 rw [List.getD_eq_getElem?_getD]
 by_cases hi : i < L.length
 ·rw [List.getElem?_append_left hi, ← List.getD_eq_getElem?_getD]; exact h i
 ·rw [List.getElem?_append_right (by omega), ← List.getD_eq_getElem?_getD]; exact k _
theorem BOk.take {L : List Int} (h : BOk L) (n : Nat) : BOk (L.take n) := by
 intro i
 rw [List.getD_eq_getElem?_getD, List.getElem?_take]
 split
 ·rw [← List.getD_eq_getElem?_getD]; exact h i
 ·simp
theorem BArg.keep {w w' : World} {v : Value} {L : List Int} {g : Nat} (h : BArg w v L g) (u : Upd [] w w') : BArg w' v L g :=
 ⟨h.b.keep u (by simp), h.n, h.r, h.c, Nat.le_trans h.g u.size⟩
def Own (w : World) (base : Nat) (v : Value) (L : List Int) : Prop := w.ownsRow base 5 1 v L.length (L.map (Value.int .u8))
theorem own_nil (w : World) (base : Nat) : Own w base (.slice none 0 0) [] := ⟨rfl, .inl ⟨rfl, rfl⟩⟩
theorem Own.keep {w w' : World} {base : Nat} {v : Value} {L : List Int} {S : List Nat} (h : Own w base v L) (u : Upd S w w') (hS : ∀ g, v.ownBlock = some g → g ∉ S) : Own w' base v L := by
 refine ⟨h.1, ?_⟩
 rcases h.2 with h0 | ⟨g, cap, cur, rfl, hb, hg, hr⟩
 ·exact .inl h0
 ·exact .inr ⟨g, cap, cur, rfl, hb, u.get hg (hS g rfl), hr⟩
theorem Own.block {w : World} {base : Nat} {v : Value} {L : List Int} (h : Own w base v L) : ∀ g, v.ownBlock = some g → base ≤ g ∧ g < w.heap.size := by
 intro g e
 rcases h.2 with ⟨rfl, _⟩ | ⟨g', cap, cur, rfl, hb, hg, hr⟩
 ·cases e
 ·simp only [Value.ownBlock, Option.some.injEq] at e
  subst e
  exact ⟨hb, Yr hg⟩
structure Grew (w : World) (base : Nat) (v : Value) (L : List Int) (v' : Value) (w' : World) : Prop where
 o : Own w' base v' L
 u : Upd v.ownBlock.toList w w'
 b : v'.ownBlock = v.ownBlock ∨ v'.ownBlock = some w.heap.size
theorem BArg.cut {w : World} {b : Option Addr} {n c : Nat} {L : List Int} {g : Nat} (h : BArg w (.slice b n c) L g) (k : Nat) (hk : k ≤ L.length) : BArg w (.slice b k c) (L.take k) g := by
 have hl : (L.take k).length = k := by rw [List.length_take]; omega
 have hc := h.c _ _ _ rfl
 refine ⟨?_, by have := h.n; omega, h.r.take k, fun b' n' c' e => ?_, h.g⟩
 ·rcases h.b with ⟨e, rfl⟩ | ⟨o, c', C, T, f, e, h2, h3⟩
  ·injection e with e1 e2 e3
   subst e1 e2 e3
   refine .inl ⟨?_, by simp⟩
   have : k = 0 := by simpa using hk
   rw [this]
  ·injection e with e1 e2 e3
   subst e1
   refine .inr ⟨o, c, C, T, f, by rw [hl], h2, fun i hi => ?_⟩
   rw [h3 i (by omega), List.getD_eq_getElem?_getD, List.getD_eq_getElem?_getD, List.getElem?_take, if_pos (by omega)]
 ·injection e with e1 e2 e3
  rcases h.b with ⟨e, rfl⟩ | ⟨o, c2, C, T, f, e, h2, h3⟩
  ·injection e with e4 e5 e6; simp at hk; omega
  ·injection e with e4 e5 e6; omega
end
theorem Yhl {P : Program} {t : TypeId} {xs : Array Value} {off n : Nat} {i : TypeInfo} (w : World) (ht : (isAgg t).run P w = .ok true w) (hi : P.info? t = some i) (hn : i.size = n) : (part t xs off).run P w = .ok (.agg (xs.extract off (off + n))) w := by
 subst hn
 simp [part, ht, sizeOf, typeInfo, hi]
theorem Yaj {P : Program} {w : World} {d : Nat} {xs ys : Array Value} {f : Field} {fs : List Field} {u v : Value} {b c : Bool} (hne : (f.name ≠ "_") = True)
  (hx : (part f.type xs f.offset).run P w = .ok u w) (hy : (part f.type ys f.offset).run P w = .ok v w) (he : (Op.equalIn d f.type u v).run P w = .ok b w) (hr : (Op.eqFields d xs ys fs).run P w = .ok c w) :
  (Op.eqFields d xs ys (f :: fs)).run P w = .ok (b && c) w := by
 simp only [Op.eqFields, hne, if_true]
 rw [Sem.run_bind, hx, Result.andThen_ok, Sem.run_bind, hy, Result.andThen_ok, Sem.run_bind, he, Result.andThen_ok]
 cases b
 ·rfl
 ·simp only [Bool.not_true, Bool.false_eq_true, if_false]
  rw [hr]; rfl
theorem Yed {P : Program} {w : World} {d : Nat} {xs ys : Array Value} : (Op.eqFields d xs ys []).run P w = .ok true w := rfl
theorem Ygj {P : Program} (w : World) (d : Nat) {e : TypeId} {k : IntKind} (he : P.underlying e = some (.int k)) (xs ys : Array Value) (f g : Nat → Int) :
  ∀ is : List Nat, (∀ i, i ∈ is → xs[i]? = some (.int k (f i)) ∧ ys[i]? = some (.int k (g i))) → (Op.eqItems (d + 1) e 1 xs ys is).run P w = .ok (is.all fun i => f i == g i) w
 |[], _ => by simp [Op.eqItems]
 |i :: is, h => by
  have h1 := h i (by simp)
  have ih := Ygj w d he xs ys f g is (fun j hj => h j (by simp [hj]))
  have hp : P.plainKey e = true := by simp [Program.plainKey, he]
  simp only [Op.eqItems, Nat.mul_one, Sem.run_bind, run_part_plain w hp h1.1, run_part_plain w hp h1.2, Result.andThen_ok, run_equalIn_int w d e k k _ _ he, List.all_cons]
  cases hb : f i == g i
  ·simp
  ·simpa using ih
def Opd.eqB (a b : Opd) : Bool := ((a.k == b.k) && ((a.r == b.r) && ((a.imm == b.imm) && ((a.b == b.b) && ((a.x == b.x) && ((a.sc == b.sc) && true))))))
def Ins.eqB (i j : Ins) : Bool := ((i.op == j.op) && ((i.cond == j.cond) && (i.a.eqB j.a && (i.b.eqB j.b && ((i.rep == j.rep) && ((i.len == j.len) && true))))))
theorem Opd.eqB_self (a : Opd) : a.eqB a = true := by simp [Opd.eqB]
theorem Ins.eqB_self (i : Ins) : i.eqB i = true := by simp [Ins.eqB, Opd.eqB_self]
section
theorem BOk.cons {c : Int} {L : List Int} (hc : 0 ≤ c ∧ c ≤ 255) (h : BOk L) : BOk (c :: L) := by
 intro i
 cases i with
 |zero => simpa using hc
 |succ i => simpa using h i
theorem BOk.nil : BOk [] := fun i => by simp
structure Dn (w : World) (v : Value) (L : List Int) (w1 : World) : Prop where
 u : Upd [] w w1
 o : Own w1 w.heap.size v L
section
variable {w w1 w2 : World} {v v' : Value} {L N : List Int}
theorem Dn.start (h : Upd [] w w1) : Dn w (.slice none 0 0) [] w1 := ⟨h, own_nil _ _⟩
theorem Dn.step (h : Dn w v L w1) (u : Upd [] w1 w2) : Dn w v L w2 := ⟨h.u.also u (by simp), h.o.keep u (by simp)⟩
theorem Dn.app (h : Dn w v L w1) {C : Array Value} {n : Nat} (hg : Grew (w1.alloc (.cells C 5)) w.heap.size (.slice (some ⟨w1.heap.size, 0, none⟩) n n) N v' w2) : Dn w v L w2 := by
 have hu : Upd [] w w2 := (h.u.alloc _).also hg.u (by intro x hx; simp [Value.ownBlock] at hx; subst hx; exact .inr h.u.size)
 exact ⟨hu, (h.o.keep ((Upd.refl [] w1).alloc _) (by simp)).keep hg.u (by intro g e hx; simp [Value.ownBlock] at hx; have := (h.o.block g e).2; omega)⟩
theorem Dn.take (h : Dn w v L w1) {C : Array Value} {n : Nat} (hg : Grew (w1.alloc (.cells C 5)) w.heap.size (.slice (some ⟨w1.heap.size, 0, none⟩) n n) N v' w2) : Dn w v' N w2 := ⟨(h.app hg).u, hg.o⟩
end
end
section
section
variable {w w1 w2 : World} {v v' : Value} {L N : List Int} {ob : Nat} {o o' : Opd}
end
theorem Grew.form {w : World} {base : Nat} {v : Value} {L : List Int} {v' : Value} {w' : World} (h : Grew w base v L v' w') (n : Nat) (hn : L.length = n) : ∃ b c, v' = .slice b n c := by
 subst hn
 exact Yi2 h.o
end
section
section
variable {w w1 w2 : World} {a pb : Nat} {t t2 : St} {F F2 : Flt} {i : Ins} {ib : Nat} {M M2 : Mem}
end
section
variable {w w1 : World} {a pb : Nat} {t : St} {F : Flt} {i : Ins} {ib : Nat} {M : Mem} {dn : Nat → Bool}
end
theorem Ybs {P : Program} {fn : Func} {tmps : Array Value} {w : World} {r0 r1 r2 r3 : ResultVar} {v0 v1 v2 v3 : Value} (h : fn.results = #[r0, r1, r2, r3]) (h0 : (Ya9 tmps r0).run P w = .ok v0 w) (h1 : (Ya9 tmps r1).run P w = .ok v1 w) (h2 : (Ya9 tmps r2).run P w = .ok v2 w) (h3 : (Ya9 tmps r3).run P w = .ok v3 w) : (results fn tmps).run P w = .ok (.tuple #[v0, v1, v2, v3]) w := by
 rw [Yd2, h]
 simp [Sem.run_bind, h0, h1, h2, h3]
end
structure MO where
 k : Nat
 r : Rn
 F : Flt
def Yf1 (d ma pb : Nat) (o : MO) (w : World) (e : Ending) (w' : World) : Prop :=
 (o.k = 0 → Ycm d ma pb o.r Mem.zero w e w') ∧ (o.k = 1 → Ybe d ma pb o.r Mem.zero o.F w e w') ∧
  (o.k = 2 → e = .panicked [{ v := .iface 56 (.agg #[]), recovered := false }] ∧ Ys w' d ma o.r ∧ Yi w' ma pb Mem.zero ∧ Upd [d, pb] w w')
def Yaz (f : Mi → Rn → MO) (x : Mi) : Prop := ∀ d ma pb r w, Yal w d ma pb r Mem.zero → Calls Tryd.prog 14 #[.pointer (some ⟨d, 0, none⟩), .agg x.cells] w (Yf1 d ma pb (f x r) w)
def Yu (f : Mi → Rn → MO) : List Mi → Rn → MO
 |[], r => ⟨0, r, Flt.zero⟩
 |x :: l, r => if (f x r).k = 0 then Yu f l (f x r).r else f x r
def Ybi (o : MO) : St := if o.k = 1 then o.r.p else o.r.s
def Ycg (o : MO) : Flt := if o.k = 1 then { o.F with pc := o.r.p.pc } else Flt.zero
def Yb3 (o : MO) : Bool := !(o.k == 1)
def Ycd (o : MO) : Bool := o.k == 2
def rn0 (s : St) : Rn := ⟨s, s, fun _ => 0⟩
theorem Yi4 (a : Nat) (s p : St) (w : World) : (Instr.build 54 #[(0, .pointer (some ⟨a, 0, none⟩)), (1, .agg s.cells), (2, .agg p.cells)]).run Tryd.prog w = .ok (.agg (Ye a ⟨s, p, fun _ => 0⟩)) w := by
 unfold St.cells
 kernel_rfl
theorem Yej {ops : Array Oper} {rest : List Oper} {o : Oper} {a : Act} {w : World} {Q : Exit → Act → World → Prop} (hgd : o.guard = none) (p : Nat) (s s2 : St) (x y z : Operand) (ho : o.op = .build 54 #[(0, x), (1, y), (2, z)]) (hx : a.eval x = .pointer (some ⟨p, 0, none⟩)) (hy : a.eval y = .agg s.cells) (hz : a.eval z = .agg s2.cells)
  (h : wpList Tryd.prog ops Q rest (a.put o.dst (.agg (Ye p ⟨s, s2, fun _ => 0⟩))) w) : wpList Tryd.prog ops Q (o :: rest) a w := by
 refine wpList_plain hgd fun _ hK => ?_
 unfold Oper.wp execOp
 simp only [ho, List.map_toArray, List.map_cons, List.map_nil, hx, hy, hz, Sem.run_bind, Yi4, Result.andThen_ok, Sem.run_pure]
 exact hK _ _ h
structure RuS (w : World) (s : St) (w1 : World) : Prop where
 zs : w1.heap[w.heap.size]? = some (.cells s.cells 28 (0, 0))
 zo : w1.heap[w.heap.size + 1]? = some (.cells St.zero.cells 28 (0, 0))
 zf : w1.heap[w.heap.size + 1 + 1]? = some (.cells #[.int .i64 0, .int .u32 0, .int .u32 0, .int .i64 0] 37 (0, 0))
 zk : w1.heap[w.heap.size + 1 + 1 + 1]? = some (.cells #[.bool false] 4 (0, 0))
 zq : w1.heap[w.heap.size + 1 + 1 + 1 + 1]? = some (.cells #[.bool false] 4 (0, 0))
theorem RuS.keep {w w1 w2 : World} {s : St} {S : List Nat} (h : RuS w s w1) (u : Upd S w1 w2) (hS : ∀ x, x ∈ S → x < w.heap.size ∨ w.heap.size + 4 < x) : RuS w s w2 := by
 have n : ∀ k, k ≤ 4 → w.heap.size + k ∉ S := fun k hk hh => by have := hS _ hh; omega
 exact ⟨u.get h.zs (n 0 (by decide)), u.get h.zo (n 1 (by decide)), u.get h.zf (n 2 (by decide)), u.get h.zk (n 3 (by decide)), u.get h.zq (n 4 (by decide))⟩
def ruW (w : World) (s : St) : World := ((((w.alloc (.cells s.cells 28)).alloc (.cells St.zero.cells 28)).alloc (.cells #[.int .i64 0, .int .u32 0, .int .u32 0, .int .i64 0] 37)).alloc (.cells #[.bool false] 4)).alloc (.cells #[.bool false] 4)
theorem Yjf (w : World) (s : St) : (ruW w s).heap.size = w.heap.size + 1 + 1 + 1 + 1 + 1 := by simp [ruW]
theorem ruW_up (w : World) (s : St) : Upd [] w (ruW w s) := (((((Upd.refl [] w).alloc _).alloc _).alloc _).alloc _).alloc _
theorem RuS.start (w : World) (s : St) : RuS w s (ruW w s) := by
 have h2 := heap_alloc_new ((w.alloc (.cells s.cells 28)).alloc (.cells St.zero.cells 28)) (.cells #[.int .i64 0, .int .u32 0, .int .u32 0, .int .i64 0] 37)
 have h3 := heap_alloc_new (((w.alloc (.cells s.cells 28)).alloc (.cells St.zero.cells 28)).alloc (.cells #[.int .i64 0, .int .u32 0, .int .u32 0, .int .i64 0] 37)) (.cells #[.bool false] 4)
 have h4 := heap_alloc_new ((((w.alloc (.cells s.cells 28)).alloc (.cells St.zero.cells 28)).alloc (.cells #[.int .i64 0, .int .u32 0, .int .u32 0, .int .i64 0] 37)).alloc (.cells #[.bool false] 4)) (.cells #[.bool false] 4)
 rw [show ((w.alloc (.cells s.cells 28)).alloc (.cells St.zero.cells 28)).heap.size = w.heap.size + 1 + 1 from by simp] at h2
 rw [show (((w.alloc (.cells s.cells 28)).alloc (.cells St.zero.cells 28)).alloc (.cells #[.int .i64 0, .int .u32 0, .int .u32 0, .int .i64 0] 37)).heap.size = w.heap.size + 1 + 1 + 1 from by simp] at h3
 rw [show ((((w.alloc (.cells s.cells 28)).alloc (.cells St.zero.cells 28)).alloc (.cells #[.int .i64 0, .int .u32 0, .int .u32 0, .int .i64 0] 37)).alloc (.cells #[.bool false] 4)).heap.size = w.heap.size + 1 + 1 + 1 + 1 from by simp] at h4
 exact ⟨Ym _ (Ym _ (Ym _ (heap_alloc2_old _ _ _))), Ym _ (Ym _ (Ym _ (heap_alloc2_new _ _ _))), Ym _ (Ym _ h2), Ym _ h3, h4⟩
structure RuL (w : World) (s : St) (ma pb d : Nat) (r : Rn) (w1 : World) : Prop where
 v : RuS w s w1
 a : Yal w1 d ma pb r Mem.zero
 b : w1.heap[d + 1]? = some (.cells #[.pointer (some ⟨d, 0, none⟩)] 52 (0, 0))
 u : Upd [pb] w w1
 lt : w.heap.size + 5 ≤ d ∧ pb < w.heap.size
theorem RuL.call {w w1 w2 : World} {s : St} {ma pb d : Nat} {r r2 : Rn} (h : RuL w s ma pb d r w1) (u : Upd [d, pb] w1 w2) (hr : Ys w2 d ma r2) (hm : Yi w2 ma pb Mem.zero) : RuL w s ma pb d r2 w2 := by
 have hl := h.lt
 refine ⟨h.v.keep u (by simp only [List.mem_cons, List.not_mem_nil, or_false]; intro x hx; omega), ⟨hr, hm, h.a.n⟩, u.get h.b (by simp; omega), h.u.also u (by simp only [List.mem_cons, List.not_mem_nil, or_false]; intro x hx; omega), hl⟩
theorem RuL.quiet {w w1 w2 : World} {s : St} {ma pb d : Nat} {r : Rn} (h : RuL w s ma pb d r w1) (u : Upd [] w1 w2) : RuL w s ma pb d r w2 := h.call (u.mono (by simp)) (h.a.r.keep u (by simp)) (h.a.m.keep u (by simp) (by simp))
theorem RuL.rv {w w1 : World} {s : St} {ma pb d : Nat} {r : Rn} (h : RuL w s ma pb d r w1) : RV w1 (d + 1) (w.heap.size + 1) (w.heap.size + 1 + 1) (w.heap.size + 1 + 1 + 1) (w.heap.size + 1 + 1 + 1 + 1) d ma r := by
 have hl := h.lt
 exact ⟨h.b, h.a.r, ⟨_, h.v.zo, rfl⟩, ⟨_, _, _, _, h.v.zf⟩, ⟨_, h.v.zk⟩, ⟨_, h.v.zq⟩, by omega⟩
theorem Yif (f : Mi → Rn → MO) {l : List Mi} {k : Nat} {x : Mi} (hx : l[k]? = some x) (r : Rn) : Yu f (l.drop k) r = if (f x r).k = 0 then Yu f (l.drop (k + 1)) (f x r).r else f x r := by
 have hk : k < l.length := (List.getElem?_eq_some_iff.1 hx).1
 have e : l.drop k = x :: l.drop (k + 1) := by
  rw [List.drop_eq_getElem_cons hk]
  rw [List.getElem?_eq_getElem hk] at hx
  injection hx with hx
  rw [hx]
 rw [e]
 rfl
def Ygw (rb ob fb kb qb : Nat) : List Deferred :=
 [{ target := .fn (.func 13) #[.pointer (some ⟨rb, 0, none⟩), .pointer (some ⟨ob, 0, none⟩), .pointer (some ⟨fb, 0, none⟩), .pointer (some ⟨kb, 0, none⟩), .pointer (some ⟨qb, 0, none⟩)], args := #[] }]
theorem Yhh {fn : Func} {tmps : Array Value} {R : Ending → World → Prop} {w1 : World} {rb ob fb kb qb : Nat} (V : Value) (hres : (results fn tmps).run Tryd.prog w1 = .ok V w1) (hR : R (.returned V) w1) :
  Leaves Tryd.prog fn tmps R (Ygw rb ob fb kb qb) .returning w1 := by
 refine leaves_cons (f := 13) (args := #[.pointer (some ⟨rb, 0, none⟩), .pointer (some ⟨ob, 0, none⟩), .pointer (some ⟨fb, 0, none⟩), .pointer (some ⟨kb, 0, none⟩), .pointer (some ⟨qb, 0, none⟩)]) (by simp) (by simp [go_sem]) ?_
 refine (Yle rb ob fb kb qb w1).mono ?_
 rintro e u' w2 ⟨rfl, rfl, rfl⟩
 simp only [settle]
 exact ⟨_, hres, hR⟩
theorem Yfv {fn : Func} {tmps : Array Value} {R : Ending → World → Prop} {w1 : World} {rb ob fb kb qb d ma : Nat} {r : Rn} (F : Flt) (V : Value) (h : RV w1 rb ob fb kb qb d ma r)
  (hres : ∀ w2, RO w2 ob fb kb qb r.p { F with pc := r.p.pc } false false → (results fn tmps).run Tryd.prog w2 = .ok V w2) (hR : ∀ w2, Upd [ob, fb, kb, qb] w1 w2 → R (.returned V) w2) :
  Leaves Tryd.prog fn tmps R (Ygw rb ob fb kb qb) (.panicking [{ v := .iface 37 F.val, recovered := false }]) w1 := by
 refine leaves_cons (f := 13) (args := #[.pointer (some ⟨rb, 0, none⟩), .pointer (some ⟨ob, 0, none⟩), .pointer (some ⟨fb, 0, none⟩), .pointer (some ⟨kb, 0, none⟩), .pointer (some ⟨qb, 0, none⟩)]) (by simp) (by simp [go_sem]) ?_
 refine (Ykk rb ob fb kb qb d ma r F.k F.pc F.a F.wt [] w1 h).mono ?_
 rintro e u' w2 ⟨rfl, rfl, hO, hU⟩
 simp only [settle, List.dropWhile_nil]
 exact ⟨_, hres w2 hO, hR w2 hU⟩
theorem Ygk {fn : Func} {tmps : Array Value} {R : Ending → World → Prop} {w1 : World} {rb ob fb kb qb d ma : Nat} {r : Rn} (V : Value) (h : RV w1 rb ob fb kb qb d ma r)
  (hres : ∀ w2, RO w2 ob fb kb qb r.s Flt.zero true true → (results fn tmps).run Tryd.prog w2 = .ok V w2) (hR : ∀ w2, Upd [ob, fb, kb, qb] w1 w2 → R (.returned V) w2) :
  Leaves Tryd.prog fn tmps R (Ygw rb ob fb kb qb) (.panicking [{ v := .iface 56 (.agg #[]), recovered := false }]) w1 := by
 refine leaves_cons (f := 13) (args := #[.pointer (some ⟨rb, 0, none⟩), .pointer (some ⟨ob, 0, none⟩), .pointer (some ⟨fb, 0, none⟩), .pointer (some ⟨kb, 0, none⟩), .pointer (some ⟨qb, 0, none⟩)]) (by simp) (by simp [go_sem]) ?_
 refine (Yk4 rb ob fb kb qb d ma r [] w1 h).mono ?_
 rintro e u' w2 ⟨rfl, rfl, hO, hU⟩
 simp only [settle, List.dropWhile_nil]
 exact ⟨_, hres w2 hO, hR w2 hU⟩
theorem Ykf (f : Mi → Rn → MO) (ma pb g : Nat) (s : St) (v : Value) (l : List Mi) (w : World) (hM : Yi w ma pb Mem.zero) (hs : s.Ok) (hv : MSl w v l g) (hok : ∀ x ∈ l, x.Ok) (hn : l.length ≤ maxLen) (hd : ∀ x ∈ l, Yaz f x) (hf3 : ∀ x r, (f x r).k = 0 ∨ (f x r).k = 1 ∨ (f x r).k = 2) (hg : g ≠ pb) (his : isL l = true) :
  Calls Tryd.prog 10 #[.pointer (some ⟨ma, 0, none⟩), .agg s.cells, v] w fun e w' => e = .returned (.tuple #[.agg (Ybi (Yu f l (rn0 s))).cells, (Ycg (Yu f l (rn0 s))).val, .bool (Yb3 (Yu f l (rn0 s))), .bool (Ycd (Yu f l (rn0 s)))]) ∧ Yi w' ma pb Mem.zero ∧ Upd [pb] w w' := by
 obtain ⟨b, c, rfl⟩ := hv.form
 obtain ⟨O, hO⟩ : ∃ O, Yu f l (rn0 s) = O := ⟨_, rfl⟩
 rw [hO]
 have HO := Yh_ hO
 have HM := Yh_ (And.intro hM (And.intro hs (And.intro hv (And.intro hok (And.intro hn (And.intro hd (And.intro hf3 (And.intro hg his))))))))
 have HS := Yh_ (RuS.start w s)
 have U0 := Yh_ (ruW_up w s)
 have Z0 := Yh_ (Yjf w s)
 have HP := Yh_ (And.intro hM.al hM.pl)
 clear hO hM hs hv hok hd hf3 hg his
 obtain ⟨ln, hln⟩ : ∃ ln : Int, ln = (l.length : Int) := ⟨_, rfl⟩
 have ec : ((l.length : Nat) : Int) = ln := hln.symm
 have HL := Yh_ (And.intro hln hn)
 clear hln hn
 have tokL : True := trivial
 have tokR : True := trivial
 go_enter_defers Tryd.func10, Tryd.ntmps10
 go_upto_region 1 with fail
 change Code.wp _ _ _ _ (ruW w s)
 generalize ruW w s = w1 at *
 go_upto_region 5 with (first
  |(have _t := tokR; clear _t; go_at_call 8; refine (Yda _ l g _ (HM.out.2.2.1.keep U0.out (by simp)) HM.out.2.2.2.1 HM.out.2.2.2.2.1).mono ?_; rintro e w2 ⟨rfl, hu⟩; rw [HM.out.2.2.2.2.2.2.2.2]; have H2 := Yh_ (And.intro (HS.out.keep hu (by simp)) (And.intro (U0.out.also hu (by simp)) (Nat.le_trans (Nat.le_of_eq Z0.out.symm) hu.size))); clear hu tokR)
  |(refine Yaa 28 rfl ?_; refine Yb1 s w.heap.size rfl _ rfl rfl H2.out.1.zs ?_)
  |(refine Yej rfl ma s s _ _ _ rfl rfl rfl rfl ?_))
 have hst : RuL w s ma pb w2.heap.size (rn0 s) ((w2.alloc (.cells (Ye ma (rn0 s)) 54)).alloc (.cells #[.pointer (some ⟨w2.heap.size, 0, none⟩)] 52)) := by
  have hu := ((Upd.refl [] w2).alloc (.cells (Ye ma (rn0 s)) 54)).alloc (.cells #[.pointer (some ⟨w2.heap.size, 0, none⟩)] 52)
  have h5 := H2.out.2.2
  have hp := HP.out
  refine ⟨H2.out.1.keep hu (by simp), ⟨⟨Ym _ (heap_alloc_new _ _), HM.out.2.1, HM.out.2.1, fun _ => by show (0 : Int) ≤ 0 ∧ (0 : Int) < 4294967296; decide⟩, (HM.out.1.keep H2.out.2.1 (by simp) (by simp)).keep hu (by simp) (by simp), by omega, by omega⟩, ?_, (H2.out.2.1.also hu (by simp)).mono (by simp), by omega, hp.2⟩
  have := heap_alloc_new (w2.alloc (.cells (Ye ma (rn0 s)) 54)) (.cells #[.pointer (some ⟨w2.heap.size, 0, none⟩)] 52)
  rwa [show (w2.alloc (.cells (Ye ma (rn0 s)) 54)).heap.size = w2.heap.size + 1 from by simp] at this
 have K0 := Yh_ hst
 clear hst H2 U0 Z0 HS
 change Code.wp _ _ _ _ ((w2.alloc (.cells (Ye ma (rn0 s)) 54)).alloc (.cells #[.pointer (some ⟨w2.heap.size, 0, none⟩)] 52))
 generalize (w2.alloc (.cells (Ye ma (rn0 s)) 54)).alloc (.cells #[.pointer (some ⟨w2.heap.size, 0, none⟩)] 52) = w3 at *
 generalize w2.heap.size = d at *
 go_wp2_with fail
 go_loopw [26] (fun i wr => ∃ (q : Int) (r : Rn), i = .int .i64 q ∧ Hid (0 ≤ q ∧ q ≤ ln) ∧ Hid (Yu f (l.drop q.toNat) r = O) ∧ Hid (RuL w s ma pb d r wr)) (fun i _ => (ln - intOf i).toNat)
 case atStart => exact ⟨0, _, rfl, Yh_ (by have := HL.out; omega), HO, K0⟩
 case round =>
  clear K0 HO
  obtain ⟨q, r, rfl, hq, HO, K1⟩ := hrel
  by_cases hlt : q < ln
  ·have d1 : decide (q < ln) = true := by simp [hlt]
   have hq0 := hq.out
   have hl0 := HL.out
   obtain ⟨k, hk⟩ : ∃ k : Nat, q = k := ⟨q.toNat, by omega⟩
   have hkl : k < l.length := by omega
   obtain ⟨x, hx⟩ : ∃ x, l[k]? = some x := ⟨l[k], List.getElem?_eq_getElem hkl⟩
   obtain ⟨o, rfl⟩ := HM.out.2.2.1.block (by omega)
   have HR2 := Yh_ ((HM.out.2.2.1.keep K1.out.u (by simpa using HM.out.2.2.2.2.2.2.2.1)).at hx)
   have hxm : x ∈ l := List.mem_of_getElem? hx
   have hqt : q.toNat = k := by omega
   have hrun := HO.out
   rw [hqt, Yif f hx r] at hrun
   have HX := Yh_ (And.intro hx (And.intro (HM.out.2.2.2.1 x hxm) (And.intro (HM.out.2.2.2.2.2.1 x hxm) hrun)))
   have hb1 : 0 ≤ q ∧ q < ln := by omega
   have e1 : wrap64 (q + 1) = q + 1 := by unfold wrap64; unfold maxLen at hl0; omega
   have HB := Yh_ (And.intro hb1 hqt)
   have h3 := HM.out.2.2.2.2.2.2.1 x r
   clear hx hxm hq0 hl0 hkl hlt hk hrun
   have tokA : True := trivial
   have tokB : True := trivial
   have cb := Ya (((Upd.refl [] wr).alloc (.cells Mi.zero.cells 35)).get K1.out.b (by simp))
   have hlb := Yr K1.out.b
   rcases h3 with h3 | h3 | h3
   all_goals
    have H3 := Yh_ h3
    clear h3
    go_wp2_with (first
     |(have _t := tokA; clear _t; refine Yaa 35 rfl ?_; refine Yl rfl 35 _ rfl g (o + k * 7) (by first | rfl | (rw [← HB.out.2]; rfl)) x.cells _ HR2.out Tryd.underlying35 rfl (by rw [Mi.size]; exact Yeu) ?_; clear hqt tokA)
     |(refine Yag 35 rfl ?_; refine Yc8 x wr.heap.size rfl _ _ rfl rfl rfl (heap_alloc_new wr (.cells Mi.zero.cells 35)) rfl ?_; intro w3 hw; have h3 := Yi1 (S := []) (w0 := wr) hw (heap_alloc_new wr (.cells Mi.zero.cells 35)) rfl ((Upd.refl [] wr).alloc _) (.inr (Nat.le_refl _)); clear hw cb; have cb := Ya (h3.2.get K1.out.b (by simp)); have U3 := Yh_ (And.intro (K1.out.quiet h3.2) h3.1); clear h3)
     |(have _t := U3; clear _t; refine Yaa 35 rfl ?_; refine Ydc x wr.heap.size rfl _ rfl rfl U3.out.2 ?_)
     |(have _t := U3; clear _t; go_at_call 14; refine (HX.out.2.2.1 d ma pb r _ U3.out.1.a).mono ?_; intro e w4 hd4; first | (have hd5 := hd4.1 H3.out; obtain ⟨rfl, hr, hm, hu⟩ := hd5; have U4 := Yh_ (U3.out.1.call hu hr hm); clear hr hm hu U3 hd4 cb) | (have hd5 := hd4.2.1 H3.out; obtain ⟨rfl, hr, hm, hu⟩ := hd5; have U4 := Yh_ (U3.out.1.call hu hr hm); clear hr hm hu U3 hd4 cb) | (have hd5 := hd4.2.2 H3.out; obtain ⟨rfl, hr, hm, hu⟩ := hd5; have U4 := Yh_ (U3.out.1.call hu hr hm); clear hr hm hu U3 hd4 cb)))
   ·try simp only [e1]
    go_roundw
    case rel => exact ⟨q + 1, _, rfl, Yh_ (by have := HB.out; omega), Yh_ (by have h1 := HX.out.2.2.2; rw [if_pos H3.out] at h1; rw [show (q + 1).toNat = k + 1 by have := HB.out; omega]; exact h1), U4⟩
    case measure => have := HB.out; simp only [intOf]; omega
   ·have hOe : (f x r) = O := by have h1 := HX.out.2.2.2; rw [if_neg (by rw [H3.out]; decide)] at h1; exact h1
    rw [hOe] at U4 H3 ⊢
    have hh := HP.out
    refine Yfv O.F _ U4.out.rv (fun w5 hr => ?_) (fun w5 hu => ⟨rfl, U4.out.a.m.keep hu (by simp; omega) (by simp; omega), U4.out.u.also hu (by simp; omega)⟩)
    rw [Ybi, Ycg, Yb3, Ycd, if_pos H3.out, if_pos H3.out, H3.out]
    exact Ybs rfl (Ycy 6 (w.heap.size + 1) _ rfl hr.o) (Ybm 7 (w.heap.size + 1 + 1) _ rfl hr.f) (Yaw 8 (w.heap.size + 1 + 1 + 1) _ rfl hr.k) (Yaw 9 (w.heap.size + 1 + 1 + 1 + 1) _ rfl hr.q)
   ·have hOe : (f x r) = O := by have h1 := HX.out.2.2.2; rw [if_neg (by rw [H3.out]; decide)] at h1; exact h1
    rw [hOe] at U4 H3
    have hh := HP.out
    refine Ygk _ U4.out.rv (fun w5 hr => ?_) (fun w5 hu => ⟨rfl, U4.out.a.m.keep hu (by simp; omega) (by simp; omega), U4.out.u.also hu (by simp; omega)⟩)
    rw [Ybi, Ycg, Yb3, Ycd, if_neg (by rw [H3.out]; decide), if_neg (by rw [H3.out]; decide), H3.out]
    exact Ybs rfl (Ycy 6 (w.heap.size + 1) _ rfl hr.o) (Ybm 7 (w.heap.size + 1 + 1) Flt.zero rfl hr.f) (Yaw 8 (w.heap.size + 1 + 1 + 1) _ rfl hr.k) (Yaw 9 (w.heap.size + 1 + 1 + 1 + 1) _ rfl hr.q)
  ·have hqk : q = ln := by have := hq.out; omega
   subst hqk
   have d1 : decide (q < q) = false := by simp
   have hfin : (⟨0, r, Flt.zero⟩ : MO) = O := by
    have h1 := HO.out
    rw [List.drop_eq_nil_of_le (by have := HL.out; omega)] at h1
    exact h1
   have HFI := Yh_ hfin
   have cb := Ya K1.out.b
   have cd := K1.out.a.r.cell
   have tokS : True := trivial
   clear hlt hfin
   go_wp2_with (first
    |(have _t := tokS; clear _t; refine Yaa 28 rfl ?_; refine Yl rfl 28 _ rfl d 1 rfl r.s.cells _ K1.out.a.r.rs Tryd.underlying28 rfl (by rw [St.size]; exact Yay) ?_; clear tokS)
    |(refine Yag 28 rfl ?_; refine Yax r.s (w.heap.size + 1) rfl _ _ rfl rfl rfl K1.out.v.zo rfl ?_; intro w6 hw; have h6 := Ya7 r.s K1.out.v.zo rfl; rw [hw] at h6; have u6 : Upd [w.heap.size + 1] wr w6 := hw ▸ (Upd.refl [w.heap.size + 1] wr).setCells (.inl (by simp)) r.s.cells.toList 0; clear hw; have hf6 := u6.get K1.out.v.zf (by rw [List.mem_singleton]; omega); have hk6 := u6.get K1.out.v.zk (by rw [List.mem_singleton]; omega); have hq6 := u6.get K1.out.v.zq (by rw [List.mem_singleton]; omega); have cf := Ya hf6; have ck := Ya hk6; have cq := Ya hq6; have gf := Yc hf6; have gk := Yc hk6; have gq := Yc hq6; have H6 := Yh_ (And.intro h6 (And.intro hf6 (And.intro hk6 (And.intro hq6 u6)))); clear h6 u6 hf6 hk6 hq6))
   have hend := Ye1 (m := True) Flt.zero true false H6.out.1 H6.out.2.1 H6.out.2.2.1 H6.out.2.2.2.1 ⟨by omega, by omega, by omega, trivial⟩ H6.out.2.2.2.2
   have hh := HP.out
   have hO2 := HFI.out
   subst hO2
   refine Yhh _ ?_ ⟨rfl, K1.out.a.m.keep hend.2 (by simp; omega) (by simp; omega), K1.out.u.also hend.2 (by simp; omega)⟩
   have hr := hend.1
   exact Ybs rfl (Ycy 6 (w.heap.size + 1) _ rfl hr.o) (Ybm 7 (w.heap.size + 1 + 1) Flt.zero rfl hr.f) (Yaw 8 (w.heap.size + 1 + 1 + 1) _ rfl hr.k) (Yaw 9 (w.heap.size + 1 + 1 + 1 + 1) _ rfl hr.q)
def Yh (D : Mi → Rn → MO) (x : Mi) (r : Rn) : MO :=
 if x.k = 1 then ⟨0, r.setT x.t.toNat x.n, Flt.zero⟩
 else if x.k = 2 then ⟨0, r.setT x.t.toNat (r.s.R x.n.toNat), Flt.zero⟩
 else if x.k = 3 then ⟨0, { r with s := r.s.setR x.n.toNat (r.T x.a.toNat) }, Flt.zero⟩
 else if x.k = 4 then ⟨1, r, Mem.zero.rdF (r.T x.a.toNat) 4 1⟩
 else if x.k = 5 then ⟨1, r, Mem.zero.rdF (r.T x.a.toNat) 1 1⟩
 else if x.k = 6 then ⟨1, r, Mem.zero.wrF (r.T x.a.toNat) 4⟩
 else if x.k = 7 then ⟨1, r, Mem.zero.wrF (r.T x.a.toNat) 1⟩
 else if x.k = 9 then ⟨0, r.setT x.t.toNat (Yef (Ydb r.s x.n)), Flt.zero⟩
 else if x.k = 10 then ⟨0, r.setT x.t.toNat (Yef (Yf5 r.s.fl x.n)), Flt.zero⟩
 else if x.k = 11 then ⟨0, r.setT x.t.toNat (selV r x.c x.a x.b), Flt.zero⟩
 else if x.k = 14 then ⟨0, { r with s := r.s.setPc (r.T x.a.toNat) }, Flt.zero⟩
 else if x.k = 15 then ⟨2, { r with s := r.s.setPc x.n }, Flt.zero⟩
 else if x.k = 16 then ⟨0, ⟨r.s.setPc x.n, r.s.setPc x.n, r.T⟩, Flt.zero⟩
 else if x.k = 17 then ⟨0, { r with s := r.s.setDf (x.n == 1) }, Flt.zero⟩
 else D x r
def MO.G (o : MO) : Prop := o.k = 0 ∨ o.k = 1 ∨ o.k = 2
theorem MO.ite_g (p : Prop) [Decidable p] {a b : MO} (ha : a.G) (hb : b.G) : (if p then a else b).G := by split; exact ha; exact hb
theorem Yga {D : Mi → Rn → MO} (hD : ∀ x r, (D x r).k = 0 ∨ (D x r).k = 1 ∨ (D x r).k = 2) (x : Mi) (r : Rn) : (Yh D x r).k = 0 ∨ (Yh D x r).k = 1 ∨ (Yh D x r).k = 2 := by
 show (Yh D x r).G
 unfold Yh
 repeat (first | exact hD x r | refine MO.ite_g _ (by first | exact .inl rfl | exact .inr (.inl rfl) | exact .inr (.inr rfl)) ?_)
theorem zero_can (x r : Int) (h : r = 1 ∨ r = 2 ∨ r = 4) : Mem.zero.can x r = false := by
 rcases h with rfl | rfl | rfl <;> (unfold Mem.can Mem.zero; simp; intro _; decide)
theorem Yi9 (x r : Int) (h : r = 1 ∨ r = 2 ∨ r = 4) (n : Nat) (hn : 0 < n) : Mem.zero.bad x r n ≠ none := by
 unfold Mem.bad
 intro hh
 rw [List.find?_eq_none] at hh
 have := hh 0 (by simpa using hn)
 simp [zero_can _ _ h] at this
theorem Yfp (x : Int) : Mem.zero.readK x 4 1 = false ∧ Mem.zero.readK x 1 1 = false := by
 constructor
 all_goals
  unfold Mem.readK
  rw [Bool.eq_false_iff]
  intro hh
  rw [Option.isNone_iff_eq_none] at hh
  exact Yi9 _ _ (by decide) _ (by decide) hh
theorem Yhc (x : Int) : Mem.zero.writeK x 4 = false ∧ Mem.zero.writeK x 1 = false := by
 constructor
 all_goals
  unfold Mem.writeK
  rw [Bool.eq_false_iff]
  intro hh
  rw [Option.isNone_iff_eq_none] at hh
  exact Yi9 _ _ (by decide) _ (by decide) hh
theorem Mi.in_of {x : Mi} (h : x.is = true) (hx : x.Ok) : x.In := by
 have h1 : x.tOk = true := by unfold Mi.is at h; rw [Bool.and_eq_true] at h; exact h.1
 have h2 := (Mi.tOk_all x).1 h1
 exact ⟨Ybt (h2 0 (by decide) (by decide)), Ybt (h2 1 (by decide) (by decide)), Ybt (h2 2 (by decide) (by decide)), Ybt (h2 3 (by decide) (by decide)), hx.n⟩
theorem Mi.k_of {x : Mi} (h : x.is = true) : x.kOk = true := by unfold Mi.is at h; rw [Bool.and_eq_true] at h; exact h.2
theorem Ycw {n lo hi : Int} : btw n lo hi = true ↔ lo ≤ n ∧ n ≤ hi := by simp [btw]
theorem Yfu {d ma pb : Nat} {r r' : Rn} {w w' : World} {e : Ending} (h : Yal w d ma pb r Mem.zero) (h1 : e = .returned (.tuple #[]) ∧ Ys w' d ma r' ∧ Upd [d] w w') : Ycm d ma pb r' Mem.zero w e w' :=
 ⟨h1.1, h1.2.1, h.m.keep h1.2.2 (by simpa using h.n.1.symm) (by simpa using h.n.2.symm), h1.2.2.mono (by simp)⟩
theorem Yb9 {D : Mi → Rn → MO} {d ma pb : Nat} {r r' : Rn} {w : World} {x : Mi} {Q : Ending → World → Prop} (h : Yal w d ma pb r Mem.zero) (hf : Yh D x r = ⟨0, r', Flt.zero⟩) {F : Nat} {A : Array Value}
  (hc : Calls Tryd.prog F A w fun e w' => e = .returned (.tuple #[]) ∧ Ys w' d ma r' ∧ Upd [d] w w') : Calls Tryd.prog F A w (Yf1 d ma pb (Yh D x r) w) :=
 hc.mono fun e w' hh => by rw [hf]; exact ⟨fun _ => Yfu h hh, fun hh => (by cases hh), fun hh => (by cases hh)⟩
theorem Ygo {D : Mi → Rn → MO} {x : Mi} (hk : x.k = 1) (h : x.is = true) (hx : x.Ok) : Yaz (Yh D) x := fun d ma pb r w hw => by
 obtain ⟨k, t, a, b, c, n, fl⟩ := x
 obtain rfl : k = 1 := hk
 exact Yb9 (Q := fun _ _ => True) hw rfl (Ykp d ma r t a b c n fl w hw.r (Mi.in_of h hx))
theorem as_reg {D : Mi → Rn → MO} {x : Mi} (hk : x.k = 2) (h : x.is = true) (hx : x.Ok) : Yaz (Yh D) x := fun d ma pb r w hw => by
 obtain ⟨k, t, a, b, c, n, fl⟩ := x
 obtain rfl : k = 2 := hk
 have h8 : n < 8 := by have := Ycw.1 (show btw n 0 7 = true from Mi.k_of h); omega
 exact Yb9 (Q := fun _ _ => True) hw rfl (does_reg d ma r t a b c n fl w hw.r (Mi.in_of h hx) h8)
theorem Yfn {D : Mi → Rn → MO} {x : Mi} (hk : x.k = 3) (h : x.is = true) (hx : x.Ok) : Yaz (Yh D) x := fun d ma pb r w hw => by
 obtain ⟨k, t, a, b, c, n, fl⟩ := x
 obtain rfl : k = 3 := hk
 have h8 : n < 8 := by have := Ycw.1 (show btw n 0 7 = true from Mi.k_of h); omega
 exact Yb9 (Q := fun _ _ => True) hw rfl (Yj5 d ma r t a b c n fl w hw.r (Mi.in_of h hx) h8)
theorem Ykc {D : Mi → Rn → MO} {x : Mi} (hk : x.k = 14) (h : x.is = true) (hx : x.Ok) : Yaz (Yh D) x := fun d ma pb r w hw => by
 obtain ⟨k, t, a, b, c, n, fl⟩ := x
 obtain rfl : k = 14 := hk
 exact Yb9 (Q := fun _ _ => True) hw rfl (Yll d ma r t a b c n fl w hw.r (Mi.in_of h hx))
theorem Ygz {D : Mi → Rn → MO} {x : Mi} (hk : x.k = 16) (h : x.is = true) (hx : x.Ok) : Yaz (Yh D) x := fun d ma pb r w hw => by
 obtain ⟨k, t, a, b, c, n, fl⟩ := x
 obtain rfl : k = 16 := hk
 exact Yb9 (Q := fun _ _ => True) hw rfl (Yki d ma r t a b c n fl w hw.r (Mi.in_of h hx))
theorem as_ask {D : Mi → Rn → MO} {x : Mi} (hk : x.k = 15) (h : x.is = true) (hx : x.Ok) : Yaz (Yh D) x := fun d ma pb r w hw => by
 obtain ⟨k, t, a, b, c, n, fl⟩ := x
 obtain rfl : k = 15 := hk
 refine (does_ask d ma r t a b c n fl w hw.r (Mi.in_of h hx)).mono fun e w' hh => ?_
 exact ⟨fun hh => (by cases hh), fun hh => (by cases hh), fun _ => ⟨hh.1, hh.2.1, hw.m.keep hh.2.2 (by simpa using hw.n.1.symm) (by simpa using hw.n.2.symm), hh.2.2.mono (by simp)⟩⟩
theorem Yfa {D : Mi → Rn → MO} {d ma pb : Nat} {r : Rn} {w : World} {x : Mi} {F : Flt} (hf : Yh D x r = ⟨1, r, F⟩) {fn : Nat} {A : Array Value}
  (hc : Calls Tryd.prog fn A w (fun e w' => if false = true then Ycm d ma pb r Mem.zero w e w' else Ybe d ma pb r Mem.zero F w e w')) : Calls Tryd.prog fn A w (Yf1 d ma pb (Yh D x r) w) :=
 hc.mono fun e w' hh => by rw [hf]; exact ⟨fun hh => (by cases hh), fun _ => hh, fun hh => (by cases hh)⟩
theorem Ykb {D : Mi → Rn → MO} {x : Mi} (hk : x.k = 4) (h : x.is = true) (hx : x.Ok) : Yaz (Yh D) x := fun d ma pb r w hw => by
 obtain ⟨k, t, a, b, c, n, fl⟩ := x
 obtain rfl : k = 4 := hk
 exact Yfa rfl (Yby d ma pb r Mem.zero 4 t a b c n fl w hw (Mi.in_of h hx) (by decide) (fun w1 => Ybe d ma pb r Mem.zero (Mem.zero.rdF (r.T a.toNat) 4 1) w1) false
  (fun w1 h1 => Ylp d ma pb r Mem.zero t a b c n _ _ fl w1 h1 (h1.r.ok.T _) (h1.r.ok.T _) (Yfp _).1) r _ (fun w1 e w' hh => hh))
end Go.Proofs.YtjkolegknpflfaaDoor
