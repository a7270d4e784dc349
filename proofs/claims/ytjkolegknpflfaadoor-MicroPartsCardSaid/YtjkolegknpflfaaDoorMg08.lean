/-
  Parts of the proof (their names shortened by a program). No condition.
-/
import Derived.Test.YtjkolegknpflfaaDoorMg01
import Derived.Test.YtjkolegknpflfaaDoorMg07
import Derived.Deep.Cut
import Derived.Test.YtjkolegknpflfaaDoorMg04
import Derived.Test.YtjkolegknpflfaaDoorProg
import Derived.Laws.FloatArith
import Derived.Laws.Externs
import Derived.Test.YtjkolegknpflfaaDoorMg03
import Derived.Test.YtjkolegknpflfaaDoorMg06
namespace Go.Proofs.YtjkolegknpflfaaDoor
open Go Go.RowKit
set_option linter.unusedVariables false
set_option linter.unusedSimpArgs false
set_option maxRecDepth 100000
set_option maxHeartbeats 16000000
theorem Yec {d : Nat} {w w' : World} (u : Upd [] w w') (o : Nat) (v : Value) : Upd [d] w (w'.setCell ⟨d, o, none⟩ v) := (u.mono (by simp)).setCell (.inl (by simp)) _
def selV (r : Rn) (c a b : Int) : Int := if r.T c.toNat = 0 then r.T b.toNat else r.T a.toNat
def St.setPc (s : St) (v : Int) : St := { s with pc := v }
def St.setDf (s : St) (v : Bool) : St := { s with df := v }
theorem St.setPc_ok {s : St} (h : s.Ok) {v : Int} (hv : 0 ≤ v ∧ v < 4294967296) : (s.setPc v).Ok := ⟨h.R, hv, h.f⟩
theorem St.setDf_ok {s : St} (h : s.Ok) (v : Bool) : (s.setDf v).Ok := ⟨h.R, h.pc, h.f⟩
theorem Ydi (a : Nat) (r : Rn) : (Ye a r)[16]? = some (.bool r.s.df) := Ycl a r 15 (by decide)
theorem Ydh (a : Nat) (r : Rn) : (Ye a r)[9]? = some (.int .u32 r.s.pc) := Ycl a r 8 (by decide)
theorem Ykp (d ma : Nat) (r : Rn) (t a b c n : Int) (fl : Bool) (w : World) (h : Ys w d ma r) (hx : (⟨1, t, a, b, c, n, fl⟩ : Mi).In) :
  Calls Tryd.prog 14 #[.pointer (some ⟨d, 0, none⟩), .agg #[.int .i64 1, .int .i64 t, .int .i64 a, .int .i64 b, .int .i64 c, .int .u32 n, .bool fl]] w fun e w' => e = .returned (.tuple #[]) ∧ Ys w' d ma (r.setT t.toNat n) ∧ Upd [d] w w' := by
 have ht : 0 ≤ t ∧ t < 64 := hx.t
 have ha : 0 ≤ a ∧ a < 64 := hx.a
 have hb : 0 ≤ b ∧ b < 64 := hx.b
 have hc : 0 ≤ c ∧ c < 64 := hx.c
 have hn : 0 ≤ n ∧ n < 4294967296 := hx.n
 have HX := Yh_ (And.intro hx h)
 clear hx
 have hlt := h.lt
 have hno := h
 clear h
 have tok : True := trivial
 obtain ⟨M0, hM0⟩ : ∃ M0, w.heap.size = M0 := ⟨_, rfl⟩
 go_enter Tryd.func14, Tryd.ntmps14
 go_upto_region 1 with fail
 have hm := heap_alloc_new w (.cells #[.int .i64 1, .int .i64 t, .int .i64 a, .int .i64 b, .int .i64 c, .int .u32 n, .bool fl] 35)
 have hu := (Upd.refl [] w).alloc (.cells #[.int .i64 1, .int .i64 t, .int .i64 a, .int .i64 b, .int .i64 c, .int .u32 n, .bool fl] 35)
 have hr := hno.keep hu (by simp)
 rw [hM0] at hm
 generalize w.alloc (.cells #[.int .i64 1, .int .i64 t, .int .i64 a, .int .i64 b, .int .i64 c, .int .u32 n, .bool fl] 35) = w1 at *
 have cm := Ya hm
 have cd := hr.cell
 have ra := Yah ma r a.toNat (by omega)
 have rb := Yah ma r b.toNat (by omega)
 have rt := Yah ma r t.toNat (by omega)
 have rpc := Ydh ma r
 have rdf := Ydi ma r
 have HH := Yh_ (And.intro hm (And.intro hu (And.intro hr hM0)))
 clear hm hu hr hno hM0
 go_quiet (fail)
 have HH2 := Yh_ (And.intro ((Yz (Upd.refl [] w1) nq).get HH.out.1 (by simp)) (And.intro (Yz HH.out.2.1 nq) (And.intro (HH.out.2.2.1.keep (Yz (Upd.refl [] w1) nq) (by simp)) HH.out.2.2.2)))
 have cm2 : ∀ o, (w1.drewN nq).cell? ⟨M0, o, none⟩ = _ := cm
 have cd2 : ∀ o, (w1.drewN nq).cell? ⟨d, o, none⟩ = _ := cd
 have fd2 : ∀ o, (w1.drewN nq).frozen? ⟨d, o, none⟩ = false := Yc HH2.out.2.2.1.h
 clear cm cd HH
 generalize w1.drewN nq = w2 at *
 go_upto_region 5 with fail
 go_still_tail 8, (by kernel_rfl)
 change wpList _ _ _ _ _ w2.drew
 have HH3 := Yh_ (And.intro (HH2.out.2.1.drew) (And.intro (HH2.out.2.2.1.keep ((Upd.refl [] w2).drew) (by simp)) HH2.out.2.2.2))
 have cd3 : ∀ o, w2.drew.cell? ⟨d, o, none⟩ = _ := cd2
 have fd3 : ∀ o, w2.drew.frozen? ⟨d, o, none⟩ = false := fd2
 clear cm2 cd2 fd2 HH2
 generalize w2.drew = w3 at *
 go_wp2_with fail
 go_end0
 exact ⟨rfl, HH3.out.2.1.setT t.toNat (by omega) hn, (HH3.out.1.mono (by simp)).setCell (.inl (by simp)) _⟩
theorem does_reg (d ma : Nat) (r : Rn) (t a b c n : Int) (fl : Bool) (w : World) (h : Ys w d ma r) (hx : (⟨2, t, a, b, c, n, fl⟩ : Mi).In) (h8 : n < 8) :
  Calls Tryd.prog 14 #[.pointer (some ⟨d, 0, none⟩), .agg #[.int .i64 2, .int .i64 t, .int .i64 a, .int .i64 b, .int .i64 c, .int .u32 n, .bool fl]] w fun e w' => e = .returned (.tuple #[]) ∧ Ys w' d ma (r.setT t.toNat (r.s.R n.toNat)) ∧ Upd [d] w w' := by
 have ht : 0 ≤ t ∧ t < 64 := hx.t
 have ha : 0 ≤ a ∧ a < 64 := hx.a
 have hb : 0 ≤ b ∧ b < 64 := hx.b
 have hc : 0 ≤ c ∧ c < 64 := hx.c
 have hn : 0 ≤ n ∧ n < 4294967296 := hx.n
 have HX := Yh_ (And.intro hx h)
 clear hx
 have hlt := h.lt
 have hno := h
 clear h
 have tok : True := trivial
 obtain ⟨M0, hM0⟩ : ∃ M0, w.heap.size = M0 := ⟨_, rfl⟩
 go_enter Tryd.func14, Tryd.ntmps14
 go_upto_region 1 with fail
 have hm := heap_alloc_new w (.cells #[.int .i64 2, .int .i64 t, .int .i64 a, .int .i64 b, .int .i64 c, .int .u32 n, .bool fl] 35)
 have hu := (Upd.refl [] w).alloc (.cells #[.int .i64 2, .int .i64 t, .int .i64 a, .int .i64 b, .int .i64 c, .int .u32 n, .bool fl] 35)
 have hr := hno.keep hu (by simp)
 rw [hM0] at hm
 generalize w.alloc (.cells #[.int .i64 2, .int .i64 t, .int .i64 a, .int .i64 b, .int .i64 c, .int .u32 n, .bool fl] 35) = w1 at *
 have cm := Ya hm
 have cd := hr.cell
 have ra := Yah ma r a.toNat (by omega)
 have rb := Yah ma r b.toNat (by omega)
 have rt := Yah ma r t.toNat (by omega)
 have rpc := Ydh ma r
 have rdf := Ydi ma r
 have HH := Yh_ (And.intro hm (And.intro hu (And.intro hr hM0)))
 clear hm hu hr hno hM0
 go_quiet (fail)
 have HH2 := Yh_ (And.intro ((Yz (Upd.refl [] w1) nq).get HH.out.1 (by simp)) (And.intro (Yz HH.out.2.1 nq) (And.intro (HH.out.2.2.1.keep (Yz (Upd.refl [] w1) nq) (by simp)) HH.out.2.2.2)))
 have cm2 : ∀ o, (w1.drewN nq).cell? ⟨M0, o, none⟩ = _ := cm
 have cd2 : ∀ o, (w1.drewN nq).cell? ⟨d, o, none⟩ = _ := cd
 have fd2 : ∀ o, (w1.drewN nq).frozen? ⟨d, o, none⟩ = false := Yc HH2.out.2.2.1.h
 clear cm cd HH
 have rn := (Ycl ma r n.toNat (by omega)).trans (r.s.cR n.toNat (by omega))
 generalize w1.drewN nq = w2 at *
 go_upto_region 7 with fail
 go_still_tail 14, (by kernel_rfl)
 change wpList _ _ _ _ _ w2.drew
 have HH3 := Yh_ (And.intro (HH2.out.2.1.drew) (And.intro (HH2.out.2.2.1.keep ((Upd.refl [] w2).drew) (by simp)) HH2.out.2.2.2))
 have cd3 : ∀ o, w2.drew.cell? ⟨d, o, none⟩ = _ := cd2
 have fd3 : ∀ o, w2.drew.frozen? ⟨d, o, none⟩ = false := fd2
 clear cm2 cd2 fd2 HH2
 generalize w2.drew = w3 at *
 go_wp2_with fail
 go_end0
 exact ⟨rfl, HH3.out.2.1.setT t.toNat (by omega) (HX.out.2.ok.s.R _), (HH3.out.1.mono (by simp)).setCell (.inl (by simp)) _⟩
theorem Yj5 (d ma : Nat) (r : Rn) (t a b c n : Int) (fl : Bool) (w : World) (h : Ys w d ma r) (hx : (⟨3, t, a, b, c, n, fl⟩ : Mi).In) (h8 : n < 8) :
  Calls Tryd.prog 14 #[.pointer (some ⟨d, 0, none⟩), .agg #[.int .i64 3, .int .i64 t, .int .i64 a, .int .i64 b, .int .i64 c, .int .u32 n, .bool fl]] w fun e w' => e = .returned (.tuple #[]) ∧ Ys w' d ma ({ r with s := r.s.setR n.toNat (r.T a.toNat) }) ∧ Upd [d] w w' := by
 have ht : 0 ≤ t ∧ t < 64 := hx.t
 have ha : 0 ≤ a ∧ a < 64 := hx.a
 have hb : 0 ≤ b ∧ b < 64 := hx.b
 have hc : 0 ≤ c ∧ c < 64 := hx.c
 have hn : 0 ≤ n ∧ n < 4294967296 := hx.n
 have HX := Yh_ (And.intro hx h)
 clear hx
 have hlt := h.lt
 have hno := h
 clear h
 have tok : True := trivial
 obtain ⟨M0, hM0⟩ : ∃ M0, w.heap.size = M0 := ⟨_, rfl⟩
 go_enter Tryd.func14, Tryd.ntmps14
 go_upto_region 1 with fail
 have hm := heap_alloc_new w (.cells #[.int .i64 3, .int .i64 t, .int .i64 a, .int .i64 b, .int .i64 c, .int .u32 n, .bool fl] 35)
 have hu := (Upd.refl [] w).alloc (.cells #[.int .i64 3, .int .i64 t, .int .i64 a, .int .i64 b, .int .i64 c, .int .u32 n, .bool fl] 35)
 have hr := hno.keep hu (by simp)
 rw [hM0] at hm
 generalize w.alloc (.cells #[.int .i64 3, .int .i64 t, .int .i64 a, .int .i64 b, .int .i64 c, .int .u32 n, .bool fl] 35) = w1 at *
 have cm := Ya hm
 have cd := hr.cell
 have ra := Yah ma r a.toNat (by omega)
 have rb := Yah ma r b.toNat (by omega)
 have rt := Yah ma r t.toNat (by omega)
 have rpc := Ydh ma r
 have rdf := Ydi ma r
 have HH := Yh_ (And.intro hm (And.intro hu (And.intro hr hM0)))
 clear hm hu hr hno hM0
 go_quiet (fail)
 have HH2 := Yh_ (And.intro ((Yz (Upd.refl [] w1) nq).get HH.out.1 (by simp)) (And.intro (Yz HH.out.2.1 nq) (And.intro (HH.out.2.2.1.keep (Yz (Upd.refl [] w1) nq) (by simp)) HH.out.2.2.2)))
 have cm2 : ∀ o, (w1.drewN nq).cell? ⟨M0, o, none⟩ = _ := cm
 have cd2 : ∀ o, (w1.drewN nq).cell? ⟨d, o, none⟩ = _ := cd
 have fd2 : ∀ o, (w1.drewN nq).frozen? ⟨d, o, none⟩ = false := Yc HH2.out.2.2.1.h
 clear cm cd HH
 have rn := (Ycl ma r n.toNat (by omega)).trans (r.s.cR n.toNat (by omega))
 generalize w1.drewN nq = w2 at *
 go_upto_region 9 with fail
 go_still_tail 8, (by kernel_rfl)
 change wpList _ _ _ _ _ w2.drew
 have HH3 := Yh_ (And.intro (HH2.out.2.1.drew) (And.intro (HH2.out.2.2.1.keep ((Upd.refl [] w2).drew) (by simp)) HH2.out.2.2.2))
 have cd3 : ∀ o, w2.drew.cell? ⟨d, o, none⟩ = _ := cd2
 have fd3 : ∀ o, w2.drew.frozen? ⟨d, o, none⟩ = false := fd2
 clear cm2 cd2 fd2 HH2
 generalize w2.drew = w3 at *
 go_wp2_with fail
 go_end0
 exact ⟨rfl, HH3.out.2.1.setS _ n.toNat _ (by omega) (St.cells_setR _ _ _ (by omega)) (St.setR_ok HX.out.2.ok.s _ (HX.out.2.ok.T _).1 (HX.out.2.ok.T _).2), Yec HH3.out.1 _ _⟩
theorem Yll (d ma : Nat) (r : Rn) (t a b c n : Int) (fl : Bool) (w : World) (h : Ys w d ma r) (hx : (⟨14, t, a, b, c, n, fl⟩ : Mi).In) :
  Calls Tryd.prog 14 #[.pointer (some ⟨d, 0, none⟩), .agg #[.int .i64 14, .int .i64 t, .int .i64 a, .int .i64 b, .int .i64 c, .int .u32 n, .bool fl]] w fun e w' => e = .returned (.tuple #[]) ∧ Ys w' d ma ({ r with s := r.s.setPc (r.T a.toNat) }) ∧ Upd [d] w w' := by
 have ht : 0 ≤ t ∧ t < 64 := hx.t
 have ha : 0 ≤ a ∧ a < 64 := hx.a
 have hb : 0 ≤ b ∧ b < 64 := hx.b
 have hc : 0 ≤ c ∧ c < 64 := hx.c
 have hn : 0 ≤ n ∧ n < 4294967296 := hx.n
 have HX := Yh_ (And.intro hx h)
 clear hx
 have hlt := h.lt
 have hno := h
 clear h
 have tok : True := trivial
 obtain ⟨M0, hM0⟩ : ∃ M0, w.heap.size = M0 := ⟨_, rfl⟩
 go_enter Tryd.func14, Tryd.ntmps14
 go_upto_region 1 with fail
 have hm := heap_alloc_new w (.cells #[.int .i64 14, .int .i64 t, .int .i64 a, .int .i64 b, .int .i64 c, .int .u32 n, .bool fl] 35)
 have hu := (Upd.refl [] w).alloc (.cells #[.int .i64 14, .int .i64 t, .int .i64 a, .int .i64 b, .int .i64 c, .int .u32 n, .bool fl] 35)
 have hr := hno.keep hu (by simp)
 rw [hM0] at hm
 generalize w.alloc (.cells #[.int .i64 14, .int .i64 t, .int .i64 a, .int .i64 b, .int .i64 c, .int .u32 n, .bool fl] 35) = w1 at *
 have cm := Ya hm
 have cd := hr.cell
 have ra := Yah ma r a.toNat (by omega)
 have rb := Yah ma r b.toNat (by omega)
 have rt := Yah ma r t.toNat (by omega)
 have rpc := Ydh ma r
 have rdf := Ydi ma r
 have HH := Yh_ (And.intro hm (And.intro hu (And.intro hr hM0)))
 clear hm hu hr hno hM0
 go_quiet (fail)
 have HH2 := Yh_ (And.intro ((Yz (Upd.refl [] w1) nq).get HH.out.1 (by simp)) (And.intro (Yz HH.out.2.1 nq) (And.intro (HH.out.2.2.1.keep (Yz (Upd.refl [] w1) nq) (by simp)) HH.out.2.2.2)))
 have cm2 : ∀ o, (w1.drewN nq).cell? ⟨M0, o, none⟩ = _ := cm
 have cd2 : ∀ o, (w1.drewN nq).cell? ⟨d, o, none⟩ = _ := cd
 have fd2 : ∀ o, (w1.drewN nq).frozen? ⟨d, o, none⟩ = false := Yc HH2.out.2.2.1.h
 clear cm cd HH
 generalize w1.drewN nq = w2 at *
 have HH3 := Yh_ HH2.out.2
 clear HH2
 go_wp2_with fail
 go_end0
 exact ⟨rfl, HH3.out.2.1.setS _ 8 _ (by omega) rfl (St.setPc_ok HX.out.2.ok.s (HX.out.2.ok.T _)), Yec HH3.out.1 _ _⟩
theorem does_dir (d ma : Nat) (r : Rn) (t a b c n : Int) (fl : Bool) (w : World) (h : Ys w d ma r) (hx : (⟨17, t, a, b, c, n, fl⟩ : Mi).In) :
  Calls Tryd.prog 14 #[.pointer (some ⟨d, 0, none⟩), .agg #[.int .i64 17, .int .i64 t, .int .i64 a, .int .i64 b, .int .i64 c, .int .u32 n, .bool fl]] w fun e w' => e = .returned (.tuple #[]) ∧ Ys w' d ma ({ r with s := r.s.setDf (n == 1) }) ∧ Upd [d] w w' := by
 have ht : 0 ≤ t ∧ t < 64 := hx.t
 have ha : 0 ≤ a ∧ a < 64 := hx.a
 have hb : 0 ≤ b ∧ b < 64 := hx.b
 have hc : 0 ≤ c ∧ c < 64 := hx.c
 have hn : 0 ≤ n ∧ n < 4294967296 := hx.n
 have HX := Yh_ (And.intro hx h)
 clear hx
 have hlt := h.lt
 have hno := h
 clear h
 have tok : True := trivial
 obtain ⟨M0, hM0⟩ : ∃ M0, w.heap.size = M0 := ⟨_, rfl⟩
 go_enter Tryd.func14, Tryd.ntmps14
 go_upto_region 1 with fail
 have hm := heap_alloc_new w (.cells #[.int .i64 17, .int .i64 t, .int .i64 a, .int .i64 b, .int .i64 c, .int .u32 n, .bool fl] 35)
 have hu := (Upd.refl [] w).alloc (.cells #[.int .i64 17, .int .i64 t, .int .i64 a, .int .i64 b, .int .i64 c, .int .u32 n, .bool fl] 35)
 have hr := hno.keep hu (by simp)
 rw [hM0] at hm
 generalize w.alloc (.cells #[.int .i64 17, .int .i64 t, .int .i64 a, .int .i64 b, .int .i64 c, .int .u32 n, .bool fl] 35) = w1 at *
 have cm := Ya hm
 have cd := hr.cell
 have ra := Yah ma r a.toNat (by omega)
 have rb := Yah ma r b.toNat (by omega)
 have rt := Yah ma r t.toNat (by omega)
 have rpc := Ydh ma r
 have rdf := Ydi ma r
 have HH := Yh_ (And.intro hm (And.intro hu (And.intro hr hM0)))
 clear hm hu hr hno hM0
 go_quiet (fail)
 have HH2 := Yh_ (And.intro ((Yz (Upd.refl [] w1) nq).get HH.out.1 (by simp)) (And.intro (Yz HH.out.2.1 nq) (And.intro (HH.out.2.2.1.keep (Yz (Upd.refl [] w1) nq) (by simp)) HH.out.2.2.2)))
 have cm2 : ∀ o, (w1.drewN nq).cell? ⟨M0, o, none⟩ = _ := cm
 have cd2 : ∀ o, (w1.drewN nq).cell? ⟨d, o, none⟩ = _ := cd
 have fd2 : ∀ o, (w1.drewN nq).frozen? ⟨d, o, none⟩ = false := Yc HH2.out.2.2.1.h
 clear cm cd HH
 generalize w1.drewN nq = w2 at *
 have HH3 := Yh_ HH2.out.2
 clear HH2
 go_wp2_with fail
 all_goals
  go_end0
  exact ⟨rfl, HH3.out.2.1.setS _ 15 _ (by omega) rfl (St.setDf_ok HX.out.2.ok.s _), Yec HH3.out.1 _ _⟩
theorem does_ask (d ma : Nat) (r : Rn) (t a b c n : Int) (fl : Bool) (w : World) (h : Ys w d ma r) (hx : (⟨15, t, a, b, c, n, fl⟩ : Mi).In) :
  Calls Tryd.prog 14 #[.pointer (some ⟨d, 0, none⟩), .agg #[.int .i64 15, .int .i64 t, .int .i64 a, .int .i64 b, .int .i64 c, .int .u32 n, .bool fl]] w fun e w' => e = .panicked [{ v := .iface 56 (.agg #[]), recovered := false }] ∧ Ys w' d ma { r with s := r.s.setPc n } ∧ Upd [d] w w' := by
 have ht : 0 ≤ t ∧ t < 64 := hx.t
 have ha : 0 ≤ a ∧ a < 64 := hx.a
 have hb : 0 ≤ b ∧ b < 64 := hx.b
 have hc : 0 ≤ c ∧ c < 64 := hx.c
 have hn : 0 ≤ n ∧ n < 4294967296 := hx.n
 have HX := Yh_ (And.intro hx h)
 clear hx
 have hlt := h.lt
 have hno := h
 clear h
 have tok : True := trivial
 obtain ⟨M0, hM0⟩ : ∃ M0, w.heap.size = M0 := ⟨_, rfl⟩
 go_enter Tryd.func14, Tryd.ntmps14
 go_upto_region 1 with fail
 have hm := heap_alloc_new w (.cells #[.int .i64 15, .int .i64 t, .int .i64 a, .int .i64 b, .int .i64 c, .int .u32 n, .bool fl] 35)
 have hu := (Upd.refl [] w).alloc (.cells #[.int .i64 15, .int .i64 t, .int .i64 a, .int .i64 b, .int .i64 c, .int .u32 n, .bool fl] 35)
 have hr := hno.keep hu (by simp)
 rw [hM0] at hm
 generalize w.alloc (.cells #[.int .i64 15, .int .i64 t, .int .i64 a, .int .i64 b, .int .i64 c, .int .u32 n, .bool fl] 35) = w1 at *
 have cm := Ya hm
 have cd := hr.cell
 have ra := Yah ma r a.toNat (by omega)
 have rb := Yah ma r b.toNat (by omega)
 have rt := Yah ma r t.toNat (by omega)
 have rpc := Ydh ma r
 have rdf := Ydi ma r
 have HH := Yh_ (And.intro hm (And.intro hu (And.intro hr hM0)))
 clear hm hu hr hno hM0
 go_quiet (fail)
 have HH2 := Yh_ (And.intro ((Yz (Upd.refl [] w1) nq).get HH.out.1 (by simp)) (And.intro (Yz HH.out.2.1 nq) (And.intro (HH.out.2.2.1.keep (Yz (Upd.refl [] w1) nq) (by simp)) HH.out.2.2.2)))
 have cm2 : ∀ o, (w1.drewN nq).cell? ⟨M0, o, none⟩ = _ := cm
 have cd2 : ∀ o, (w1.drewN nq).cell? ⟨d, o, none⟩ = _ := cd
 have fd2 : ∀ o, (w1.drewN nq).frozen? ⟨d, o, none⟩ = false := Yc HH2.out.2.2.1.h
 clear cm cd HH
 generalize w1.drewN nq = w2 at *
 have HH3 := Yh_ HH2.out.2
 clear HH2
 go_wp2_with fail
 exact ⟨rfl, rfl, HH3.out.2.1.setS _ 8 _ (by omega) rfl (St.setPc_ok HX.out.2.ok.s hn), Yec HH3.out.1 _ _⟩
theorem Yki (d ma : Nat) (r : Rn) (t a b c n : Int) (fl : Bool) (w : World) (h : Ys w d ma r) (hx : (⟨16, t, a, b, c, n, fl⟩ : Mi).In) :
  Calls Tryd.prog 14 #[.pointer (some ⟨d, 0, none⟩), .agg #[.int .i64 16, .int .i64 t, .int .i64 a, .int .i64 b, .int .i64 c, .int .u32 n, .bool fl]] w fun e w' => e = .returned (.tuple #[]) ∧ Ys w' d ma (⟨r.s.setPc n, r.s.setPc n, r.T⟩) ∧ Upd [d] w w' := by
 have ht : 0 ≤ t ∧ t < 64 := hx.t
 have ha : 0 ≤ a ∧ a < 64 := hx.a
 have hb : 0 ≤ b ∧ b < 64 := hx.b
 have hc : 0 ≤ c ∧ c < 64 := hx.c
 have hn : 0 ≤ n ∧ n < 4294967296 := hx.n
 have HX := Yh_ (And.intro hx h)
 clear hx
 have hlt := h.lt
 have hno := h
 clear h
 have tok : True := trivial
 obtain ⟨M0, hM0⟩ : ∃ M0, w.heap.size = M0 := ⟨_, rfl⟩
 go_enter Tryd.func14, Tryd.ntmps14
 go_upto_region 1 with fail
 have hm := heap_alloc_new w (.cells #[.int .i64 16, .int .i64 t, .int .i64 a, .int .i64 b, .int .i64 c, .int .u32 n, .bool fl] 35)
 have hu := (Upd.refl [] w).alloc (.cells #[.int .i64 16, .int .i64 t, .int .i64 a, .int .i64 b, .int .i64 c, .int .u32 n, .bool fl] 35)
 have hr := hno.keep hu (by simp)
 rw [hM0] at hm
 generalize w.alloc (.cells #[.int .i64 16, .int .i64 t, .int .i64 a, .int .i64 b, .int .i64 c, .int .u32 n, .bool fl] 35) = w1 at *
 have cm := Ya hm
 have cd := hr.cell
 have ra := Yah ma r a.toNat (by omega)
 have rb := Yah ma r b.toNat (by omega)
 have rt := Yah ma r t.toNat (by omega)
 have rpc := Ydh ma r
 have rdf := Ydi ma r
 have HH := Yh_ (And.intro hm (And.intro hu (And.intro hr hM0)))
 clear hm hu hr hno hM0
 go_quiet (fail)
 have HH2 := Yh_ (And.intro ((Yz (Upd.refl [] w1) nq).get HH.out.1 (by simp)) (And.intro (Yz HH.out.2.1 nq) (And.intro (HH.out.2.2.1.keep (Yz (Upd.refl [] w1) nq) (by simp)) HH.out.2.2.2)))
 have cm2 : ∀ o, (w1.drewN nq).cell? ⟨M0, o, none⟩ = _ := cm
 have cd2 : ∀ o, (w1.drewN nq).cell? ⟨d, o, none⟩ = _ := cd
 have fd2 : ∀ o, (w1.drewN nq).frozen? ⟨d, o, none⟩ = false := Yc HH2.out.2.2.1.h
 clear cm cd HH
 generalize w1.drewN nq = w2 at *
 have HH3 := Yh_ HH2.out.2
 clear HH2
 go_upto_region 28 with fail
 have h9 : Ys (w2.setCell ⟨d, 9, none⟩ (.int .u32 n)) d ma { r with s := r.s.setPc n } := HH3.out.2.1.setS _ 8 (.int .u32 n) (by omega) rfl (St.setPc_ok HX.out.2.ok.s hn)
 have H4 := Yh_ (And.intro h9 (Yec (d := d) HH3.out.1 9 (.int .u32 n)))
 clear cm2 cd2 fd2 HH3 h9
 generalize w2.setCell ⟨d, 9, none⟩ (.int .u32 n) = w4 at *
 go_wp2_with (first
  |(have _t := tok; clear _t; refine Yaa 28 rfl ?_; refine Yl rfl 28 _ rfl d 1 rfl (r.s.setPc n).cells _ H4.out.1.rs Tryd.underlying28 rfl (by rw [St.size]; exact Yay) ?_; clear tok)
  |(refine Yag 28 rfl ?_; have e1 := H4.out.1.h; refine Ygc rfl 28 _ _ rfl d 18 (r.s.setPc n).cells rfl rfl e1 ?_ ?_ ?_ ?_; (all_goals first | (rw [Yb4, St.size]; decide) | (rw [St.size]; exact Yay) | exact St.one _ | skip); intro w5 hw; clear e1; have H5 := Yh_ (And.intro (H4.out.1.putP hw) (Upd.setCells (q := d) (.inl (by simp)) (r.s.setPc n).cells.toList 18 H4.out.2)); have HW := Yh_ hw; clear hw H4))
 go_end0
 exact ⟨rfl, H5.out.1, HW.out ▸ H5.out.2⟩
theorem Ylr (d ma : Nat) (r : Rn) (t a b c n : Int) (fl : Bool) (w : World) (h : Ys w d ma r) (hx : (⟨9, t, a, b, c, n, fl⟩ : Mi).In) (h8 : n < 7) :
  Calls Tryd.prog 14 #[.pointer (some ⟨d, 0, none⟩), .agg #[.int .i64 9, .int .i64 t, .int .i64 a, .int .i64 b, .int .i64 c, .int .u32 n, .bool fl]] w fun e w' => e = .returned (.tuple #[]) ∧ Ys w' d ma (r.setT t.toNat (Yef (Ydb r.s n))) ∧ Upd [d] w w' := by
 have ht : 0 ≤ t ∧ t < 64 := hx.t
 have ha : 0 ≤ a ∧ a < 64 := hx.a
 have hb : 0 ≤ b ∧ b < 64 := hx.b
 have hc : 0 ≤ c ∧ c < 64 := hx.c
 have hn : 0 ≤ n ∧ n < 4294967296 := hx.n
 have HX := Yh_ (And.intro hx h)
 clear hx
 have hlt := h.lt
 have hno := h
 clear h
 obtain ⟨bv, hbv⟩ : ∃ bv, Ydb r.s n = bv := ⟨_, rfl⟩
 have HBV := Yh_ hbv
 rw [hbv]
 clear hbv
 have HFN := Yh_ (show 0 ≤ n ∧ n < 7 from ⟨hn.1, h8⟩)
 have tok : True := trivial
 obtain ⟨M0, hM0⟩ : ∃ M0, w.heap.size = M0 := ⟨_, rfl⟩
 go_enter Tryd.func14, Tryd.ntmps14
 go_upto_region 1 with fail
 have hm := heap_alloc_new w (.cells #[.int .i64 9, .int .i64 t, .int .i64 a, .int .i64 b, .int .i64 c, .int .u32 n, .bool fl] 35)
 have hu := (Upd.refl [] w).alloc (.cells #[.int .i64 9, .int .i64 t, .int .i64 a, .int .i64 b, .int .i64 c, .int .u32 n, .bool fl] 35)
 have hr := hno.keep hu (by simp)
 rw [hM0] at hm
 generalize w.alloc (.cells #[.int .i64 9, .int .i64 t, .int .i64 a, .int .i64 b, .int .i64 c, .int .u32 n, .bool fl] 35) = w1 at *
 have cm := Ya hm
 have cd := hr.cell
 have ra := Yah ma r a.toNat (by omega)
 have rb := Yah ma r b.toNat (by omega)
 have rt := Yah ma r t.toNat (by omega)
 have rpc := Ydh ma r
 have rdf := Ydi ma r
 have HH := Yh_ (And.intro hm (And.intro hu (And.intro hr hM0)))
 clear hm hu hr hno hM0
 go_quiet (fail)
 have HH2 := Yh_ (And.intro ((Yz (Upd.refl [] w1) nq).get HH.out.1 (by simp)) (And.intro (Yz HH.out.2.1 nq) (And.intro (HH.out.2.2.1.keep (Yz (Upd.refl [] w1) nq) (by simp)) HH.out.2.2.2)))
 have cm2 : ∀ o, (w1.drewN nq).cell? ⟨M0, o, none⟩ = _ := cm
 have cd2 : ∀ o, (w1.drewN nq).cell? ⟨d, o, none⟩ = _ := cd
 have fd2 : ∀ o, (w1.drewN nq).frozen? ⟨d, o, none⟩ = false := Yc HH2.out.2.2.1.h
 clear cm cd HH
 generalize w1.drewN nq = w2 at *
 go_upto_region 13 with fail
 clear fd2 cm2 cd2
 refine Yx 14 (MB w d ma M0 r #[.int .i64 9, .int .i64 t, .int .i64 a, .int .i64 b, .int .i64 c, .int .u32 n, .bool fl]) (fun _ _ => False) (by kernel_rfl) (by decide +kernel) ⟨((Upd.refl [] w2).drew).get HH2.out.1 (by simp), HH2.out.2.2.1.keep ((Upd.refl [] w2).drew) (by simp), HH2.out.2.1.drew⟩ (fun _ _ _ h => h.elim) ?_
 simp only [List.take_succ_cons, List.take_zero, List.drop_succ_cons, List.drop_zero]
 iterate 14
  apply Yg rfl rfl
  ·intro K hK w5 hB1
   have cm := Ya hB1.m
   have cd := hB1.r.cell
   have HB := Yh_ hB1
   clear hB1
   first
   |(refine wp_load_mid 28 _ rfl d 1 rfl r.s.cells.toList _ HB.out.r.rs Tryd.underlying28 rfl (by rw [Array.length_toList, St.size]; exact Yay) (by rw [Array.toArray_toList]; go_simp; exact hK _ HB.out))
   |(refine wp_load_mid 25 _ rfl d 10 rfl r.s.fl.cells.toList _ HB.out.r.rf Tryd.underlying25 rfl (by rw [Array.length_toList]; exact Yao) (by rw [Array.toArray_toList]; go_simp; exact hK _ HB.out))
   |(go_wp2_with (first
     |(go_at_call 23; refine (Yit r.s n HFN.out _).mono ?_; rintro e w6 ⟨rfl, hu⟩; rw [HBV.out])
     |(go_at_call 24; refine (Yi6 r.s.fl n _).mono ?_; rintro e w6 ⟨rfl, hu⟩; rw [HBV.out])
     |(go_at_call 22; refine (Yik _ _).mono ?_; rintro e w6 ⟨rfl, rfl⟩))
     first
     |exact hK _ HB.out
     |exact hK _ (HB.out.step hu)
     |exact HB.out
     |exact HB.out.step hu)
  ·exact ⟨_, rfl⟩
 refine Yo (fun _ w6 hB1 => ?_)
 have cd3 := hB1.r.cell
 have fd3 := Yc hB1.r.h
 have HH3 := Yh_ (And.intro hB1.u (And.intro hB1.r HH2.out.2.2.2))
 clear hB1 HH2
 go_wp2_with fail
 go_end0
 exact ⟨rfl, HH3.out.2.1.setT t.toNat (by omega) (Yfo _), (HH3.out.1.mono (by simp)).setCell (.inl (by simp)) _⟩
theorem Yk7 (d ma : Nat) (r : Rn) (t a b c n : Int) (fl : Bool) (w : World) (h : Ys w d ma r) (hx : (⟨10, t, a, b, c, n, fl⟩ : Mi).In) :
  Calls Tryd.prog 14 #[.pointer (some ⟨d, 0, none⟩), .agg #[.int .i64 10, .int .i64 t, .int .i64 a, .int .i64 b, .int .i64 c, .int .u32 n, .bool fl]] w fun e w' => e = .returned (.tuple #[]) ∧ Ys w' d ma (r.setT t.toNat (Yef (Yf5 r.s.fl n))) ∧ Upd [d] w w' := by
 have ht : 0 ≤ t ∧ t < 64 := hx.t
 have ha : 0 ≤ a ∧ a < 64 := hx.a
 have hb : 0 ≤ b ∧ b < 64 := hx.b
 have hc : 0 ≤ c ∧ c < 64 := hx.c
 have hn : 0 ≤ n ∧ n < 4294967296 := hx.n
 have HX := Yh_ (And.intro hx h)
 clear hx
 have hlt := h.lt
 have hno := h
 clear h
 obtain ⟨bv, hbv⟩ : ∃ bv, Yf5 r.s.fl n = bv := ⟨_, rfl⟩
 have HBV := Yh_ hbv
 rw [hbv]
 clear hbv
 have HFN := Yh_ (show True from trivial)
 have tok : True := trivial
 obtain ⟨M0, hM0⟩ : ∃ M0, w.heap.size = M0 := ⟨_, rfl⟩
 go_enter Tryd.func14, Tryd.ntmps14
 go_upto_region 1 with fail
 have hm := heap_alloc_new w (.cells #[.int .i64 10, .int .i64 t, .int .i64 a, .int .i64 b, .int .i64 c, .int .u32 n, .bool fl] 35)
 have hu := (Upd.refl [] w).alloc (.cells #[.int .i64 10, .int .i64 t, .int .i64 a, .int .i64 b, .int .i64 c, .int .u32 n, .bool fl] 35)
 have hr := hno.keep hu (by simp)
 rw [hM0] at hm
 generalize w.alloc (.cells #[.int .i64 10, .int .i64 t, .int .i64 a, .int .i64 b, .int .i64 c, .int .u32 n, .bool fl] 35) = w1 at *
 have cm := Ya hm
 have cd := hr.cell
 have ra := Yah ma r a.toNat (by omega)
 have rb := Yah ma r b.toNat (by omega)
 have rt := Yah ma r t.toNat (by omega)
 have rpc := Ydh ma r
 have rdf := Ydi ma r
 have HH := Yh_ (And.intro hm (And.intro hu (And.intro hr hM0)))
 clear hm hu hr hno hM0
 go_quiet (fail)
 have HH2 := Yh_ (And.intro ((Yz (Upd.refl [] w1) nq).get HH.out.1 (by simp)) (And.intro (Yz HH.out.2.1 nq) (And.intro (HH.out.2.2.1.keep (Yz (Upd.refl [] w1) nq) (by simp)) HH.out.2.2.2)))
 have cm2 : ∀ o, (w1.drewN nq).cell? ⟨M0, o, none⟩ = _ := cm
 have cd2 : ∀ o, (w1.drewN nq).cell? ⟨d, o, none⟩ = _ := cd
 have fd2 : ∀ o, (w1.drewN nq).frozen? ⟨d, o, none⟩ = false := Yc HH2.out.2.2.1.h
 clear cm cd HH
 generalize w1.drewN nq = w2 at *
 go_upto_region 15 with fail
 clear fd2 cm2 cd2
 refine Yx 16 (MB w d ma M0 r #[.int .i64 10, .int .i64 t, .int .i64 a, .int .i64 b, .int .i64 c, .int .u32 n, .bool fl]) (fun _ _ => False) (by kernel_rfl) (by decide +kernel) ⟨((Upd.refl [] w2).drew).get HH2.out.1 (by simp), HH2.out.2.2.1.keep ((Upd.refl [] w2).drew) (by simp), HH2.out.2.1.drew⟩ (fun _ _ _ h => h.elim) ?_
 simp only [List.take_succ_cons, List.take_zero, List.drop_succ_cons, List.drop_zero]
 iterate 16
  apply Yg rfl rfl
  ·intro K hK w5 hB1
   have cm := Ya hB1.m
   have cd := hB1.r.cell
   have HB := Yh_ hB1
   clear hB1
   first
   |(refine wp_load_mid 28 _ rfl d 1 rfl r.s.cells.toList _ HB.out.r.rs Tryd.underlying28 rfl (by rw [Array.length_toList, St.size]; exact Yay) (by rw [Array.toArray_toList]; go_simp; exact hK _ HB.out))
   |(refine wp_load_mid 25 _ rfl d 10 rfl r.s.fl.cells.toList _ HB.out.r.rf Tryd.underlying25 rfl (by rw [Array.length_toList]; exact Yao) (by rw [Array.toArray_toList]; go_simp; exact hK _ HB.out))
   |(go_wp2_with (first
     |(go_at_call 23; refine (Yit r.s n HFN.out _).mono ?_; rintro e w6 ⟨rfl, hu⟩; rw [HBV.out])
     |(go_at_call 24; refine (Yi6 r.s.fl n _).mono ?_; rintro e w6 ⟨rfl, hu⟩; rw [HBV.out])
     |(go_at_call 22; refine (Yik _ _).mono ?_; rintro e w6 ⟨rfl, rfl⟩))
     first
     |exact hK _ HB.out
     |exact hK _ (HB.out.step hu)
     |exact HB.out
     |exact HB.out.step hu)
  ·exact ⟨_, rfl⟩
 refine Yo (fun _ w6 hB1 => ?_)
 have cd3 := hB1.r.cell
 have fd3 := Yc hB1.r.h
 have HH3 := Yh_ (And.intro hB1.u (And.intro hB1.r HH2.out.2.2.2))
 clear hB1 HH2
 go_wp2_with fail
 go_end0
 exact ⟨rfl, HH3.out.2.1.setT t.toNat (by omega) (Yfo _), (HH3.out.1.mono (by simp)).setCell (.inl (by simp)) _⟩
theorem Yju (d ma : Nat) (r : Rn) (t a b c n : Int) (fl : Bool) (w : World) (h : Ys w d ma r) (hx : (⟨11, t, a, b, c, n, fl⟩ : Mi).In)  :
  Calls Tryd.prog 14 #[.pointer (some ⟨d, 0, none⟩), .agg #[.int .i64 11, .int .i64 t, .int .i64 a, .int .i64 b, .int .i64 c, .int .u32 n, .bool fl]] w fun e w' => e = .returned (.tuple #[]) ∧ Ys w' d ma (r.setT t.toNat (selV r c a b)) ∧ Upd [d] w w' := by
 have ht : 0 ≤ t ∧ t < 64 := hx.t
 have ha : 0 ≤ a ∧ a < 64 := hx.a
 have hb : 0 ≤ b ∧ b < 64 := hx.b
 have hc : 0 ≤ c ∧ c < 64 := hx.c
 have hn : 0 ≤ n ∧ n < 4294967296 := hx.n
 have HX := Yh_ (And.intro hx h)
 clear hx
 have hlt := h.lt
 have hno := h
 clear h
 have tok : True := trivial
 obtain ⟨M0, hM0⟩ : ∃ M0, w.heap.size = M0 := ⟨_, rfl⟩
 go_enter Tryd.func14, Tryd.ntmps14
 go_upto_region 1 with fail
 have hm := heap_alloc_new w (.cells #[.int .i64 11, .int .i64 t, .int .i64 a, .int .i64 b, .int .i64 c, .int .u32 n, .bool fl] 35)
 have hu := (Upd.refl [] w).alloc (.cells #[.int .i64 11, .int .i64 t, .int .i64 a, .int .i64 b, .int .i64 c, .int .u32 n, .bool fl] 35)
 have hr := hno.keep hu (by simp)
 rw [hM0] at hm
 generalize w.alloc (.cells #[.int .i64 11, .int .i64 t, .int .i64 a, .int .i64 b, .int .i64 c, .int .u32 n, .bool fl] 35) = w1 at *
 have cm := Ya hm
 have cd := hr.cell
 have ra := Yah ma r a.toNat (by omega)
 have rb := Yah ma r b.toNat (by omega)
 have rt := Yah ma r t.toNat (by omega)
 have rc := Yah ma r c.toNat (by omega)
 have rpc := Ydh ma r
 have rdf := Ydi ma r
 have HH := Yh_ (And.intro hm (And.intro hu (And.intro hr hM0)))
 clear hm hu hr hno hM0
 go_quiet (fail)
 have HH2 := Yh_ (And.intro ((Yz (Upd.refl [] w1) nq).get HH.out.1 (by simp)) (And.intro (Yz HH.out.2.1 nq) (And.intro (HH.out.2.2.1.keep (Yz (Upd.refl [] w1) nq) (by simp)) HH.out.2.2.2)))
 have cm2 : ∀ o, (w1.drewN nq).cell? ⟨M0, o, none⟩ = _ := cm
 have cd2 : ∀ o, (w1.drewN nq).cell? ⟨d, o, none⟩ = _ := cd
 have fd2 : ∀ o, (w1.drewN nq).frozen? ⟨d, o, none⟩ = false := Yc HH2.out.2.2.1.h
 clear cm cd HH
 generalize w1.drewN nq = w2 at *
 go_upto_region 18 with fail
 go_quiet (fail)
 have HH4 := Yh_ (And.intro ((Yz (Upd.refl [] w2) nq).get HH2.out.1 (by simp)) (And.intro (Yz HH2.out.2.1 nq) (And.intro (HH2.out.2.2.1.keep (Yz (Upd.refl [] w2) nq) (by simp)) HH2.out.2.2.2)))
 have cm4 : ∀ o, (w2.drewN nq).cell? ⟨M0, o, none⟩ = _ := cm2
 have cd4 : ∀ o, (w2.drewN nq).cell? ⟨d, o, none⟩ = _ := cd2
 have fd4 : ∀ o, (w2.drewN nq).frozen? ⟨d, o, none⟩ = false := fd2
 clear cm2 cd2 fd2 HH2
 generalize w2.drewN nq = w2 at *
 have cm2 := cm4
 have cd2 := cd4
 have fd2 := fd4
 have HH2 := Yh_ HH4.out
 clear cm4 cd4 fd4 HH4
 by_cases e0 : r.T c.toNat = 0
 ·have d0 : (r.T c.toNat != 0) = false := by simp [e0]
  have HSV := Yh_ (show r.T b.toNat = selV r c a b by unfold selV; rw [if_pos e0])
  clear e0
  go_upto_region 20 with fail
  go_still_tail 7, (by kernel_rfl)
  change wpList _ _ _ _ _ w2.drew
  have HH3 := Yh_ (And.intro (HH2.out.2.1.drew) (And.intro (HH2.out.2.2.1.keep ((Upd.refl [] w2).drew) (by simp)) HH2.out.2.2.2))
  have cd3 : ∀ o, w2.drew.cell? ⟨d, o, none⟩ = _ := cd2
  have fd3 : ∀ o, w2.drew.frozen? ⟨d, o, none⟩ = false := fd2
  clear cm2 cd2 fd2 HH2
  generalize w2.drew = w3 at *
  go_wp2_with fail
  go_end0
  exact ⟨rfl, by rw [← HSV.out]; exact HH3.out.2.1.setT t.toNat (by omega) (HX.out.2.ok.T _), (HH3.out.1.mono (by simp)).setCell (.inl (by simp)) _⟩
 ·have d0 : (r.T c.toNat != 0) = true := by simp [e0]
  have HSV := Yh_ (show r.T a.toNat = selV r c a b by unfold selV; rw [if_neg e0])
  clear e0
  go_upto_region 20 with fail
  go_still_tail 7, (by kernel_rfl)
  change wpList _ _ _ _ _ w2.drew
  have HH3 := Yh_ (And.intro (HH2.out.2.1.drew) (And.intro (HH2.out.2.2.1.keep ((Upd.refl [] w2).drew) (by simp)) HH2.out.2.2.2))
  have cd3 : ∀ o, w2.drew.cell? ⟨d, o, none⟩ = _ := cd2
  have fd3 : ∀ o, w2.drew.frozen? ⟨d, o, none⟩ = false := fd2
  clear cm2 cd2 fd2 HH2
  generalize w2.drew = w3 at *
  go_wp2_with fail
  go_end0
  exact ⟨rfl, by rw [← HSV.out]; exact HH3.out.2.1.setT t.toNat (by omega) (HX.out.2.ok.T _), (HH3.out.1.mono (by simp)).setCell (.inl (by simp)) _⟩
section
def Keeps (w : World) (P : World → Prop) : Prop := ∀ S w1 w2, P w1 → Upd S w1 w2 → (∀ x ∈ S, w.heap.size ≤ x) → P w2
theorem Ykn (w : World) : Keeps w (fun _ => True) := fun _ _ _ _ _ _ => trivial
theorem Yh7 {w : World} {a pb : Nat} {M : Mem} (h : Yi w a pb M) : Keeps w (fun w1 => Yi w1 a pb M) := fun S w1 w2 h1 u hS =>
 h1.keep u (fun hh => by have := hS _ hh; have := h.al; omega) (fun hh => by have := hS _ hh; have := h.pl; omega)
structure Vg (w : World) (S : List Nat) (P : World → Prop) (k m : Nat) (T : TypeId) (Z V : Array Value) (dn : Nat → Bool) (r : Nat → Value) (w1 : World) : Prop where
 u : Upd S w w1
 p : P w1
 c : Keeps w P
 x : dn k = true → ∃ g, r k = .pointer (some ⟨g, 0, none⟩) ∧ w.heap.size ≤ g ∧ w1.heap[g]? = some (.cells (if dn m then V else Z) T (0, 0))
 xo : dn m = true → dn k = true
section
variable {w w1 w2 : World} {S : List Nat} {P : World → Prop} {k m : Nat} {T : TypeId} {Z V : Array Value} {dn : Nat → Bool} {r : Nat → Value}
theorem Vg.start (w : World) (S : List Nat) (P : World → Prop) (hc : Keeps w P) (hp : P w) (k m : Nat) (T : TypeId) (Z V : Array Value) (r : Nat → Value) : Vg w S P k m T Z V (fun _ => false) r w.drew :=
 ⟨(Upd.refl S w).drew, hc [] w _ hp (Upd.refl [] w).drew (by simp), hc, fun h => (by cases h), fun h => (by cases h)⟩
theorem Vg.quiet (h : Vg w S P k m T Z V dn r w1) (u : Upd [] w1 w2) (j : Nat) (h1 : k ≠ j) (h2 : m ≠ j) : Vg w S P k m T Z V (Yw dn j) r w2 := by
 refine ⟨h.u.also u (by simp), h.c _ _ _ h.p u (by simp), h.c, fun hx => ?_, fun hx => ?_⟩
 ·rw [Yb h1] at hx
  obtain ⟨g, e1, e2, e3⟩ := h.x hx
  exact ⟨g, e1, e2, by rw [Yb h2]; exact u.get e3 (by simp)⟩
 ·rw [Yb h2] at hx; rw [Yb h1]; exact h.xo hx
theorem Vg.same (h : Vg w S P k m T Z V dn r w1) (j : Nat) (h1 : k ≠ j) (h2 : m ≠ j) : Vg w S P k m T Z V (Yw dn j) r w1 := h.quiet (Upd.refl [] w1) j h1 h2
theorem Vg.lay (h : Vg w S P k m T Z V dn r w1) (hd : dn k = false) (hkm : m ≠ k) : Vg w S P k m T Z V (Yw dn k) (Ybp r k (.pointer (some ⟨w1.heap.size, 0, none⟩))) (w1.alloc (.cells Z T)) := by
 have hdm : dn m = false := by
  cases e : dn m with
  |false => rfl
  |true => rw [h.xo e] at hd; cases hd
 refine ⟨h.u.alloc _, h.c _ _ _ h.p ((Upd.refl [] w1).alloc _) (by simp), h.c, fun _ => ⟨_, Ycz, h.u.size, ?_⟩, fun _ => Ya6⟩
 rw [Yb hkm, hdm]
 exact heap_alloc_new _ _
theorem Vg.put (h : Vg w S P k m T Z V dn r w1) (hd : dn k = true) {g : Nat} (e1 : r k = .pointer (some ⟨g, 0, none⟩)) (hv : ∀ c, (c = V ∨ c = Z) → wr c 0 V.toList = V) (hkm : k ≠ m) : Vg w S P k m T Z V (Yw dn m) r (w1.setCells g 0 V.toList) := by
 obtain ⟨g', e1', e2, e3⟩ := h.x hd
 obtain rfl : g' = g := by rw [e1] at e1'; injection e1' with e; injection e with e; injection e with e; exact e.symm
 refine ⟨h.u.setCells (.inr e2) _ _, h.c [g'] _ _ h.p ((Upd.refl [g'] w1).setCells (.inl (by simp)) _ _) (by simpa using e2), h.c, fun _ => ⟨g', e1, e2, ?_⟩, fun _ => by rw [Yb hkm]; exact hd⟩
 rw [Ya6, if_pos rfl, Yad _ _ _ _ e3, hv _ (by split <;> simp)]
theorem Vg.wrote (h : Vg w S P k m T Z V dn r w1) (u : Upd S w1 w2) (hp : P w2) (hS : ∀ x ∈ S, x < w.heap.size) (j : Nat) (h1 : k ≠ j) (h2 : m ≠ j) : Vg w S P k m T Z V (Yw dn j) r w2 := by
 refine ⟨h.u.also u (fun x hx => .inl hx), hp, h.c, fun hx => ?_, fun hx => ?_⟩
 ·rw [Yb h1] at hx
  obtain ⟨g, e1, e2, e3⟩ := h.x hx
  exact ⟨g, e1, e2, by rw [Yb h2]; exact u.get e3 (fun hh => by have := hS _ hh; omega)⟩
 ·rw [Yb h2] at hx; rw [Yb h1]; exact h.xo hx
end
end
structure Hs where
 x : Nat → Int
 mem : Value
 pc : Int
 why : Int
def Hs.at_ (H : Hs) (k : Nat) : Value := if k < 32 then .int .u32 (H.x k) else if k = 32 then H.mem else if k = 33 then .int .u32 H.pc else .int .u32 H.why
def Hs.cells (H : Hs) : Array Value := (Array.range 35).map H.at_
def Hs.set (H : Hs) (i : Nat) (v : Int) : Hs := { H with x := fun j => if j = i then v else H.x j }
def Hs.get (H : Hs) (i : Int) : Int := if i < 1 ∨ 32 ≤ i then 0 else H.x i.toNat
def Hs.put (H : Hs) (i v : Int) : Hs := if i < 1 ∨ 32 ≤ i then H else H.set i.toNat v
theorem Hs.cell (H : Hs) (k : Nat) (h : k < 35) : H.cells[k]? = some (H.at_ k) := by simp [Hs.cells, h]
theorem Hs.size (H : Hs) : H.cells.size = 35 := by simp [Hs.cells]
def Hs.zero (m : Nat) : Hs := ⟨fun _ => 0, .slice (some ⟨m, 0, none⟩) 32768 32768, 1024, 0⟩
def Hs.two (H : Hs) (i : Int) : Int := H.get (10 + i) + H.get (11 + i) * 4294967296
def Yhs (x : Int) : Int := bits .xor .u64 x 9223372036854775808
def Yha (x : Int) : Int := bits .andNot .u64 x 9223372036854775808
theorem fl_Neg (x : Int) (w : World) : Calls Tryd.prog 60 #[.int .u64 x] w fun e w' => e = .returned (.int .u64 (Yhs x)) ∧ w = w' := by
 go_enter Tryd.func60, Tryd.ntmps60
 go_wp2_with fail
 go_ret
 exact ⟨rfl, rfl⟩
theorem fl_Abs (x : Int) (w : World) : Calls Tryd.prog 61 #[.int .u64 x] w fun e w' => e = .returned (.int .u64 (Yha x)) ∧ w = w' := by
 go_enter Tryd.func61, Tryd.ntmps61
 go_wp2_with fail
 go_ret
 exact ⟨rfl, rfl⟩
theorem Ygf (x : Int) : 0 ≤ Yhs x ∧ Yhs x < 18446744073709551616 := by
 show 0 ≤ IntKind.u64.wrap _ ∧ IntKind.u64.wrap _ < _
 rw [Yb0]; omega
theorem Ygi (x : Int) : 0 ≤ Yha x ∧ Yha x < 18446744073709551616 := by
 show 0 ≤ IntKind.u64.wrap _ ∧ IntKind.u64.wrap _ < _
 rw [Yb0]; omega
end Go.Proofs.YtjkolegknpflfaaDoor
