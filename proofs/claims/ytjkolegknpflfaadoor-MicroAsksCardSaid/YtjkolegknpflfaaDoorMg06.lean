/-
  Parts of the proof (their names shortened by a program). No condition.
-/
import Derived.Test.YtjkolegknpflfaaDoorMg01
import Derived.Test.YtjkolegknpflfaaDoorMg05
import Derived.Deep.Cut
import Derived.Test.YtjkolegknpflfaaDoorMg04
import Derived.Test.YtjkolegknpflfaaDoorProg
import Derived.Laws.FloatArith
import Derived.Laws.Externs
import Derived.Test.YtjkolegknpflfaaDoorMg03
import Derived.Maps.AppendAt
import Derived.OwnWalk
import Derived.ChangeSlices
import Derived.ChangeKeysEq
import Derived.Lib.SliceRun
namespace Go.Proofs.YtjkolegknpflfaaDoor
open Go Go.RowKit
set_option linter.unusedVariables false
set_option linter.unusedSimpArgs false
set_option maxRecDepth 100000
set_option maxHeartbeats 16000000
theorem Yc0 {d : Nat} {w w' : World} (u : Upd [] w w') (o : Nat) (v : Value) : Upd [d] w (w'.setCell ⟨d, o, none⟩ v) := (u.mono (by simp)).setCell (.inl (by simp)) _
def selV (r : Rn) (c a b : Int) : Int := if r.T c.toNat = 0 then r.T b.toNat else r.T a.toNat
def St.setPc (s : St) (v : Int) : St := { s with pc := v }
def St.setDf (s : St) (v : Bool) : St := { s with df := v }
theorem St.setPc_ok {s : St} (h : s.Ok) {v : Int} (hv : 0 ≤ v ∧ v < 4294967296) : (s.setPc v).Ok := ⟨h.R, hv, h.f⟩
theorem Yed (a : Nat) (r : Rn) : (Yj a r)[16]? = some (.bool r.s.df) := rn_s a r 15 (by decide)
theorem Yec (a : Nat) (r : Rn) : (Yj a r)[9]? = some (.int .u32 r.s.pc) := rn_s a r 8 (by decide)
theorem Yfz (d ma : Nat) (r : Rn) (t a b c n : Int) (fl : Bool) (w : World) (h : Ys w d ma r) (hx : (⟨1, t, a, b, c, n, fl⟩ : Mi).In) :
  Calls Tryd.prog 14 #[.pointer (some ⟨d, 0, none⟩), .agg #[.int .i64 1, .int .i64 t, .int .i64 a, .int .i64 b, .int .i64 c, .int .u32 n, .bool fl]] w fun e w' => e = .returned (.tuple #[]) ∧ Ys w' d ma (r.setT t.toNat n) ∧ Upd [d] w w' := by
 have ht : 0 ≤ t ∧ t < 64 := hx.t
 have ha : 0 ≤ a ∧ a < 64 := hx.a
 have hb : 0 ≤ b ∧ b < 64 := hx.b
 have hc : 0 ≤ c ∧ c < 64 := hx.c
 have hn : 0 ≤ n ∧ n < 4294967296 := hx.n
 have HX := Yh_ (And.intro hx h)
 clear hx
 have hlt := h.lt
 have hno := h
 clear h
 have tok : True := trivial
 obtain ⟨M0, hM0⟩ : ∃ M0, w.heap.size = M0 := ⟨_, rfl⟩
 go_enter Tryd.func14, Tryd.ntmps14
 go_upto_region 1 with fail
 have hm := heap_alloc_new w (.cells #[.int .i64 1, .int .i64 t, .int .i64 a, .int .i64 b, .int .i64 c, .int .u32 n, .bool fl] 35)
 have hu := (Upd.refl [] w).alloc (.cells #[.int .i64 1, .int .i64 t, .int .i64 a, .int .i64 b, .int .i64 c, .int .u32 n, .bool fl] 35)
 have hr := hno.keep hu (by simp)
 rw [hM0] at hm
 generalize w.alloc (.cells #[.int .i64 1, .int .i64 t, .int .i64 a, .int .i64 b, .int .i64 c, .int .u32 n, .bool fl] 35) = w1 at *
 have cm := Yb hm
 have cd := hr.cell
 have ra := Yax ma r a.toNat (by omega)
 have rb := Yax ma r b.toNat (by omega)
 have rt := Yax ma r t.toNat (by omega)
 have rpc := Yec ma r
 have rdf := Yed ma r
 have HH := Yh_ (And.intro hm (And.intro hu (And.intro hr hM0)))
 clear hm hu hr hno hM0
 go_quiet (fail)
 have HH2 := Yh_ (And.intro ((Yz (Upd.refl [] w1) nq).get HH.out.1 (by simp)) (And.intro (Yz HH.out.2.1 nq) (And.intro (HH.out.2.2.1.keep (Yz (Upd.refl [] w1) nq) (by simp)) HH.out.2.2.2)))
 have cm2 : ∀ o, (w1.drewN nq).cell? ⟨M0, o, none⟩ = _ := cm
 have cd2 : ∀ o, (w1.drewN nq).cell? ⟨d, o, none⟩ = _ := cd
 have fd2 : ∀ o, (w1.drewN nq).frozen? ⟨d, o, none⟩ = false := Yi HH2.out.2.2.1.h
 clear cm cd HH
 generalize w1.drewN nq = w2 at *
 go_upto_region 5 with fail
 go_still_tail 8, (by kernel_rfl)
 change wpList _ _ _ _ _ w2.drew
 have HH3 := Yh_ (And.intro (HH2.out.2.1.drew) (And.intro (HH2.out.2.2.1.keep ((Upd.refl [] w2).drew) (by simp)) HH2.out.2.2.2))
 have cd3 : ∀ o, w2.drew.cell? ⟨d, o, none⟩ = _ := cd2
 have fd3 : ∀ o, w2.drew.frozen? ⟨d, o, none⟩ = false := fd2
 clear cm2 cd2 fd2 HH2
 generalize w2.drew = w3 at *
 go_wp2_with fail
 go_end0
 exact ⟨rfl, HH3.out.2.1.setT t.toNat (by omega) hn, (HH3.out.1.mono (by simp)).setCell (.inl (by simp)) _⟩
theorem Yfg (d ma : Nat) (r : Rn) (t a b c n : Int) (fl : Bool) (w : World) (h : Ys w d ma r) (hx : (⟨3, t, a, b, c, n, fl⟩ : Mi).In) (h8 : n < 8) :
  Calls Tryd.prog 14 #[.pointer (some ⟨d, 0, none⟩), .agg #[.int .i64 3, .int .i64 t, .int .i64 a, .int .i64 b, .int .i64 c, .int .u32 n, .bool fl]] w fun e w' => e = .returned (.tuple #[]) ∧ Ys w' d ma ({ r with s := r.s.setR n.toNat (r.T a.toNat) }) ∧ Upd [d] w w' := by
 have ht : 0 ≤ t ∧ t < 64 := hx.t
 have ha : 0 ≤ a ∧ a < 64 := hx.a
 have hb : 0 ≤ b ∧ b < 64 := hx.b
 have hc : 0 ≤ c ∧ c < 64 := hx.c
 have hn : 0 ≤ n ∧ n < 4294967296 := hx.n
 have HX := Yh_ (And.intro hx h)
 clear hx
 have hlt := h.lt
 have hno := h
 clear h
 have tok : True := trivial
 obtain ⟨M0, hM0⟩ : ∃ M0, w.heap.size = M0 := ⟨_, rfl⟩
 go_enter Tryd.func14, Tryd.ntmps14
 go_upto_region 1 with fail
 have hm := heap_alloc_new w (.cells #[.int .i64 3, .int .i64 t, .int .i64 a, .int .i64 b, .int .i64 c, .int .u32 n, .bool fl] 35)
 have hu := (Upd.refl [] w).alloc (.cells #[.int .i64 3, .int .i64 t, .int .i64 a, .int .i64 b, .int .i64 c, .int .u32 n, .bool fl] 35)
 have hr := hno.keep hu (by simp)
 rw [hM0] at hm
 generalize w.alloc (.cells #[.int .i64 3, .int .i64 t, .int .i64 a, .int .i64 b, .int .i64 c, .int .u32 n, .bool fl] 35) = w1 at *
 have cm := Yb hm
 have cd := hr.cell
 have ra := Yax ma r a.toNat (by omega)
 have rb := Yax ma r b.toNat (by omega)
 have rt := Yax ma r t.toNat (by omega)
 have rpc := Yec ma r
 have rdf := Yed ma r
 have HH := Yh_ (And.intro hm (And.intro hu (And.intro hr hM0)))
 clear hm hu hr hno hM0
 go_quiet (fail)
 have HH2 := Yh_ (And.intro ((Yz (Upd.refl [] w1) nq).get HH.out.1 (by simp)) (And.intro (Yz HH.out.2.1 nq) (And.intro (HH.out.2.2.1.keep (Yz (Upd.refl [] w1) nq) (by simp)) HH.out.2.2.2)))
 have cm2 : ∀ o, (w1.drewN nq).cell? ⟨M0, o, none⟩ = _ := cm
 have cd2 : ∀ o, (w1.drewN nq).cell? ⟨d, o, none⟩ = _ := cd
 have fd2 : ∀ o, (w1.drewN nq).frozen? ⟨d, o, none⟩ = false := Yi HH2.out.2.2.1.h
 clear cm cd HH
 have rn := (rn_s ma r n.toNat (by omega)).trans (r.s.cR n.toNat (by omega))
 generalize w1.drewN nq = w2 at *
 go_upto_region 9 with fail
 go_still_tail 8, (by kernel_rfl)
 change wpList _ _ _ _ _ w2.drew
 have HH3 := Yh_ (And.intro (HH2.out.2.1.drew) (And.intro (HH2.out.2.2.1.keep ((Upd.refl [] w2).drew) (by simp)) HH2.out.2.2.2))
 have cd3 : ∀ o, w2.drew.cell? ⟨d, o, none⟩ = _ := cd2
 have fd3 : ∀ o, w2.drew.frozen? ⟨d, o, none⟩ = false := fd2
 clear cm2 cd2 fd2 HH2
 generalize w2.drew = w3 at *
 go_wp2_with fail
 go_end0
 exact ⟨rfl, HH3.out.2.1.setS _ n.toNat _ (by omega) (St.cells_setR _ _ _ (by omega)) (St.setR_ok HX.out.2.ok.s _ (HX.out.2.ok.T _).1 (HX.out.2.ok.T _).2), Yc0 HH3.out.1 _ _⟩
theorem Ygb (d ma : Nat) (r : Rn) (t a b c n : Int) (fl : Bool) (w : World) (h : Ys w d ma r) (hx : (⟨14, t, a, b, c, n, fl⟩ : Mi).In) :
  Calls Tryd.prog 14 #[.pointer (some ⟨d, 0, none⟩), .agg #[.int .i64 14, .int .i64 t, .int .i64 a, .int .i64 b, .int .i64 c, .int .u32 n, .bool fl]] w fun e w' => e = .returned (.tuple #[]) ∧ Ys w' d ma ({ r with s := r.s.setPc (r.T a.toNat) }) ∧ Upd [d] w w' := by
 have ht : 0 ≤ t ∧ t < 64 := hx.t
 have ha : 0 ≤ a ∧ a < 64 := hx.a
 have hb : 0 ≤ b ∧ b < 64 := hx.b
 have hc : 0 ≤ c ∧ c < 64 := hx.c
 have hn : 0 ≤ n ∧ n < 4294967296 := hx.n
 have HX := Yh_ (And.intro hx h)
 clear hx
 have hlt := h.lt
 have hno := h
 clear h
 have tok : True := trivial
 obtain ⟨M0, hM0⟩ : ∃ M0, w.heap.size = M0 := ⟨_, rfl⟩
 go_enter Tryd.func14, Tryd.ntmps14
 go_upto_region 1 with fail
 have hm := heap_alloc_new w (.cells #[.int .i64 14, .int .i64 t, .int .i64 a, .int .i64 b, .int .i64 c, .int .u32 n, .bool fl] 35)
 have hu := (Upd.refl [] w).alloc (.cells #[.int .i64 14, .int .i64 t, .int .i64 a, .int .i64 b, .int .i64 c, .int .u32 n, .bool fl] 35)
 have hr := hno.keep hu (by simp)
 rw [hM0] at hm
 generalize w.alloc (.cells #[.int .i64 14, .int .i64 t, .int .i64 a, .int .i64 b, .int .i64 c, .int .u32 n, .bool fl] 35) = w1 at *
 have cm := Yb hm
 have cd := hr.cell
 have ra := Yax ma r a.toNat (by omega)
 have rb := Yax ma r b.toNat (by omega)
 have rt := Yax ma r t.toNat (by omega)
 have rpc := Yec ma r
 have rdf := Yed ma r
 have HH := Yh_ (And.intro hm (And.intro hu (And.intro hr hM0)))
 clear hm hu hr hno hM0
 go_quiet (fail)
 have HH2 := Yh_ (And.intro ((Yz (Upd.refl [] w1) nq).get HH.out.1 (by simp)) (And.intro (Yz HH.out.2.1 nq) (And.intro (HH.out.2.2.1.keep (Yz (Upd.refl [] w1) nq) (by simp)) HH.out.2.2.2)))
 have cm2 : ∀ o, (w1.drewN nq).cell? ⟨M0, o, none⟩ = _ := cm
 have cd2 : ∀ o, (w1.drewN nq).cell? ⟨d, o, none⟩ = _ := cd
 have fd2 : ∀ o, (w1.drewN nq).frozen? ⟨d, o, none⟩ = false := Yi HH2.out.2.2.1.h
 clear cm cd HH
 generalize w1.drewN nq = w2 at *
 have HH3 := Yh_ HH2.out.2
 clear HH2
 go_wp2_with fail
 go_end0
 exact ⟨rfl, HH3.out.2.1.setS _ 8 _ (by omega) rfl (St.setPc_ok HX.out.2.ok.s (HX.out.2.ok.T _)), Yc0 HH3.out.1 _ _⟩
theorem does_ask (d ma : Nat) (r : Rn) (t a b c n : Int) (fl : Bool) (w : World) (h : Ys w d ma r) (hx : (⟨15, t, a, b, c, n, fl⟩ : Mi).In) :
  Calls Tryd.prog 14 #[.pointer (some ⟨d, 0, none⟩), .agg #[.int .i64 15, .int .i64 t, .int .i64 a, .int .i64 b, .int .i64 c, .int .u32 n, .bool fl]] w fun e w' => e = .panicked [{ v := .iface 56 (.agg #[]), recovered := false }] ∧ Ys w' d ma { r with s := r.s.setPc n } ∧ Upd [d] w w' := by
 have ht : 0 ≤ t ∧ t < 64 := hx.t
 have ha : 0 ≤ a ∧ a < 64 := hx.a
 have hb : 0 ≤ b ∧ b < 64 := hx.b
 have hc : 0 ≤ c ∧ c < 64 := hx.c
 have hn : 0 ≤ n ∧ n < 4294967296 := hx.n
 have HX := Yh_ (And.intro hx h)
 clear hx
 have hlt := h.lt
 have hno := h
 clear h
 have tok : True := trivial
 obtain ⟨M0, hM0⟩ : ∃ M0, w.heap.size = M0 := ⟨_, rfl⟩
 go_enter Tryd.func14, Tryd.ntmps14
 go_upto_region 1 with fail
 have hm := heap_alloc_new w (.cells #[.int .i64 15, .int .i64 t, .int .i64 a, .int .i64 b, .int .i64 c, .int .u32 n, .bool fl] 35)
 have hu := (Upd.refl [] w).alloc (.cells #[.int .i64 15, .int .i64 t, .int .i64 a, .int .i64 b, .int .i64 c, .int .u32 n, .bool fl] 35)
 have hr := hno.keep hu (by simp)
 rw [hM0] at hm
 generalize w.alloc (.cells #[.int .i64 15, .int .i64 t, .int .i64 a, .int .i64 b, .int .i64 c, .int .u32 n, .bool fl] 35) = w1 at *
 have cm := Yb hm
 have cd := hr.cell
 have ra := Yax ma r a.toNat (by omega)
 have rb := Yax ma r b.toNat (by omega)
 have rt := Yax ma r t.toNat (by omega)
 have rpc := Yec ma r
 have rdf := Yed ma r
 have HH := Yh_ (And.intro hm (And.intro hu (And.intro hr hM0)))
 clear hm hu hr hno hM0
 go_quiet (fail)
 have HH2 := Yh_ (And.intro ((Yz (Upd.refl [] w1) nq).get HH.out.1 (by simp)) (And.intro (Yz HH.out.2.1 nq) (And.intro (HH.out.2.2.1.keep (Yz (Upd.refl [] w1) nq) (by simp)) HH.out.2.2.2)))
 have cm2 : ∀ o, (w1.drewN nq).cell? ⟨M0, o, none⟩ = _ := cm
 have cd2 : ∀ o, (w1.drewN nq).cell? ⟨d, o, none⟩ = _ := cd
 have fd2 : ∀ o, (w1.drewN nq).frozen? ⟨d, o, none⟩ = false := Yi HH2.out.2.2.1.h
 clear cm cd HH
 generalize w1.drewN nq = w2 at *
 have HH3 := Yh_ HH2.out.2
 clear HH2
 go_wp2_with fail
 exact ⟨rfl, rfl, HH3.out.2.1.setS _ 8 _ (by omega) rfl (St.setPc_ok HX.out.2.ok.s hn), Yc0 HH3.out.1 _ _⟩
theorem Yf0 (d ma : Nat) (r : Rn) (t a b c n : Int) (fl : Bool) (w : World) (h : Ys w d ma r) (hx : (⟨16, t, a, b, c, n, fl⟩ : Mi).In) :
  Calls Tryd.prog 14 #[.pointer (some ⟨d, 0, none⟩), .agg #[.int .i64 16, .int .i64 t, .int .i64 a, .int .i64 b, .int .i64 c, .int .u32 n, .bool fl]] w fun e w' => e = .returned (.tuple #[]) ∧ Ys w' d ma (⟨r.s.setPc n, r.s.setPc n, r.T⟩) ∧ Upd [d] w w' := by
 have ht : 0 ≤ t ∧ t < 64 := hx.t
 have ha : 0 ≤ a ∧ a < 64 := hx.a
 have hb : 0 ≤ b ∧ b < 64 := hx.b
 have hc : 0 ≤ c ∧ c < 64 := hx.c
 have hn : 0 ≤ n ∧ n < 4294967296 := hx.n
 have HX := Yh_ (And.intro hx h)
 clear hx
 have hlt := h.lt
 have hno := h
 clear h
 have tok : True := trivial
 obtain ⟨M0, hM0⟩ : ∃ M0, w.heap.size = M0 := ⟨_, rfl⟩
 go_enter Tryd.func14, Tryd.ntmps14
 go_upto_region 1 with fail
 have hm := heap_alloc_new w (.cells #[.int .i64 16, .int .i64 t, .int .i64 a, .int .i64 b, .int .i64 c, .int .u32 n, .bool fl] 35)
 have hu := (Upd.refl [] w).alloc (.cells #[.int .i64 16, .int .i64 t, .int .i64 a, .int .i64 b, .int .i64 c, .int .u32 n, .bool fl] 35)
 have hr := hno.keep hu (by simp)
 rw [hM0] at hm
 generalize w.alloc (.cells #[.int .i64 16, .int .i64 t, .int .i64 a, .int .i64 b, .int .i64 c, .int .u32 n, .bool fl] 35) = w1 at *
 have cm := Yb hm
 have cd := hr.cell
 have ra := Yax ma r a.toNat (by omega)
 have rb := Yax ma r b.toNat (by omega)
 have rt := Yax ma r t.toNat (by omega)
 have rpc := Yec ma r
 have rdf := Yed ma r
 have HH := Yh_ (And.intro hm (And.intro hu (And.intro hr hM0)))
 clear hm hu hr hno hM0
 go_quiet (fail)
 have HH2 := Yh_ (And.intro ((Yz (Upd.refl [] w1) nq).get HH.out.1 (by simp)) (And.intro (Yz HH.out.2.1 nq) (And.intro (HH.out.2.2.1.keep (Yz (Upd.refl [] w1) nq) (by simp)) HH.out.2.2.2)))
 have cm2 : ∀ o, (w1.drewN nq).cell? ⟨M0, o, none⟩ = _ := cm
 have cd2 : ∀ o, (w1.drewN nq).cell? ⟨d, o, none⟩ = _ := cd
 have fd2 : ∀ o, (w1.drewN nq).frozen? ⟨d, o, none⟩ = false := Yi HH2.out.2.2.1.h
 clear cm cd HH
 generalize w1.drewN nq = w2 at *
 have HH3 := Yh_ HH2.out.2
 clear HH2
 go_upto_region 28 with fail
 have h9 : Ys (w2.setCell ⟨d, 9, none⟩ (.int .u32 n)) d ma { r with s := r.s.setPc n } := HH3.out.2.1.setS _ 8 (.int .u32 n) (by omega) rfl (St.setPc_ok HX.out.2.ok.s hn)
 have H4 := Yh_ (And.intro h9 (Yc0 (d := d) HH3.out.1 9 (.int .u32 n)))
 clear cm2 cd2 fd2 HH3 h9
 generalize w2.setCell ⟨d, 9, none⟩ (.int .u32 n) = w4 at *
 go_wp2_with (first
  |(have _t := tok; clear _t; refine Yah 28 rfl ?_; refine Yab rfl 28 _ rfl d 1 rfl (r.s.setPc n).cells _ H4.out.1.rs Tryd.underlying28 rfl (by rw [St.size]; exact Yag) ?_; clear tok)
  |(refine Yaw 28 rfl ?_; have e1 := H4.out.1.h; refine Yds rfl 28 _ _ rfl d 18 (r.s.setPc n).cells rfl rfl e1 ?_ ?_ ?_ ?_; (all_goals first | (rw [Ybi, St.size]; decide) | (rw [St.size]; exact Yag) | exact St.one _ | skip); intro w5 hw; clear e1; have H5 := Yh_ (And.intro (H4.out.1.putP hw) (Upd.setCells (q := d) (.inl (by simp)) (r.s.setPc n).cells.toList 18 H4.out.2)); have HW := Yh_ hw; clear hw H4))
 go_end0
 exact ⟨rfl, H5.out.1, HW.out ▸ H5.out.2⟩
section
def Keeps (w : World) (P : World → Prop) : Prop := ∀ S w1 w2, P w1 → Upd S w1 w2 → (∀ x ∈ S, w.heap.size ≤ x) → P w2
theorem Yf3 (w : World) : Keeps w (fun _ => True) := fun _ _ _ _ _ _ => trivial
structure Vg (w : World) (S : List Nat) (P : World → Prop) (k m : Nat) (T : TypeId) (Z V : Array Value) (dn : Nat → Bool) (r : Nat → Value) (w1 : World) : Prop where
 u : Upd S w w1
 p : P w1
 c : Keeps w P
 x : dn k = true → ∃ g, r k = .pointer (some ⟨g, 0, none⟩) ∧ w.heap.size ≤ g ∧ w1.heap[g]? = some (.cells (if dn m then V else Z) T (0, 0))
 xo : dn m = true → dn k = true
section
variable {w w1 w2 : World} {S : List Nat} {P : World → Prop} {k m : Nat} {T : TypeId} {Z V : Array Value} {dn : Nat → Bool} {r : Nat → Value}
theorem Vg.start (w : World) (S : List Nat) (P : World → Prop) (hc : Keeps w P) (hp : P w) (k m : Nat) (T : TypeId) (Z V : Array Value) (r : Nat → Value) : Vg w S P k m T Z V (fun _ => false) r w.drew :=
 ⟨(Upd.refl S w).drew, hc [] w _ hp (Upd.refl [] w).drew (by simp), hc, fun h => (by cases h), fun h => (by cases h)⟩
theorem Vg.quiet (h : Vg w S P k m T Z V dn r w1) (u : Upd [] w1 w2) (j : Nat) (h1 : k ≠ j) (h2 : m ≠ j) : Vg w S P k m T Z V (Yn dn j) r w2 := by
 refine ⟨h.u.also u (by simp), h.c _ _ _ h.p u (by simp), h.c, fun hx => ?_, fun hx => ?_⟩
 ·rw [Ya h1] at hx
  obtain ⟨g, e1, e2, e3⟩ := h.x hx
  exact ⟨g, e1, e2, by rw [Ya h2]; exact u.get e3 (by simp)⟩
 ·rw [Ya h2] at hx; rw [Ya h1]; exact h.xo hx
theorem Vg.same (h : Vg w S P k m T Z V dn r w1) (j : Nat) (h1 : k ≠ j) (h2 : m ≠ j) : Vg w S P k m T Z V (Yn dn j) r w1 := h.quiet (Upd.refl [] w1) j h1 h2
theorem Vg.lay (h : Vg w S P k m T Z V dn r w1) (hd : dn k = false) (hkm : m ≠ k) : Vg w S P k m T Z V (Yn dn k) (Ya7 r k (.pointer (some ⟨w1.heap.size, 0, none⟩))) (w1.alloc (.cells Z T)) := by
 have hdm : dn m = false := by
  cases e : dn m with
  |false => rfl
  |true => rw [h.xo e] at hd; cases hd
 refine ⟨h.u.alloc _, h.c _ _ _ h.p ((Upd.refl [] w1).alloc _) (by simp), h.c, fun _ => ⟨_, Ydo, h.u.size, ?_⟩, fun _ => Yar⟩
 rw [Ya hkm, hdm]
 exact heap_alloc_new _ _
theorem Vg.put (h : Vg w S P k m T Z V dn r w1) (hd : dn k = true) {g : Nat} (e1 : r k = .pointer (some ⟨g, 0, none⟩)) (hv : ∀ c, (c = V ∨ c = Z) → wr c 0 V.toList = V) (hkm : k ≠ m) : Vg w S P k m T Z V (Yn dn m) r (w1.setCells g 0 V.toList) := by
 obtain ⟨g', e1', e2, e3⟩ := h.x hd
 obtain rfl : g' = g := by rw [e1] at e1'; injection e1' with e; injection e with e; injection e with e; exact e.symm
 refine ⟨h.u.setCells (.inr e2) _ _, h.c [g'] _ _ h.p ((Upd.refl [g'] w1).setCells (.inl (by simp)) _ _) (by simpa using e2), h.c, fun _ => ⟨g', e1, e2, ?_⟩, fun _ => by rw [Ya hkm]; exact hd⟩
 rw [Yar, if_pos rfl, Yq _ _ _ _ e3, hv _ (by split <;> simp)]
end
end
structure Hs where
 x : Nat → Int
 mem : Value
 pc : Int
 why : Int
def Hs.at_ (H : Hs) (k : Nat) : Value := if k < 32 then .int .u32 (H.x k) else if k = 32 then H.mem else if k = 33 then .int .u32 H.pc else .int .u32 H.why
def Hs.cells (H : Hs) : Array Value := (Array.range 35).map H.at_
def Hs.set (H : Hs) (i : Nat) (v : Int) : Hs := { H with x := fun j => if j = i then v else H.x j }
def Hs.get (H : Hs) (i : Int) : Int := if i < 1 ∨ 32 ≤ i then 0 else H.x i.toNat
def Hs.put (H : Hs) (i v : Int) : Hs := if i < 1 ∨ 32 ≤ i then H else H.set i.toNat v
theorem Hs.cell (H : Hs) (k : Nat) (h : k < 35) : H.cells[k]? = some (H.at_ k) := by simp [Hs.cells, h]
theorem Hs.size (H : Hs) : H.cells.size = 35 := by simp [Hs.cells]
def Hs.zero (m : Nat) : Hs := ⟨fun _ => 0, .slice (some ⟨m, 0, none⟩) 32768 32768, 1024, 0⟩
def Hs.two (H : Hs) (i : Int) : Int := H.get (10 + i) + H.get (11 + i) * 4294967296
section
structure AlW (w : World) (f g : Fl) (w1 : World) : Prop where
 z7 : w1.heap[w.heap.size]? = some (.cells f.cells 25 (0, 0))
 z9 : w1.heap[w.heap.size + 1]? = some (.cells Fl.zero.cells 25 (0, 0))
 z10 : w1.heap[w.heap.size + 1 + 1]? = some (.cells g.cells 25 (0, 0))
 u : Upd [] w w1
section
variable {w w1 w2 : World} {f g : Fl}
theorem AlW.of (w : World) (f g : Fl) : AlW w f g (((w.alloc (.cells f.cells 25)).alloc (.cells Fl.zero.cells 25)).alloc (.cells g.cells 25)) := by
 have h2 := heap_alloc_new ((w.alloc (.cells f.cells 25)).alloc (.cells Fl.zero.cells 25)) (.cells g.cells 25)
 rw [show ((w.alloc (.cells f.cells 25)).alloc (.cells Fl.zero.cells 25)).heap.size = w.heap.size + 1 + 1 from by simp] at h2
 exact ⟨Ye _ (heap_alloc2_old _ _ _), Ye _ (heap_alloc2_new _ _ _), h2, (((Upd.refl [] w).alloc _).alloc _).alloc _⟩
theorem AlW.drew (h : AlW w f g w1) : AlW w f g w1.drew := by
 have u := (Upd.refl [] w1).drew
 exact ⟨u.get h.z7 (by simp), u.get h.z9 (by simp), u.get h.z10 (by simp), h.u.drew⟩
theorem AlW.quiet (h : AlW w f g w1) (u : Upd [] w1 w2) : AlW w f g w2 := ⟨u.get h.z7 (by simp), u.get h.z9 (by simp), u.get h.z10 (by simp), h.u.also u (by simp)⟩
theorem AlW.put (h : AlW w f g w1) (k : Nat) (x : Bool) (f' : Fl) (he : f.cells.setIfInBounds k (.bool x) = f'.cells) : AlW w f' g (w1.setCell ⟨w.heap.size, k, none⟩ (.bool x)) := by
 have u := (Upd.refl [w.heap.size] w1).setCell (p := ⟨w.heap.size, k, none⟩) (.inl (by simp)) (.bool x)
 exact ⟨by rw [← he]; exact Yd h.z7 k (.bool x), u.get h.z9 (by simp), u.get h.z10 (by simp <;> omega), h.u.setCell (p := ⟨w.heap.size, k, none⟩) (.inr (Nat.le_refl _)) _⟩
end
end
theorem load_bad (d ma pb t4 t5 t6 : Nat) (r : Rn) (x : Mi) (M : Mem) (a bytes : Int) (w : World) (hr : Ys w d ma r) (hM : Yg w ma pb M) (hx : 0 ≤ a ∧ a < 4294967296) (hk : M.readK a bytes 1 = false)
  (h1 : w.heap[t4]? = some (.cells #[.pointer (some ⟨d, 0, none⟩)] 52 (0, 0))) (h2 : w.heap[t6]? = some (.cells #[.int .u32 a] 22 (0, 0))) (h3 : w.heap[t5]? = some (.cells x.cells 35 (0, 0))) :
  Calls Tryd.prog 35 #[.int .i64 bytes, .pointer (some ⟨t4, 0, none⟩), .pointer (some ⟨t6, 0, none⟩), .pointer (some ⟨t5, 0, none⟩)] w fun e w' => e = .panicked [{ v := .iface 37 (M.rdF a bytes 1).val, recovered := false }] ∧ Upd [] w w' := by
 have HX := Yh_ (And.intro hr (And.intro hM (And.intro hx hk)))
 have HC := Yh_ (And.intro h1 (And.intro h2 h3))
 obtain ⟨⟨fk, fp, fa, fw⟩, hF⟩ : ∃ F, M.rdF a bytes 1 = F := ⟨_, rfl⟩
 rw [hF]
 have HF := Yh_ hF
 clear hr hM hx hk h1 h2 h3 hF
 go_enter Tryd.func35, Tryd.ntmps35
 go_wp2_with fail
 refine Ye2 15 (Vg w [] (fun _ => True) 11 13 37 (Ym Flt.zero) (Ym ⟨fk, fp, fa, fw⟩)) (fun _ _ => False) (by kernel_rfl) (by decide +kernel) (fun r0 => Vg.start w [] (fun _ => True) (Yf3 w) trivial 11 13 37 (Ym Flt.zero) (Ym ⟨fk, fp, fa, fw⟩) r0) (fun _ _ _ h => h.elim) ?_
 simp only [List.take_succ_cons, List.take_zero, List.drop_succ_cons, List.drop_zero]
 iterate 6
  apply Ycu rfl rfl
  ·intro dn r0 K hd hdep hK w5 hB2
   have hB1 := hB2.u
   have c1 := Yb (hB1.get HC.out.1 (by simp)); have c2 := Yb (hB1.get HC.out.2.1 (by simp)); have c3 := Yb (hB1.get HC.out.2.2 (by simp)); have c0 : w5.cell? ⟨d, 0, none⟩ = some (.pointer (some ⟨ma, 0, none⟩)) := (HX.out.1.keep hB1 (by simp)).cell 0
   have HB := Yh_ hB2
   clear hB1 hB2 hdep
   go_wp2_with fail
   first
   |exact hK _ (HB.out.same _ (by decide) (by decide))
   |exact HB.out.same _ (by decide) (by decide)
  ·exact ⟨_, rfl⟩
 apply Ycu rfl rfl
 ·intro dn r0 K hd hdep hK w5 hB2
  have hB1 := hB2.u
  have HB := Yh_ hB2
  clear hB1 hB2 hdep
  go_wp2_with (go_at_call 36; refine (Read_any M ma pb a bytes 1 _ (HX.out.2.1.keep HB.out.u (by simp) (by simp)) HX.out.2.2.1.1 HX.out.2.2.1.2).mono ?_; rintro e w6 ⟨rfl, hu⟩; rw [Mem.readF_val, HF.out, HX.out.2.2.2]; unfold Flt.val)
  first
  |exact hK _ (HB.out.quiet hu _ (by decide) (by decide))
  |exact HB.out.quiet hu _ (by decide) (by decide)
 ·exact ⟨_, rfl⟩
 iterate 4
  apply Ycu rfl rfl
  ·intro dn r0 K hd hdep hK w5 hB2
   have hB1 := hB2.u
   have c1 := Yb (hB1.get HC.out.1 (by simp)); have c2 := Yb (hB1.get HC.out.2.1 (by simp)); have c3 := Yb (hB1.get HC.out.2.2 (by simp)); have c0 : w5.cell? ⟨d, 0, none⟩ = some (.pointer (some ⟨ma, 0, none⟩)) := (HX.out.1.keep hB1 (by simp)).cell 0
   have HB := Yh_ hB2
   clear hB1 hB2 hdep
   go_wp2_with fail
   first
   |exact hK _ (HB.out.same _ (by decide) (by decide))
   |exact HB.out.same _ (by decide) (by decide)
  ·exact ⟨_, rfl⟩
 refine Yb5 rfl (fun _ => rfl) 6 rfl (by simp [Act.put]) ?_ ?_
 ·intro dn r0 K hd w5 hB2 hK
  have HB := Yh_ hB2
  clear hB2
  simp only [Yh]
  go_wp2_with fail
  first
  |exact hK (.pointer (some ⟨w5.heap.size, 0, none⟩)) _ (HB.out.lay hd (by decide))
  |exact HB.out.lay hd (by decide)
 iterate 1
  apply Yy rfl (fun _ => rfl)
  ·intro dn r0 K hd hdep hK w5 hB2
   have hB1 := hB2.u
   have c1 := Yb (hB1.get HC.out.1 (by simp)); have c2 := Yb (hB1.get HC.out.2.1 (by simp)); have c3 := Yb (hB1.get HC.out.2.2 (by simp)); have c0 : w5.cell? ⟨d, 0, none⟩ = some (.pointer (some ⟨ma, 0, none⟩)) := (HX.out.1.keep hB1 (by simp)).cell 0
   have HB := Yh_ hB2
   clear hB1 hB2 hdep
   simp only [Yh]
   go_wp2_with fail
   first
   |exact hK _ (HB.out.same _ (by decide) (by decide))
   |exact HB.out.same _ (by decide) (by decide)
  ·exact ⟨_, fun _ => rfl, rfl⟩
 apply Yy rfl (fun _ => rfl)
 ·intro dn r0 K hd hdep hK w5 hB2
  have h8 : dn 11 = true := hdep ⟨11, .data⟩ (by simp) rfl
  obtain ⟨g0, e1, e2, e3⟩ := hB2.x h8
  refine Yc8 ⟨fk, fp, fa, fw⟩ (if dn 13 = true then ⟨fk, fp, fa, fw⟩ else Flt.zero) g0 _ _ rfl (by show r0 11 = _; exact e1) rfl (by rw [e3]; split <;> rfl) ?_
  exact hK _ (hB2.put h8 e1 (by rintro c (rfl | rfl) <;> rfl) (by decide))
 ·exact ⟨_, fun _ => rfl, rfl⟩
 iterate 1
  apply Yy rfl (fun _ => rfl)
  ·intro dn r0 K hd hdep hK w5 hB2
   have hB1 := hB2.u
   have c1 := Yb (hB1.get HC.out.1 (by simp)); have c2 := Yb (hB1.get HC.out.2.1 (by simp)); have c3 := Yb (hB1.get HC.out.2.2 (by simp)); have c0 : w5.cell? ⟨d, 0, none⟩ = some (.pointer (some ⟨ma, 0, none⟩)) := (HX.out.1.keep hB1 (by simp)).cell 0
   have HB := Yh_ hB2
   clear hB1 hB2 hdep
   simp only [Yh]
   go_wp2_with fail
   first
   |exact hK _ (HB.out.same _ (by decide) (by decide))
   |exact HB.out.same _ (by decide) (by decide)
  ·exact ⟨_, fun _ => rfl, rfl⟩
 refine Yeq (fun _ r0 w6 dn hall hB2 => ?_)
 obtain ⟨g, e1, hgl, hB1⟩ := hB2.x (hall 11 (by decide))
 have hU := hB2.u
 have hP := hB2.p
 rw [hall 13 (by decide), if_pos rfl] at hB1
 show wpList _ _ _ _ (Act.put (Yh _ _ [] _) (some 6) (r0 11)) _
 rw [e1]
 simp only [Yh]
 clear e1 hall hB2
 have cg := Yb hB1
 unfold Ym at cg
 dsimp only at cg
 have H6 := Yh_ (And.intro hU hP)
 clear hU hB1 hgl hP
 go_wp2_with fail
 exact ⟨rfl, rfl, H6.out.1⟩
def MPan (d ma pb : Nat) (r : Rn) (M : Mem) (F : Flt) (w : World) (e : Ending) (w' : World) : Prop :=
 e = .panicked [{ v := .iface 37 F.val, recovered := false }] ∧ Ys w' d ma r ∧ Yg w' ma pb M ∧ Upd [d, pb] w w'
def MRun (d ma pb : Nat) (r : Rn) (M : Mem) (w : World) (e : Ending) (w' : World) : Prop :=
 e = .returned (.tuple #[]) ∧ Ys w' d ma r ∧ Yg w' ma pb M ∧ Upd [d, pb] w w'
structure Ybf (w : World) (d ma pb : Nat) (r : Rn) (M : Mem) : Prop where
 r : Ys w d ma r
 m : Yg w ma pb M
 n : d ≠ ma ∧ d ≠ pb
theorem Ybf.keep {w w' : World} {d ma pb : Nat} {r : Rn} {M : Mem} {S : List Nat} (h : Ybf w d ma pb r M) (u : Upd S w w') (h1 : d ∉ S) (h2 : ma ∉ S) (h3 : pb ∉ S) : Ybf w' d ma pb r M :=
 ⟨h.r.keep u h1, h.m.keep u h2 h3, h.n⟩
structure Four (w : World) (d a' b' : Value) (C : Array Value) (w1 : World) : Prop where
 b0 : w1.heap[w.heap.size]? = some (.cells #[d] 52 (0, 0))
 b1 : w1.heap[w.heap.size + 1]? = some (.cells C 35 (0, 0))
 b2 : w1.heap[w.heap.size + 2]? = some (.cells #[a'] 22 (0, 0))
 b3 : w1.heap[w.heap.size + 3]? = some (.cells #[b'] 22 (0, 0))
 u : Upd [] w w1
theorem four_of (w : World) (d a' b' : Value) (C : Array Value) : Four w d a' b' C ((((w.alloc (.cells #[d] 52)).alloc (.cells C 35)).alloc (.cells #[a'] 22)).alloc (.cells #[b'] 22)) := by
 have k1 := heap_alloc_new w (.cells #[d] 52)
 have k2 := heap_alloc_new (w.alloc (.cells #[d] 52)) (.cells C 35)
 have k3 := heap_alloc_new ((w.alloc (.cells #[d] 52)).alloc (.cells C 35)) (.cells #[a'] 22)
 have k4 := heap_alloc_new (((w.alloc (.cells #[d] 52)).alloc (.cells C 35)).alloc (.cells #[a'] 22)) (.cells #[b'] 22)
 have e2 : (w.alloc (.cells #[d] 52)).heap.size = w.heap.size + 1 := by simp
 have e3 : ((w.alloc (.cells #[d] 52)).alloc (.cells C 35)).heap.size = w.heap.size + 2 := by simp
 have e4 : (((w.alloc (.cells #[d] 52)).alloc (.cells C 35)).alloc (.cells #[a'] 22)).heap.size = w.heap.size + 3 := by simp
 rw [e2] at k2
 rw [e3] at k3
 rw [e4] at k4
 exact ⟨Ye _ (Ye _ (Ye _ k1)), Ye _ (Ye _ k2), Ye _ k3, k4, ((((Upd.refl [] w).alloc _).alloc _).alloc _).alloc _⟩
theorem Ygd (d ma pb : Nat) (r : Rn) (M : Mem) (t a' b' c n a b : Int) (fl : Bool) (w : World) (h : Ybf w d ma pb r M) (ha : 0 ≤ a ∧ a < 4294967296) (hb : 0 ≤ b ∧ b < 4294967296) (hk : M.readK a 4 1 = false) :
  Calls Tryd.prog 25 #[.pointer (some ⟨d, 0, none⟩), .agg #[.int .i64 4, .int .i64 t, .int .i64 a', .int .i64 b', .int .i64 c, .int .u32 n, .bool fl], .int .u32 a, .int .u32 b] w (MPan d ma pb r M (M.rdF a 4 1) w) := by
 have HFo := Yh_ (four_of w (.pointer (some ⟨d, 0, none⟩)) (.int .u32 a) (.int .u32 b) #[.int .i64 4, .int .i64 t, .int .i64 a', .int .i64 b', .int .i64 c, .int .u32 n, .bool fl])
 have HA := Yh_ (And.intro h (And.intro ha (And.intro hb hk)))
 clear h ha hb hk
 go_enter Tryd.func25, Tryd.ntmps25
 go_wp2_with (go_at_call 35; refine (load_bad d ma pb w.heap.size (w.heap.size + 1) (w.heap.size + 1 + 1) r ⟨4, t, a', b', c, n, fl⟩ M a 4 _ (HA.out.1.r.keep HFo.out.u (by simp)) (HA.out.1.m.keep HFo.out.u (by simp) (by simp)) HA.out.2.1 HA.out.2.2.2 HFo.out.b0 HFo.out.b2 HFo.out.b1).mono ?_; rintro e w5 ⟨rfl, hu⟩; have H5 := Yh_ (HFo.out.u.also hu (by simp)); clear hu)
 exact ⟨rfl, rfl, HA.out.1.r.keep H5.out (by simp), HA.out.1.m.keep H5.out (by simp) (by simp), H5.out.mono (by simp)⟩
theorem Yfx (d ma pb : Nat) (r : Rn) (M : Mem) (k t a b c n : Int) (fl : Bool) (w : World) (h : Ybf w d ma pb r M) (hx : (⟨k, t, a, b, c, n, fl⟩ : Mi).In) (hk : (k == 1) = false ∧ (k == 2) = false ∧ (k == 3) = false ∧ (k == 8) = false ∧ (k == 9) = false ∧ (k == 10) = false ∧ (k == 11) = false ∧ (k == 14) = false ∧ (k == 15) = false ∧ (k == 16) = false ∧ (k == 17) = false) (Q : World → Ending → World → Prop) (good : Bool)
  (hq : ∀ w1, Ybf w1 d ma pb r M → Calls Tryd.prog 25 #[.pointer (some ⟨d, 0, none⟩), .agg #[.int .i64 k, .int .i64 t, .int .i64 a, .int .i64 b, .int .i64 c, .int .u32 n, .bool fl], .int .u32 (r.T a.toNat), .int .u32 (r.T b.toNat)] w1 (Q w1)) (r' : Rn) (F : Flt)
  (hg : ∀ w1 e w', Q w1 e w' → if good = true then MRun d ma pb r' M w1 e w' else MPan d ma pb r' M F w1 e w') :
  Calls Tryd.prog 14 #[.pointer (some ⟨d, 0, none⟩), .agg #[.int .i64 k, .int .i64 t, .int .i64 a, .int .i64 b, .int .i64 c, .int .u32 n, .bool fl]] w fun e w' => if good = true then MRun d ma pb r' M w e w' else MPan d ma pb r' M F w e w' := by
 have ha : 0 ≤ a ∧ a < 64 := hx.a
 have hb : 0 ≤ b ∧ b < 64 := hx.b
 have HX := Yh_ (And.intro h (And.intro hq hg))
 obtain ⟨k1, k2, k3, k8, k9, k10, k11, k14, k15, k16, k17⟩ := hk
 have hno := h.r
 clear hx hq hg h
 obtain ⟨M0, hM0⟩ : ∃ M0, w.heap.size = M0 := ⟨_, rfl⟩
 go_enter Tryd.func14, Tryd.ntmps14
 go_upto_region 1 with fail
 have hm := heap_alloc_new w (.cells #[.int .i64 k, .int .i64 t, .int .i64 a, .int .i64 b, .int .i64 c, .int .u32 n, .bool fl] 35)
 have hu := (Upd.refl [] w).alloc (.cells #[.int .i64 k, .int .i64 t, .int .i64 a, .int .i64 b, .int .i64 c, .int .u32 n, .bool fl] 35)
 have hr := hno.keep hu (by simp)
 rw [hM0] at hm
 generalize w.alloc (.cells #[.int .i64 k, .int .i64 t, .int .i64 a, .int .i64 b, .int .i64 c, .int .u32 n, .bool fl] 35) = w1 at *
 have cm := Yb hm
 have cd := hr.cell
 have ra := Yax ma r a.toNat (by omega)
 have rb := Yax ma r b.toNat (by omega)
 have HH := Yh_ (And.intro hm (And.intro hu (And.intro hr hM0)))
 clear hm hu hr hno hM0
 go_quiet (fail)
 have HH2 := Yh_ (Yz HH.out.2.1 nq)
 have cm2 : ∀ o, (w1.drewN nq).cell? ⟨M0, o, none⟩ = _ := cm
 clear cm cd HH ra rb
 generalize w1.drewN nq = w2 at *
 cases good
 all_goals
  go_wp2_with (go_at_call 25; refine (HX.out.2.1 _ (HX.out.1.keep HH2.out (by simp) (by simp) (by simp))).mono ?_; intro e w5 hq5; have hg5 := HX.out.2.2 _ _ _ hq5; clear hq5; obtain ⟨rfl, hr5, hm5, hu5⟩ := hg5; have H5 := Yh_ (And.intro hr5 (And.intro hm5 ((HH2.out.mono (T := [d, pb]) (by simp)).also hu5 (fun x hx => .inl hx)))); clear hr5 hm5 hu5)
 ·exact ⟨rfl, rfl, H5.out.1, H5.out.2.1, H5.out.2.2⟩
 ·go_end0
  exact ⟨rfl, H5.out.1, H5.out.2.1, H5.out.2.2⟩
theorem Yfh (w : World) : (Instr.typeAssert (.iface 56 (.agg #[])) 20 37 true).run Tryd.prog w = .ok (.tuple #[.agg #[.int .i64 0, .int .u32 0, .int .u32 0, .int .i64 0], .bool false]) w := by kernel_rfl
theorem Ye0 (w : World) : (Instr.typeAssert (.iface 56 (.agg #[])) 20 56 true).run Tryd.prog w = .ok (.tuple #[.agg #[], .bool true]) w := by kernel_rfl
theorem rn_ppc (a : Nat) (r : Rn) : (Yj a r)[26]? = some (.int .u32 r.p.pc) := rn_p a r 8 (by decide)
theorem Ys.rp {w : World} {d ma : Nat} {r : Rn} (h : Ys w d ma r) : w.rangeAt d 18 r.p.cells.toList := fun j u hu => by
 have hj : j < 17 := by have := (List.getElem?_eq_some_iff.1 hu).1; rwa [St.len] at this
 rw [h.cell, rn_p _ _ _ hj, ← Array.getElem?_toList]; exact hu
structure RV (w : World) (rb ob fb kb qb d ma : Nat) (r : Rn) : Prop where
 h0 : w.heap[rb]? = some (.cells #[.pointer (some ⟨d, 0, none⟩)] 52 (0, 0))
 hr : Ys w d ma r
 ho : ∃ C, w.heap[ob]? = some (.cells C 28 (0, 0)) ∧ C.size = 17
 hf : ∃ y0 y1 y2 y3, w.heap[fb]? = some (.cells #[y0, y1, y2, y3] 37 (0, 0))
 hk : ∃ k0, w.heap[kb]? = some (.cells #[k0] 4 (0, 0))
 hq : ∃ q0, w.heap[qb]? = some (.cells #[q0] 4 (0, 0))
 ne : (ob < fb ∧ fb < kb ∧ kb < qb ∧ qb < rb ∧ qb < d)
structure RO (w : World) (ob fb kb qb : Nat) (s : St) (F : Flt) (k q : Bool) : Prop where
 o : w.heap[ob]? = some (.cells s.cells 28 (0, 0))
 f : w.heap[fb]? = some (.cells #[.int .i64 F.k, .int .u32 F.pc, .int .u32 F.a, .int .i64 F.wt] 37 (0, 0))
 k : w.heap[kb]? = some (.cells #[.bool k] 4 (0, 0))
 q : w.heap[qb]? = some (.cells #[.bool q] 4 (0, 0))
structure OB (ob : Nat) (V C : Array Value) (w1 : World) (dn : Nat → Bool) (w5 : World) : Prop where
 o : w5.heap[ob]? = some (.cells (if dn 5 then V else C) 28 (0, 0))
 u : Upd [ob] w1 w5
theorem OB.same {ob : Nat} {V C : Array Value} {w1 w5 : World} {dn : Nat → Bool} (h : OB ob V C w1 dn w5) (j : Nat) (hj : 5 ≠ j) : OB ob V C w1 (Yn dn j) w5 := ⟨by rw [Ya hj]; exact h.o, h.u⟩
theorem OB.put {ob : Nat} {s : St} {C : Array Value} {w1 w5 : World} {dn : Nat → Bool} (h : OB ob s.cells C w1 dn w5) (hC : C.size = 17) : OB ob s.cells C w1 (Yn dn 5) (w5.setCells ob 0 s.cells.toList) :=
 ⟨by rw [Yar, if_pos rfl, Yq _ _ _ _ h.o, Ydw _ _ (by split; exact St.size _; exact hC)], h.u.setCells (.inl (by simp)) _ _⟩
theorem Yc1 {w w6 : World} {ob fb kb qb : Nat} {s : St} (F : Flt) (k q : Bool) {y0 y1 y2 y3 k0 q0 : Value} {m : Prop} (ho : w6.heap[ob]? = some (.cells s.cells 28 (0, 0))) (hf : w6.heap[fb]? = some (.cells #[y0, y1, y2, y3] 37 (0, 0))) (hk : w6.heap[kb]? = some (.cells #[k0] 4 (0, 0))) (hq : w6.heap[qb]? = some (.cells #[q0] 4 (0, 0))) (ne : ob < fb ∧ fb < kb ∧ kb < qb ∧ m) (u : Upd [ob] w w6) :
  RO ((((((w6.setCell ⟨fb, 0, none⟩ (.int .i64 F.k)).setCell ⟨fb, 1, none⟩ (.int .u32 F.pc)).setCell ⟨fb, 2, none⟩ (.int .u32 F.a)).setCell ⟨fb, 3, none⟩ (.int .i64 F.wt)).setCell ⟨kb, 0, none⟩ (.bool k)).setCell ⟨qb, 0, none⟩ (.bool q)) ob fb kb qb s F k q ∧
   Upd [ob, fb, kb, qb] w ((((((w6.setCell ⟨fb, 0, none⟩ (.int .i64 F.k)).setCell ⟨fb, 1, none⟩ (.int .u32 F.pc)).setCell ⟨fb, 2, none⟩ (.int .u32 F.a)).setCell ⟨fb, 3, none⟩ (.int .i64 F.wt)).setCell ⟨kb, 0, none⟩ (.bool k)).setCell ⟨qb, 0, none⟩ (.bool q)) := by
 have u4 := Ycv (S := [fb]) (b := fb) (Upd.refl _ w6) (.inl (by simp)) (.int .i64 F.k) (.int .u32 F.pc) (.int .u32 F.a) (.int .i64 F.wt)
 have hF := Ye7 hf (.int .i64 F.k) (.int .u32 F.pc) (.int .u32 F.a) (.int .i64 F.wt)
 have n1 : ob ≠ fb := by omega
 have n2 : kb ≠ fb := by omega
 have n3 : qb ≠ fb := by omega
 have n4 : fb ≠ kb := by omega
 have n5 : fb ≠ qb := by omega
 have n6 : kb ≠ qb := by omega
 have n7 : ob ≠ kb := by omega
 have n8 : ob ≠ qb := by omega
 refine ⟨⟨?_, ?_, ?_, ?_⟩, ?_⟩
 ·exact Yc _ (by simpa using n8) (Yc _ (by simpa using n7) (u4.get ho (by simpa using n1)))
 ·exact Yc _ (by simpa using n5) (Yc _ (by simpa using n4) hF)
 ·exact Yc _ (by simpa using n6) (Yd (u4.get hk (by simpa using n2)) 0 (.bool k))
 ·exact Yd (Yc _ (by simpa using n6.symm) (u4.get hq (by simpa using n3))) 0 (.bool q)
 ·exact (((u.mono (T := [ob, fb, kb, qb]) (by simp)).also u4 (by simp)).setCell (.inl (by simp)) _).setCell (.inl (by simp)) _
theorem Yf9 (rb ob fb kb qb : Nat) (w : World) :
  CallsD Tryd.prog 13 #[.pointer (some ⟨rb, 0, none⟩), .pointer (some ⟨ob, 0, none⟩), .pointer (some ⟨fb, 0, none⟩), .pointer (some ⟨kb, 0, none⟩), .pointer (some ⟨qb, 0, none⟩)] .returning w fun e u' w' => e = .returned (.tuple #[]) ∧ u' = .returning ∧ w = w' := by
 refine callsD_of_wpS Tryd.func13 rfl fun c₀ cs hu => ?_
 simp only [Tryd.ntmps13, List.size_toArray, List.length_cons, List.length_nil, Nat.reduceAdd, Nat.reduceSub, Array.replicate_succ, Array.replicate_zero, List.push_toArray, List.append_toArray, List.nil_append, List.cons_append]
 apply wpS_seq
 apply wpS_region
 simp [wpOpsS, go_sem, recoverD, hu, Tryd.ntmps13, Exit.thenS]
 refine wpS_of_wp ?_
 have HU := Yh_ hu
 clear hu
 go_wp2_with fail
 refine ⟨rfl, .returning, ?_, _, results_none rfl _ _ _, rfl, rfl, rfl⟩
 rw [← HU.out]
theorem Yfw (rb ob fb kb qb d ma : Nat) (r : Rn) (x0 x1 x2 x3 : Int) (older : List PanicEntry) (w : World) (h : RV w rb ob fb kb qb d ma r) :
  CallsD Tryd.prog 13 #[.pointer (some ⟨rb, 0, none⟩), .pointer (some ⟨ob, 0, none⟩), .pointer (some ⟨fb, 0, none⟩), .pointer (some ⟨kb, 0, none⟩), .pointer (some ⟨qb, 0, none⟩)] (.panicking ({ v := .iface 37 (.agg #[.int .i64 x0, .int .u32 x1, .int .u32 x2, .int .i64 x3]), recovered := false } :: older)) w fun e u' w' =>
   e = .returned (.tuple #[]) ∧ u' = .panicking ({ v := .iface 37 (.agg #[.int .i64 x0, .int .u32 x1, .int .u32 x2, .int .i64 x3]), recovered := true } :: older) ∧ RO w' ob fb kb qb r.p ⟨x0, r.p.pc, x2, x3⟩ false false ∧ Upd [ob, fb, kb, qb] w w' := by
 refine callsD_of_wpS Tryd.func13 rfl fun c₀ cs hu => ?_
 simp only [Tryd.ntmps13, List.size_toArray, List.length_cons, List.length_nil, Nat.reduceAdd, Nat.reduceSub, Array.replicate_succ, Array.replicate_zero, List.push_toArray, List.append_toArray, List.nil_append, List.cons_append]
 apply wpS_seq
 apply wpS_region
 simp [wpOpsS, go_sem, recoverD, hu, Tryd.ntmps13, Exit.thenS]
 refine wpS_of_wp ?_
 clear hu
 have hta := Ydk
 have c0 := Yb h.h0
 have cd := h.hr.cell
 have hl1 := Yf h.h0
 have hl2 := h.hr.lt
 have rpp := rn_ppc ma r
 have H := Yh_ h
 clear h
 go_upto_region 8 with fail
 have hm := heap_alloc_new w (.cells #[.int .i64 x0, .int .u32 r.p.pc, .int .u32 x2, .int .i64 x3] 37)
 have hu := (Upd.refl [] w).alloc (.cells #[.int .i64 x0, .int .u32 r.p.pc, .int .u32 x2, .int .i64 x3] 37)
 generalize w.alloc (.cells #[.int .i64 x0, .int .u32 r.p.pc, .int .u32 x2, .int .i64 x3] 37) = w1 at *
 obtain ⟨M0, hM0⟩ : ∃ M0, w.heap.size = M0 := ⟨_, rfl⟩
 rw [hM0] at hm
 obtain ⟨C, hC, hC17⟩ := H.out.ho
 have H1 := Yh_ (And.intro hm (And.intro hu (And.intro (hu.get hC (by simp)) (And.intro hC17 hM0))))
 clear c0 cd hm hu hC hC17 hta rpp hl1 hl2
 try rw [hM0]
 clear hM0
 refine wp_drawD 6 (OB ob r.p.cells C w1) (fun _ _ => False) (by kernel_rfl) (by decide +kernel) ⟨((Upd.refl [] w1).drew).get H1.out.2.2.1 (by simp), (Upd.refl [ob] w1).drew⟩ (fun _ _ _ h => h.elim) ?_
 simp only [List.take_succ_cons, List.take_zero, List.drop_succ_cons, List.drop_zero]
 iterate 6
  apply Yf6 rfl rfl
  ·intro dn K hd hK w5 hB1
   have n1 := H.out.ne
   have u5 := (H1.out.2.1.mono (T := [ob]) (by simp)).also hB1.u (fun x hx => .inl hx)
   have c0 := Yb (u5.get H.out.h0 (by simp; omega))
   have ud := H.out.hr.keep u5 (by simp; omega)
   have c6 := Yb (hB1.u.get H1.out.1 (by have := Yf H.out.hr.h; have := H1.out.2.2.2.2; simp; omega))
   have HB := Yh_ (And.intro hB1 ud)
   clear hB1 u5 ud n1
   first
   |(refine wp_load_mid 28 _ rfl d 18 rfl r.p.cells.toList _ HB.out.2.rp Tryd.underlying28 rfl (by rw [Array.length_toList, St.size]; exact Yag) (by rw [Array.toArray_toList]; go_simp; exact hK _ (HB.out.1.same _ (by decide))))
   |(refine wp_store_mid 28 _ _ rfl ob 0 r.p.cells rfl rfl (Ycb HB.out.1.o 0 r.p.cells.size (by split <;> simp [St.size, H1.out.2.2.2.1])) (by rw [St.size]; exact Yag) (St.one _) ?_; go_simp; exact hK _ (HB.out.1.put H1.out.2.2.2.1))
   |(go_wp2_with fail
     first
     |exact hK _ (HB.out.1.same _ (by decide))
     |exact HB.out.1.same _ (by decide))
  ·first | exact ⟨undef, rfl⟩ | exact ⟨_, rfl⟩
 refine Ygj (fun _ w6 dn hall hB1 => ?_)
 obtain ⟨hB2, hB3⟩ := hB1
 rw [if_pos (hall 5 (by decide))] at hB2
 obtain ⟨y0, y1, y2, y3, hf0⟩ := H.out.hf
 obtain ⟨k0, hk0⟩ := H.out.hk
 obtain ⟨q0, hq0⟩ := H.out.hq
 have n1 := H.out.ne
 have hw6 : Upd [ob] w w6 := (H1.out.2.1.mono (T := [ob]) (by simp)).also hB3 (fun x hx => .inl hx)
 have hf6 := hw6.get hf0 (by simp; omega)
 have hk6 := hw6.get hk0 (by simp; omega)
 have hq6 := hw6.get hq0 (by simp; omega)
 have cf := Yb hf6
 have ck := Yb hk6
 have cq := Yb hq6
 have gf := Yi hf6
 have gk := Yi hk6
 have gq := Yi hq6
 have H6 := Yh_ (And.intro hB2 (And.intro hf6 (And.intro hk6 (And.intro hq6 (And.intro hw6 n1)))))
 have m1 : kb ≠ fb := by omega
 have m2 : qb ≠ fb := by omega
 have m3 : qb ≠ kb := by omega
 have m4 : fb ≠ kb := by omega
 have m5 : fb ≠ qb := by omega
 have m6 : kb ≠ qb := by omega
 clear hf0 hk0 hq0 n1 hB2 hB3 hall hf6 hk6 hq6 hw6
 go_wp2_with fail
 refine ⟨rfl, _, rfl, _, results_none rfl _ _ _, rfl, rfl, Yc1 ⟨x0, r.p.pc, x2, x3⟩ false false H6.out.1 H6.out.2.1 H6.out.2.2.1 H6.out.2.2.2.1 H6.out.2.2.2.2.2 H6.out.2.2.2.2.1⟩
theorem Yga (rb ob fb kb qb d ma : Nat) (r : Rn) (older : List PanicEntry) (w : World) (h : RV w rb ob fb kb qb d ma r) :
  CallsD Tryd.prog 13 #[.pointer (some ⟨rb, 0, none⟩), .pointer (some ⟨ob, 0, none⟩), .pointer (some ⟨fb, 0, none⟩), .pointer (some ⟨kb, 0, none⟩), .pointer (some ⟨qb, 0, none⟩)] (.panicking ({ v := .iface 56 (.agg #[]), recovered := false } :: older)) w fun e u' w' =>
   e = .returned (.tuple #[]) ∧ u' = .panicking ({ v := .iface 56 (.agg #[]), recovered := true } :: older) ∧ RO w' ob fb kb qb r.s Flt.zero true true ∧ Upd [ob, fb, kb, qb] w w' := by
 refine callsD_of_wpS Tryd.func13 rfl fun c₀ cs hu => ?_
 simp only [Tryd.ntmps13, List.size_toArray, List.length_cons, List.length_nil, Nat.reduceAdd, Nat.reduceSub, Array.replicate_succ, Array.replicate_zero, List.push_toArray, List.append_toArray, List.nil_append, List.cons_append]
 apply wpS_seq
 apply wpS_region
 simp [wpOpsS, go_sem, recoverD, hu, Tryd.ntmps13, Exit.thenS]
 refine wpS_of_wp ?_
 clear hu
 have hta := Yfh
 have htb := Ye0
 have c0 := Yb h.h0
 have cd := h.hr.cell
 have hl1 := Yf h.h0
 have hl2 := h.hr.lt
 have H := Yh_ h
 clear h
 go_upto_region 11 with fail
 have hu := (Upd.refl [] w).alloc (.cells #[] 56)
 obtain ⟨C, hC, hC17⟩ := H.out.ho
 obtain ⟨y0, y1, y2, y3, hf0⟩ := H.out.hf
 obtain ⟨k0, hk0⟩ := H.out.hk
 obtain ⟨q0, hq0⟩ := H.out.hq
 have n1 := H.out.ne
 generalize w.alloc (.cells #[] 56) = w1 at *
 generalize w.heap.size = M0 at *
 have H1 := Yh_ (And.intro hu (And.intro (hu.get hC (by simp)) (And.intro hC17 (And.intro (hu.get hf0 (by simp)) (And.intro (hu.get hk0 (by simp)) (And.intro (hu.get hq0 (by simp)) (And.intro (H.out.hr.keep hu (by simp)) n1)))))))
 have c0' := Yb (hu.get H.out.h0 (by simp))
 have m1 : kb ≠ fb := by omega
 have m2 : qb ≠ fb := by omega
 have m3 : qb ≠ kb := by omega
 have m4 : fb ≠ kb := by omega
 have m5 : fb ≠ qb := by omega
 have m6 : kb ≠ qb := by omega
 clear c0 cd hu hC hC17 hta htb hl1 hl2 hf0 hk0 hq0 n1
 have tok : True := trivial
 go_wp2_with (first
  |(have _t := tok; clear _t; refine Yah 28 rfl ?_; refine Yab rfl 28 _ rfl d 1 rfl r.s.cells _ H1.out.2.2.2.2.2.2.1.rs Tryd.underlying28 rfl (by rw [St.size]; exact Yag) ?_; clear tok)
  |(refine Yaw 28 rfl ?_; refine Yac r.s ob rfl _ _ rfl rfl rfl H1.out.2.1 H1.out.2.2.1 ?_; intro w6 hw; have h6 := Yaj r.s H1.out.2.1 H1.out.2.2.1; rw [hw] at h6; have u6 : Upd [ob] w1 w6 := hw ▸ (Upd.refl [ob] w1).setCells (.inl (by simp)) r.s.cells.toList 0; clear hw; have n1 := H1.out.2.2.2.2.2.2.2; have hf6 := u6.get H1.out.2.2.2.1 (by simp; omega); have hk6 := u6.get H1.out.2.2.2.2.1 (by simp; omega); have hq6 := u6.get H1.out.2.2.2.2.2.1 (by simp; omega); have cf := Yb hf6; have ck := Yb hk6; have cq := Yb hq6; have gf := Yi hf6; have gk := Yi hk6; have gq := Yi hq6; have H6 := Yh_ (And.intro h6 (And.intro hf6 (And.intro hk6 (And.intro hq6 (And.intro ((H1.out.1.mono (T := [ob]) (by simp)).also u6 (fun x hx => .inl hx)) n1))))); clear h6 u6 hf6 hk6 hq6 n1 c0'))
 refine ⟨rfl, _, rfl, _, results_none rfl _ _ _, rfl, rfl, Yc1 Flt.zero true true H6.out.1 H6.out.2.1 H6.out.2.2.1 H6.out.2.2.2.1 H6.out.2.2.2.2.2 H6.out.2.2.2.2.1⟩
theorem Ybj {tmps : Array Value} {w : World} (a : Tmp) (b : Nat) (s : St) (ha : tmps.getD a undef = .pointer (some ⟨b, 0, none⟩)) (hb : w.heap[b]? = some (.cells s.cells 28 (0, 0))) :
  (Ya8 tmps (.cell a 28)).run Tryd.prog w = .ok (.agg s.cells) w :=
 Yfu a 28 b _ _ ha hb Tryd.underlying28 rfl Yag
section
open Go.WideShapes Go.ChangeShapes
theorem BOk.app {L M : List Int} (h : BOk L) (k : BOk M) : BOk (L ++ M) := by
 intro i
 rw [List.getD_eq_getElem?_getD]
 by_cases hi : i < L.length
 ·rw [List.getElem?_append_left hi, ← List.getD_eq_getElem?_getD]; exact h i
 ·rw [List.getElem?_append_right (by omega), ← List.getD_eq_getElem?_getD]; exact k _
theorem BOk.take {L : List Int} (h : BOk L) (n : Nat) : BOk (L.take n) := by
 intro i
 rw [List.getD_eq_getElem?_getD, List.getElem?_take]
 split
 ·rw [← List.getD_eq_getElem?_getD]; exact h i
 ·simp
theorem BArg.keep {w w' : World} {v : Value} {L : List Int} {g : Nat} (h : BArg w v L g) (u : Upd [] w w') : BArg w' v L g :=
 ⟨h.b.keep u (by simp), h.n, h.r, h.c, Nat.le_trans h.g u.size⟩
def Own (w : World) (base : Nat) (v : Value) (L : List Int) : Prop := w.ownsRow base 5 1 v L.length (L.map (Value.int .u8))
theorem own_nil (w : World) (base : Nat) : Own w base (.slice none 0 0) [] := ⟨rfl, .inl ⟨rfl, rfl⟩⟩
theorem Own.keep {w w' : World} {base : Nat} {v : Value} {L : List Int} {S : List Nat} (h : Own w base v L) (u : Upd S w w') (hS : ∀ g, v.ownBlock = some g → g ∉ S) : Own w' base v L := by
 refine ⟨h.1, ?_⟩
 rcases h.2 with h0 | ⟨g, cap, cur, rfl, hb, hg, hr⟩
 ·exact .inl h0
 ·exact .inr ⟨g, cap, cur, rfl, hb, u.get hg (hS g rfl), hr⟩
theorem Own.block {w : World} {base : Nat} {v : Value} {L : List Int} (h : Own w base v L) : ∀ g, v.ownBlock = some g → base ≤ g ∧ g < w.heap.size := by
 intro g e
 rcases h.2 with ⟨rfl, _⟩ | ⟨g', cap, cur, rfl, hb, hg, hr⟩
 ·cases e
 ·simp only [Value.ownBlock, Option.some.injEq] at e
  subst e
  exact ⟨hb, Yf hg⟩
structure Grew (w : World) (base : Nat) (v : Value) (L : List Int) (v' : Value) (w' : World) : Prop where
 o : Own w' base v' L
 u : Upd v.ownBlock.toList w w'
 b : v'.ownBlock = v.ownBlock ∨ v'.ownBlock = some w.heap.size
theorem BArg.cut {w : World} {b : Option Addr} {n c : Nat} {L : List Int} {g : Nat} (h : BArg w (.slice b n c) L g) (k : Nat) (hk : k ≤ L.length) : BArg w (.slice b k c) (L.take k) g := by
 have hl : (L.take k).length = k := by rw [List.length_take]; omega
 have hc := h.c _ _ _ rfl
 refine ⟨?_, by have := h.n; omega, h.r.take k, fun b' n' c' e => ?_, h.g⟩
 ·rcases h.b with ⟨e, rfl⟩ | ⟨o, c', C, T, f, e, h2, h3⟩
  ·injection e with e1 e2 e3
   subst e1 e2 e3
   refine .inl ⟨?_, by simp⟩
   have : k = 0 := by simpa using hk
   rw [this]
  ·injection e with e1 e2 e3
   subst e1
   refine .inr ⟨o, c, C, T, f, by rw [hl], h2, fun i hi => ?_⟩
   rw [h3 i (by omega), List.getD_eq_getElem?_getD, List.getD_eq_getElem?_getD, List.getElem?_take, if_pos (by omega)]
 ·injection e with e1 e2 e3
  rcases h.b with ⟨e, rfl⟩ | ⟨o, c2, C, T, f, e, h2, h3⟩
  ·injection e with e4 e5 e6; simp at hk; omega
  ·injection e with e4 e5 e6; omega
end
theorem Yeg {P : Program} {t : TypeId} {xs : Array Value} {off n : Nat} {i : TypeInfo} (w : World) (ht : (isAgg t).run P w = .ok true w) (hi : P.info? t = some i) (hn : i.size = n) : (part t xs off).run P w = .ok (.agg (xs.extract off (off + n))) w := by
 subst hn
 simp [part, ht, sizeOf, typeInfo, hi]
theorem Yv {P : Program} {w : World} {d : Nat} {xs ys : Array Value} {f : Field} {fs : List Field} {u v : Value} {b c : Bool} (hne : (f.name ≠ "_") = True)
  (hx : (part f.type xs f.offset).run P w = .ok u w) (hy : (part f.type ys f.offset).run P w = .ok v w) (he : (Op.equalIn d f.type u v).run P w = .ok b w) (hr : (Op.eqFields d xs ys fs).run P w = .ok c w) :
  (Op.eqFields d xs ys (f :: fs)).run P w = .ok (b && c) w := by
 simp only [Op.eqFields, hne, if_true]
 rw [Sem.run_bind, hx, Result.andThen_ok, Sem.run_bind, hy, Result.andThen_ok, Sem.run_bind, he, Result.andThen_ok]
 cases b
 ·rfl
 ·simp only [Bool.not_true, Bool.false_eq_true, if_false]
  rw [hr]; rfl
theorem Yda {P : Program} {w : World} {d : Nat} {xs ys : Array Value} : (Op.eqFields d xs ys []).run P w = .ok true w := rfl
theorem Ydu {P : Program} (w : World) (d : Nat) {e : TypeId} {k : IntKind} (he : P.underlying e = some (.int k)) (xs ys : Array Value) (f g : Nat → Int) :
  ∀ is : List Nat, (∀ i, i ∈ is → xs[i]? = some (.int k (f i)) ∧ ys[i]? = some (.int k (g i))) → (Op.eqItems (d + 1) e 1 xs ys is).run P w = .ok (is.all fun i => f i == g i) w
 |[], _ => by simp [Op.eqItems]
 |i :: is, h => by
  have h1 := h i (by simp)
  have ih := Ydu w d he xs ys f g is (fun j hj => h j (by simp [hj]))
  have hp : P.plainKey e = true := by simp [Program.plainKey, he]
  simp only [Op.eqItems, Nat.mul_one, Sem.run_bind, run_part_plain w hp h1.1, run_part_plain w hp h1.2, Result.andThen_ok, run_equalIn_int w d e k k _ _ he, List.all_cons]
  cases hb : f i == g i
  ·simp
  ·simpa using ih
def Opd.eqB (a b : Opd) : Bool := ((a.k == b.k) && ((a.r == b.r) && ((a.imm == b.imm) && ((a.b == b.b) && ((a.x == b.x) && ((a.sc == b.sc) && true))))))
def Ins.eqB (i j : Ins) : Bool := ((i.op == j.op) && ((i.cond == j.cond) && (i.a.eqB j.a && (i.b.eqB j.b && ((i.rep == j.rep) && ((i.len == j.len) && true))))))
theorem Opd.eqB_self (a : Opd) : a.eqB a = true := by simp [Opd.eqB]
theorem Ins.eqB_self (i : Ins) : i.eqB i = true := by simp [Ins.eqB, Opd.eqB_self]
section
theorem BOk.cons {c : Int} {L : List Int} (hc : 0 ≤ c ∧ c ≤ 255) (h : BOk L) : BOk (c :: L) := by
 intro i
 cases i with
 |zero => simpa using hc
 |succ i => simpa using h i
theorem BOk.nil : BOk [] := fun i => by simp
structure Dn (w : World) (v : Value) (L : List Int) (w1 : World) : Prop where
 u : Upd [] w w1
 o : Own w1 w.heap.size v L
section
variable {w w1 w2 : World} {v v' : Value} {L N : List Int}
theorem Dn.start (h : Upd [] w w1) : Dn w (.slice none 0 0) [] w1 := ⟨h, own_nil _ _⟩
theorem Dn.step (h : Dn w v L w1) (u : Upd [] w1 w2) : Dn w v L w2 := ⟨h.u.also u (by simp), h.o.keep u (by simp)⟩
theorem Dn.app (h : Dn w v L w1) {C : Array Value} {n : Nat} (hg : Grew (w1.alloc (.cells C 5)) w.heap.size (.slice (some ⟨w1.heap.size, 0, none⟩) n n) N v' w2) : Dn w v L w2 := by
 have hu : Upd [] w w2 := (h.u.alloc _).also hg.u (by intro x hx; simp [Value.ownBlock] at hx; subst hx; exact .inr h.u.size)
 exact ⟨hu, (h.o.keep ((Upd.refl [] w1).alloc _) (by simp)).keep hg.u (by intro g e hx; simp [Value.ownBlock] at hx; have := (h.o.block g e).2; omega)⟩
theorem Dn.take (h : Dn w v L w1) {C : Array Value} {n : Nat} (hg : Grew (w1.alloc (.cells C 5)) w.heap.size (.slice (some ⟨w1.heap.size, 0, none⟩) n n) N v' w2) : Dn w v' N w2 := ⟨(h.app hg).u, hg.o⟩
end
end
section
section
variable {w w1 w2 : World} {v v' : Value} {L N : List Int} {ob : Nat} {o o' : Opd}
end
theorem Grew.form {w : World} {base : Nat} {v : Value} {L : List Int} {v' : Value} {w' : World} (h : Grew w base v L v' w') (n : Nat) (hn : L.length = n) : ∃ b c, v' = .slice b n c := by
 subst hn
 exact Ye9 h.o
end
section
section
variable {w w1 w2 : World} {a pb : Nat} {t t2 : St} {F F2 : Flt} {i : Ins} {ib : Nat} {M M2 : Mem}
end
section
variable {w w1 : World} {a pb : Nat} {t : St} {F : Flt} {i : Ins} {ib : Nat} {M : Mem} {dn : Nat → Bool}
end
theorem Yap {P : Program} {fn : Func} {tmps : Array Value} {w : World} {r0 r1 r2 r3 : ResultVar} {v0 v1 v2 v3 : Value} (h : fn.results = #[r0, r1, r2, r3]) (h0 : (Ya8 tmps r0).run P w = .ok v0 w) (h1 : (Ya8 tmps r1).run P w = .ok v1 w) (h2 : (Ya8 tmps r2).run P w = .ok v2 w) (h3 : (Ya8 tmps r3).run P w = .ok v3 w) : (results fn tmps).run P w = .ok (.tuple #[v0, v1, v2, v3]) w := by
 rw [Yf5, h]
 simp [Sem.run_bind, h0, h1, h2, h3]
end
end Go.Proofs.YtjkolegknpflfaaDoor
