/-
  Parts of the proof (their names shortened by a program). No condition.
-/
import Derived.Test.YtjkolegknpflfaaDoorMg01
import Derived.Test.YtjkolegknpflfaaDoorMg08
import Derived.ChangeSlices
import Derived.Test.YtjkolegknpflfaaDoorMg04
namespace Go.Proofs.YtjkolegknpflfaaDoor
open Go Go.RowKit
set_option linter.unusedVariables false
set_option linter.unusedSimpArgs false
set_option maxRecDepth 100000
set_option maxHeartbeats 16000000
theorem Ygc {w : World} {vv : Value} {l : List Mi} {g b : Nat} (h : MSl w vv l g ∧ b ≤ g) (hl : l ≠ []) : g < w.heap.size := by
 rcases h.1 with ⟨_, _, _, h2⟩ | ⟨_, _, _, h2, _⟩
 ·exact absurd h2 hl
 ·exact h2
theorem ak_len {n v : Int} : (akL n v).length ≤ maxLen := by unfold akL maxLen; simp
theorem eql_flt0 (w : World) : (binOp .eql 37 (.agg #[.int .i64 0, .int .u32 0, .int .u32 0, .int .i64 0]) (.agg #[.int .i64 0, .int .u32 0, .int .u32 0, .int .i64 0])).run Tryd.prog w = .ok (.bool true) w := by kernel_rfl
theorem eql_st (s : St) (w : World) : (binOp .eql 28 (.agg s.cells) (.agg s.cells)).run Tryd.prog w = .ok (.bool true) w := by rw [Yex, St.eqB_self]
theorem ak_own (n v : Int) (w1 : World) : Yaz (w1.alloc (.cells (Yp (akL n v)).toArray 35)) w1.heap.size (.slice (some ⟨w1.heap.size, 0, none⟩) 3 3) (akL n v) :=
 Ygk (c := 0) (l := akL n v) (g := w1.heap.size) (heap_alloc_new w1 (.cells (Yp (akL n v)).toArray 35)) (Nat.le_refl _) ak_len
theorem Yd5 {ops : Array Oper} {rest : List Oper} {o : Oper} {a : Act} {w w1 : World} {Q : Exit → Act → World → Prop} (n v : Int) (more : List Mi) (vb : Value) (g : Nat) (hm : MSl w1 vb more g) (hn : (akL n v).length + more.length ≤ 10000) (hgd : o.guard = none) (s x : Operand)
  (ho : o.op = .call { callee := .builtin .append, args := #[s, x], argTypes := #[29, 29] })
  (hs : a.eval s = .slice (some ⟨w1.heap.size, 0, none⟩) 3 3) (hx : a.eval x = vb) (hw : w = w1.alloc (.cells (Yp (akL n v)).toArray 35))
  (h : ∀ v' w', Yaz w' w1.heap.size v' (akL n v ++ more) → Upd [] w1 w' → wpList Tryd.prog ops Q rest (a.put o.dst v') w') : wpList Tryd.prog ops Q (o :: rest) a w := by
 subst hw
 have U := (Upd.refl [] w1).alloc (.cells (Yp (akL n v)).toArray 35)
 refine Ybh hgd s x ho w1.heap.size _ (akL n v) hs (ak_own n v w1) vb more g hx (hm.keep U (by simp)) hn (by simp) ?_
 intro v2 w2 hg
 exact h v2 w2 hg.o (U.new hg.u (fun x hx => by simp [Value.ownBlock] at hx; omega))
theorem ak_put {w : World} {g : Nat} {s : St} (v n : Int) (h : w.heap[g]? = some (.cells s.cells 28 (0, 0))) : ((w.setCell ⟨g, 6, none⟩ (.int .u32 v)).setCell ⟨g, 8, none⟩ (.int .u32 n)).heap[g]? = some (.cells ((s.setR 6 v).setPc n).cells 28 (0, 0)) := by
 have h1 := Yd h 6 (.int .u32 v)
 rw [St.cells_setR s 6 v (by decide)] at h1
 exact Yd h1 8 (.int .u32 n)
theorem Yej (s : St) (n v : Int) (vm : Value) (more : List Mi) (g : Nat) (w : World) (hs : s.Ok) (hn : 0 ≤ n ∧ n < 4294967296) (hv : 0 ≤ v ∧ v < 4294967296) (hm : MSl w vm more g) (hok : ∀ x ∈ more, x.Ok) (hl : more.length ≤ maxLen) :
  Calls Tryd.prog 6 #[.agg s.cells, .int .u32 n, .int .u32 v, vm] w fun e w' => e = .returned (.bool true) ∧ Upd [] w w' := by
 obtain ⟨bm, cm, rfl⟩ := hm.form
 obtain ⟨ln, hln⟩ : ∃ ln : Int, ln = (more.length : Int) := ⟨_, rfl⟩
 have ec : ((more.length : Nat) : Int) = ln := hln.symm
 have HA := Yh_ (And.intro hm (And.intro hok (And.intro hl hln)))
 have HV := Yh_ (And.intro hs (And.intro hn hv))
 have tok : True := trivial
 clear hm hok hl hln hs hn hv
 have KN : True := trivial
 by_cases h100 : 100 < ln
 ·have d0 : decide (100 < ln) = true := by simp [h100]
  clear h100
  go_enter Tryd.func6, Tryd.ntmps6
  go_wp2_with (have _t := tok; clear _t; go_at_call 7; refine (Ych _).mono ?_; rintro e w0 ⟨rfl, hu0⟩; have H0 := Yh_ (((Upd.refl [] w).alloc (.cells s.cells 28)).also hu0 (by simp)); clear hu0 tok)
  go_ret
  exact ⟨rfl, H0.out⟩
 ·have d0 : decide (100 < ln) = false := by simp [h100]
  have HL := Yh_ (show ln ≤ 100 by omega)
  clear h100
  cases his : isL more
  ·have HI := Yh_ his
   clear his
   go_enter Tryd.func6, Tryd.ntmps6
   go_wp2_with (first
    |(have _t := tok; clear _t; go_at_call 7; refine (Ych _).mono ?_; rintro e w0 ⟨rfl, hu0⟩; have H0 := Yh_ (((Upd.refl [] w).alloc (.cells s.cells 28)).also hu0 (by simp)); clear hu0 tok)
    |(have _t := H0; clear _t; go_at_call 8; refine (Ycm _ more g _ (HA.out.1.keep H0.out (by simp)) HA.out.2.1 HA.out.2.2.1).mono ?_; rintro e w1 ⟨rfl, hu⟩; rw [HI.out]; have H1 := Yh_ (H0.out.also hu (by simp)); clear hu H0))
   go_ret
   exact ⟨rfl, H1.out⟩
  ·have HI := Yh_ his
   clear his
   have HLEN := Yh_ (show (akL n v).length + more.length ≤ 10000 ∧ (akL n v ++ more).length ≤ maxLen ∧ (akL n v ++ more).length ≤ 200 by have := HL.out; have := HA.out.2.2.2; rw [List.length_append]; unfold maxLen akL; simp; omega)
   obtain ⟨r, hr1, hr2⟩ := ak_run D0 n v more s
   obtain ⟨S, hS⟩ : ∃ S, (s.setR 6 v).setPc n = S := ⟨_, rfl⟩
   have HR := Yh_ (And.intro hr1 (hr2.trans hS))
   have HS := Yh_ hS
   have hok2 : ∀ x ∈ akL n v ++ more, x.Ok := fun x hx => by
    rcases List.mem_append.1 hx with h | h
    ·exact (ak_ok n v HV.out.2.1 HV.out.2.2 x h).1
    ·exact HA.out.2.1 x h
   have his2 : isL (akL n v ++ more) = true := by
    unfold isL
    rw [decide_eq_true HLEN.out.2.2, Bool.and_true, List.all_append]
    have h1 : (akL n v).all Mi.is = true := by rw [List.all_eq_true]; exact fun x hx => (ak_ok n v HV.out.2.1 HV.out.2.2 x hx).2
    have h2 : more.all Mi.is = true := by have := HI.out; unfold isL at this; rw [Bool.and_eq_true] at this; exact this.1
    rw [h1, h2]; rfl
   have HOK := Yh_ (And.intro hok2 his2)
   clear hr1 hr2 hS hok2 his2
   go_enter Tryd.func6, Tryd.ntmps6
   have tkA : True := trivial
   go_upto_region 6 with (first
    |(have _t := tok; clear _t; go_at_call 7; refine (Ych _).mono ?_; rintro e w0 ⟨rfl, hu0⟩; have H0 := Yh_ (And.intro (((Upd.refl [] w).alloc (.cells s.cells 28)).also hu0 (by simp)) (hu0.get (heap_alloc_new w (.cells s.cells 28)) (by simp))); clear hu0 tok)
    |(have _t := H0; clear _t; go_at_call 8; refine (Ycm _ more g _ (HA.out.1.keep H0.out.1 (by simp)) HA.out.2.1 HA.out.2.2.1).mono ?_; rintro e w1 ⟨rfl, hu⟩; rw [HI.out]; have H1 := Yh_ (And.intro (H0.out.1.also hu (by simp)) (hu.get H0.out.2 (by simp))); clear hu H0)
    |(have _t := tkA; clear _t; at_builtin; refine Yd5 (w1 := w1) n v more _ g (HA.out.1.keep H1.out.1 (by simp)) HLEN.out.1 rfl _ _ rfl rfl rfl ?_ ?_; rfl; intro v2 w2 ho2 U2; have H2 := Yh_ (And.intro (H1.out.1.also U2 (by simp)) (And.intro (U2.get H1.out.2 (by simp)) ho2)); clear ho2 U2 tkA H1))
   obtain ⟨g2, hsl, _, hgl⟩ := H2.out.2.2.sl
   have HSL := Yh_ (And.intro hsl (hgl (by unfold akL; simp)))
   clear hsl hgl
   refine Ye2 15 (Ka w2 S Flt.zero) (fun _ _ => False) (by kernel_rfl) (by decide +kernel) (fun r0 => Ka.start w2 S Flt.zero r0) (fun _ _ _ h => h.elim) ?_
   simp only [List.take_succ_cons, List.take_zero, List.drop_succ_cons, List.drop_zero]
   refine Yb5 rfl (fun _ => rfl) 34 rfl (by simp [Act.put]) ?_ ?_
   ·intro dn r0 K hd w5 hB2 hK
    have HB := Yh_ hB2
    clear hB2
    simp only [Yh]
    go_wp2_with (go_at_call 9; refine (Yfr _).mono ?_; rintro e w6 ⟨ma, pb, rfl, ha, hp, hM1, hu1⟩; have HK6 := Yh_ (HB.out.new hd ha hp hM1 hu1); clear ha hp hM1 hu1)
    first
    |exact hK (.pointer (some ⟨ma, 0, none⟩)) _ HK6.out
    |exact HK6.out
   apply Yy rfl (fun _ => rfl)
   ·intro dn r0 K hd hdep hK w5 hB2
    refine Yb1 s w.heap.size _ rfl rfl (hB2.u.get H2.out.2.1 (by simp)) ?_
    exact hK _ (hB2.same _ (by decide) (by simp))
   ·exact ⟨_, fun _ => rfl, rfl⟩
   apply Yy rfl (fun _ => rfl)
   ·intro dn r0 K hd hdep hK w5 hB2
    have HB := Yh_ hB2
    clear hB2 hdep
    simp only [Yh]
    go_wp2_with fail
    first
    |exact hK _ (HB.out.same _ (by decide) (by simp))
    |exact HB.out.same _ (by decide) (by simp)
   ·exact ⟨_, fun _ => rfl, rfl⟩
   apply Yy rfl (fun _ => rfl)
   ·intro dn r0 K hd hdep hK w5 hB2
    have h0 : dn 0 = true := hdep ⟨0, .data⟩ (by simp) rfl
    obtain ⟨ma, pb, e0, _, hpb, hmem⟩ := hB2.m hd h0
    have HB := Yh_ (And.intro hB2 (And.intro hd (And.intro h0 (And.intro hpb hmem))))
    clear hB2 hdep h0 hpb hmem hd
    simp only [Yh]
    rw [e0]
    have E0 := Yh_ e0
    clear e0
    go_wp2_with (go_at_call 10; refine (Run_of (Yu D0) ma pb g2 s v2 (akL n v ++ more) w5 HB.out.2.2.2.2 HV.out.1 (HSL.out.1.keep HB.out.1.u (by simp)) HOK.out.1 HLEN.out.2.1 (ak_as n v HV.out.2.1 HV.out.2.2 more s) (fun _ _ => doesD_z) (Yem D0_3) (by have h1 := Ygc HSL.out (by simp [akL]); have h2 := HB.out.2.2.2.1; exact fun e => absurd (e ▸ h1) (Nat.not_lt.2 h2)) HOK.out.2).mono ?_; rintro e w6 ⟨rfl, hm, hu⟩; rw [HR.out.1, show Ybr (⟨2, r, Flt.zero⟩ : MO) = r.s from rfl, HR.out.2, show (outF (⟨2, r, Flt.zero⟩ : MO)).val = .agg #[.int .i64 0, .int .u32 0, .int .u32 0, .int .i64 0] from rfl, show outK (⟨2, r, Flt.zero⟩ : MO) = true from rfl, show outQ (⟨2, r, Flt.zero⟩ : MO) = true from rfl]; have HK6 := Yh_ (HB.out.1.run HB.out.2.1 HB.out.2.2.2.1 HB.out.2.2.2.2 HB.out.2.2.1 hu); clear hm hu)
    rw [← E0.out]
    exact hK _ HK6.out
   ·exact ⟨_, fun _ => rfl, rfl⟩
   apply Yy rfl (fun _ => rfl)
   ·intro dn r0 K hd hdep hK w5 hB2
    have h3 : dn 3 = true := hdep ⟨3, .data⟩ (by simp) rfl
    have HB := Yh_ (hB2.same 4 (by decide) (fun _ => h3))
    clear hB2 hdep h3
    simp only [Yh]
    go_wp2_with fail
    first
    |exact hK _ HB.out
    |exact HB.out
   ·exact ⟨_, fun _ => rfl, rfl⟩
   apply Yy rfl (fun _ => rfl)
   ·intro dn r0 K hd hdep hK w5 hB2
    have h3 : dn 3 = true := hB2.o4 (hdep ⟨4, .data⟩ (by simp) rfl)
    have HB := Yh_ (hB2.same 5 (by decide) (fun _ => h3))
    clear hB2 hdep h3
    simp only [Yh]
    go_wp2_with fail
    exact HB.out
   ·refine ⟨.agg S.cells, fun _ => ?_, ?_⟩
    ·rfl
    ·go_simp
     rfl
   apply Yy rfl (fun _ => rfl)
   ·intro dn r0 K hd hdep hK w5 hB2
    have h3 : dn 3 = true := hB2.o4 (hdep ⟨4, .data⟩ (by simp) rfl)
    have HB := Yh_ (hB2.same 6 (by decide) (fun _ => h3))
    clear hB2 hdep h3
    simp only [Yh]
    go_wp2_with fail
    exact HB.out
   ·refine ⟨.agg #[.int .i64 0, .int .u32 0, .int .u32 0, .int .i64 0], fun _ => ?_, ?_⟩
    ·rfl
    ·go_simp
     rfl
   apply Yy rfl (fun _ => rfl)
   ·intro dn r0 K hd hdep hK w5 hB2
    have h3 : dn 3 = true := hB2.o4 (hdep ⟨4, .data⟩ (by simp) rfl)
    have HB := Yh_ (hB2.same 7 (by decide) (fun _ => h3))
    clear hB2 hdep h3
    simp only [Yh]
    go_wp2_with fail
    exact HB.out
   ·refine ⟨.bool true, fun _ => ?_, ?_⟩
    ·rfl
    ·go_simp
     rfl
   apply Yy rfl (fun _ => rfl)
   ·intro dn r0 K hd hdep hK w5 hB2
    have h3 : dn 3 = true := hB2.o4 (hdep ⟨4, .data⟩ (by simp) rfl)
    have HB := Yh_ (hB2.same 8 (by decide) (fun _ => h3))
    clear hB2 hdep h3
    simp only [Yh]
    go_wp2_with fail
    exact HB.out
   ·refine ⟨.bool true, fun _ => ?_, ?_⟩
    ·rfl
    ·go_simp
     rfl
   refine Yb5 rfl (fun _ => rfl) 10 rfl (by simp [Act.put]) ?_ ?_
   ·intro dn r0 K hd w5 hB2 hK
    have HB := Yh_ hB2
    clear hB2
    simp only [Yh]
    go_wp2_with fail
    first
    |exact hK (.pointer (some ⟨w5.heap.size, 0, none⟩)) _ (HB.out.layS hd)
    |exact HB.out.layS hd
   refine Yb5 rfl (fun _ => rfl) 11 rfl (by simp [Act.put]) ?_ ?_
   ·intro dn r0 K hd w5 hB2 hK
    have HB := Yh_ hB2
    clear hB2
    simp only [Yh]
    go_wp2_with fail
    first
    |exact hK (.pointer (some ⟨w5.heap.size, 0, none⟩)) _ (HB.out.layF hd)
    |exact HB.out.layF hd
   apply Yy rfl (fun _ => rfl)
   ·intro dn r0 K hd hdep hK w5 hB2
    have h9 : dn 9 = true := hdep ⟨9, .data⟩ (by simp) rfl
    have h3 : dn 3 = true := hB2.o5 (hdep ⟨5, .data⟩ (by simp) rfl)
    obtain ⟨g0, e1, e2, e3⟩ := hB2.x h9
    refine Yea S g0 _ _ rfl (by show r0 9 = _; exact e1) rfl e3 (by split <;> rfl) ?_
    intro w6 hw; rw [← hw]
    exact hK _ (hB2.putS hd h9 h3 e1)
   ·exact ⟨undef, fun _ => rfl, Eq.symm (by go_simp; exact rfl)⟩
   apply Yy rfl (fun _ => rfl)
   ·intro dn r0 K hd hdep hK w5 hB2
    have h10 : dn 10 = true := hdep ⟨10, .data⟩ (by simp) rfl
    have h3 : dn 3 = true := hB2.o6 (hdep ⟨6, .data⟩ (by simp) rfl)
    obtain ⟨g0, e1, e2, e3⟩ := hB2.y h10
    refine Yc8 Flt.zero Flt.zero g0 _ _ rfl (by show r0 10 = _; exact e1) rfl (by rw [e3, ite_self]) ?_
    exact hK _ (hB2.putF hd h10 h3 e1)
   ·exact ⟨undef, fun _ => rfl, Eq.symm (by go_simp; exact rfl)⟩
   apply Yy rfl (fun _ => rfl)
   ·intro dn r0 K hd hdep hK w5 hB2
    have HB := Yh_ (hB2.same 13 (by decide) (by simp))
    clear hB2 hdep
    simp only [Yh]
    go_wp2_with fail
    exact HB.out
   ·refine ⟨.bool true, fun _ => ?_, ?_⟩
    ·rfl
    ·go_simp
     rfl
   apply Yy rfl (fun _ => rfl)
   ·intro dn r0 K hd hdep hK w5 hB2
    have HB := Yh_ (hB2.same 14 (by decide) (by simp))
    clear hB2 hdep
    simp only [Yh]
    go_wp2_with fail
    exact HB.out
   ·refine ⟨.bool true, fun _ => ?_, ?_⟩
    ·rfl
    ·go_simp
     rfl
   refine Yeq (fun _ r0 w30 dn hall hB2 => ?_)
   obtain ⟨ga, e1, ha1, ha2⟩ := hB2.x (hall 9 (by decide))
   obtain ⟨gb, e2, hb1, hb2⟩ := hB2.y (hall 10 (by decide))
   rw [if_pos (hall 11 (by decide))] at ha2
   rw [ite_self] at hb2
   have hne : ga ≠ gb := by
    rintro rfl
    rw [ha2] at hb2
    injection hb2 with hb2
    injection hb2 with _ hb2
    exact absurd hb2 (by decide)
   have Q1 := Yh_ (And.intro ha2 (And.intro hb2 (And.intro (H2.out.1.also hB2.u (by simp)) (And.intro (hB2.u.get H2.out.2.1 (by simp)) hB2.u.size))))
   show wpList _ _ _ _ (Act.put (Act.put (Act.put (Yh _ _ [] _) (some 34) (r0 0)) (some 10) (r0 9)) (some 11) (r0 10)) _
   rw [e1, e2]
   simp only [Yh]
   clear e1 e2 ha1 ha2 hb1 hb2 hall hB2
   have hES := eql_st S
   have hEF := eql_flt0
   have cfb := Yb Q1.out.2.1
   generalize r0 0 = rz at *
   have tkS : True := trivial
   go_upto_region 9 with (first
    |(have _t := tkS; clear _t; refine Yah 28 rfl ?_; refine Ybd s w.heap.size rfl _ rfl rfl Q1.out.2.2.2.1 ?_; clear tkS)
    |(have _t := Q1; clear _t; refine Yaw 28 rfl ?_; refine Yac s w30.heap.size rfl _ _ rfl rfl rfl (heap_alloc_new w30 _) rfl ?_; intro w31 hw; have h31 : w31.heap[w30.heap.size]? = some (.cells s.cells 28 (0, 0)) := (by rw [← hw]; exact Yaj s (heap_alloc_new w30 _) rfl); have u31 : Upd [] w30 w31 := (by rw [← hw]; exact ((Upd.refl [] w30).alloc _).setCells (q := w30.heap.size) (.inr (Nat.le_refl _)) _ _); have c6 : w31.cell? ⟨w30.heap.size, 6, none⟩ = some (.int .u32 (s.R 6)) := (Yb h31 6).trans (St.cR _ 6 (by decide)); have c8 : w31.cell? ⟨w30.heap.size, 8, none⟩ = some (.int .u32 s.pc) := (Yb h31 8).trans rfl; have fr := Yi h31; have Q2 := Yh_ (And.intro (Q1.out.2.2.1.also u31 (by simp)) (And.intro (u31.get Q1.out.1 (by simp)) (And.intro (u31.get Q1.out.2.1 (by simp)) (And.intro h31 (And.intro (Nat.ne_of_lt (Yf Q1.out.1)) (And.intro (Nat.ne_of_lt (Yf Q1.out.2.1)) (Nat.le_trans H2.out.1.size Q1.out.2.2.2.2))))))); clear hw h31 u31 Q1))
   have hT := ak_put v n Q2.out.2.2.2.1
   rw [HS.out] at hT
   have u33 := ((Upd.refl [w30.heap.size] w31).setCell (p := ⟨w30.heap.size, 6, none⟩) (.inl (by simp)) (.int .u32 v)).setCell (p := ⟨w30.heap.size, 8, none⟩) (.inl (by simp)) (.int .u32 n)
   have Q3 := Yh_ (And.intro (u33.get Q2.out.2.1 (by simpa using Q2.out.2.2.2.2.1)) (And.intro hT (Q2.out.1.also u33 (fun x hx => .inr (by rw [List.mem_singleton.1 hx]; exact Q2.out.2.2.2.2.2.2)))))
   have hB := u33.get Q2.out.2.2.1 (by simpa using Q2.out.2.2.2.2.2.1)
   clear hT u33 c6 c8 fr cfb
   change Code.wp _ _ _ _ ((w31.setCell ⟨w30.heap.size, 6, none⟩ (.int .u32 v)).setCell ⟨w30.heap.size, 8, none⟩ (.int .u32 n))
   generalize (w31.setCell ⟨w30.heap.size, 6, none⟩ (.int .u32 v)).setCell ⟨w30.heap.size, 8, none⟩ (.int .u32 n) = w33 at *
   have f0 : w33.cell? ⟨gb, 0, none⟩ = some (.int .i64 0) := Yb hB 0
   have f1 : w33.cell? ⟨gb, 1, none⟩ = some (.int .u32 0) := Yb hB 1
   have f2 : w33.cell? ⟨gb, 2, none⟩ = some (.int .u32 0) := Yb hB 2
   have f3 : w33.cell? ⟨gb, 3, none⟩ = some (.int .i64 0) := Yb hB 3
   clear hB
   have tk1 : True := trivial
   have tk2 : True := trivial
   go_wp2_with (first
    |(have _t := tk1; clear _t; refine Yah 28 rfl ?_; refine Ybp S ga rfl _ rfl rfl Q3.out.1 ?_; clear tk1)
    |(have _t := tk2; clear _t; refine Yah 28 rfl ?_; refine Ybp S w30.heap.size rfl _ rfl rfl Q3.out.2.1 ?_; clear tk2))
   go_ret
   exact ⟨rfl, Q3.out.2.2⟩
section
open Go.WideShapes Go.ChangeShapes
def Rp (w : World) (v : Value) (l : List Int) (g : Nat) : Prop :=
 (v = .slice none 0 0 ∧ l = []) ∨ ∃ o c C T f, v = .slice (some ⟨g, o, none⟩) l.length c ∧ l.length ≤ c ∧ w.heap[g]? = some (.cells C T f) ∧ ∀ i, i < l.length → C[o + i]? = some (.int .u32 (l.getD i 0))
theorem Rp.form {w : World} {v : Value} {l : List Int} {g : Nat} (h : Rp w v l g) : ∃ b c, v = .slice b l.length c := by
 rcases h with ⟨h1, h2⟩ | ⟨o, c, _, _, _, h1, _⟩
 ·exact ⟨none, 0, by rw [h1, h2]; rfl⟩
 ·exact ⟨_, _, h1⟩
theorem Rp.keep {w w' : World} {v : Value} {l : List Int} {g : Nat} {S : List Nat} (h : Rp w v l g) (u : Upd S w w') (hg : g ∉ S) : Rp w' v l g := by
 rcases h with h | ⟨o, c, C, T, f, h1, h2, h3, h4⟩
 ·exact .inl h
 ·exact .inr ⟨o, c, C, T, f, h1, h2, u.get h3 hg, h4⟩
theorem Rp.old {w w' : World} {v : Value} {l : List Int} {g : Nat} (h : Rp w v l g) (u : Upd [] w w') : Rp w' v l g := h.keep u (by simp)
theorem Rp.cell {w : World} {b : Option Addr} {n c : Nat} {l : List Int} {g : Nat} (h : Rp w (.slice b n c) l g) (hl : 0 < l.length) : ∃ o, b = some ⟨g, o, none⟩ ∧ n = l.length ∧ ∀ i, i < l.length → w.cell? ⟨g, o + i, none⟩ = some (.int .u32 (l.getD i 0)) := by
 rcases h with ⟨h1, h2⟩ | ⟨o, c', C, T, f, h1, h2, h3, h4⟩
 ·rw [h2] at hl; cases hl
 ·injection h1 with e1 e2 e3
  exact ⟨o, e1, e2, fun i hi => by rw [Yb h3]; exact h4 i hi⟩
theorem Yeh {z : Int} (h : (Lit.int .u32 z).wf = true) : 0 ≤ z ∧ z < 4294967296 := by
 simp [Lit.wf, IntKind.min, IntKind.max, IntKind.signed, IntKind.bits] at h
 omega
end
section
open Go.WideShapes Go.ChangeShapes
theorem Yfl {H : Type} {enc : TypeId × Value → H} {w : World} {base : Nat} {spare : Nat → Bool} {held : Bool} {n : Nat} {g o : Nat} {y : DataW H × List MemPlace}
  (h : (w.cells? base ⟨g, o, none⟩ (Tryd.prog.cellsOf 35)).bind (DataW.trod enc Tryd.prog w base spare held n 35) = some y) :
  ∃ x : Mi, x.Ok ∧ ∀ j, j < 7 → w.cell? ⟨g, o + j, none⟩ = x.cells.toList[j]? := by
 rw [show Tryd.prog.cellsOf 35 = 7 by kernel_rfl, Option.bind_eq_some_iff] at h
 obtain ⟨cs, hcs, hy⟩ := h
 obtain ⟨_, hl, hc⟩ := World.cells?_some hcs
 have c : ∀ j, j < 7 → ∀ lf, Ycq Tryd.prog 8 35 j = some lf → ∃ x, w.cell? ⟨g, o + j, none⟩ = some x ∧ Yfe lf x := by
  intro j hj lf hlf
  obtain ⟨x, hx, hok⟩ := Yce 8 _ _ _ _ j lf hy hlf
  refine ⟨x, ?_, hok⟩
  have := hc j hj
  rw [Addr.add_lit] at this
  rw [this, hx]
 obtain ⟨x0, h0, z0, rfl, w0⟩ := c 0 (by decide) (.int .i64) (by kernel_rfl)
 obtain ⟨x1, h1, z1, rfl, w1⟩ := c 1 (by decide) (.int .i64) (by kernel_rfl)
 obtain ⟨x2, h2, z2, rfl, w2⟩ := c 2 (by decide) (.int .i64) (by kernel_rfl)
 obtain ⟨x3, h3, z3, rfl, w3⟩ := c 3 (by decide) (.int .i64) (by kernel_rfl)
 obtain ⟨x4, h4, z4, rfl, w4⟩ := c 4 (by decide) (.int .i64) (by kernel_rfl)
 obtain ⟨x5, h5, z5, rfl, w5⟩ := c 5 (by decide) (.int .u32) (by kernel_rfl)
 obtain ⟨x6, h6, b6, rfl⟩ := c 6 (by decide) .bool (by kernel_rfl)
 refine ⟨⟨z0, z1, z2, z3, z4, z5, b6⟩, ⟨Yeh w5⟩, fun j hj => ?_⟩
 have hj' : j = 0 ∨ j = 1 ∨ j = 2 ∨ j = 3 ∨ j = 4 ∨ j = 5 ∨ j = 6 := by omega
 rcases hj' with rfl | rfl | rfl | rfl | rfl | rfl | rfl
 ·exact h0
 ·exact h1
 ·exact h2
 ·exact h3
 ·exact h4
 ·exact h5
 ·exact h6
theorem Yf1 {l : List Mi} {k : Nat} {u : Value} (h : (Yp l)[k]? = some u) : ∃ i x, l[i]? = some x ∧ k = i * 7 + k % 7 ∧ x.cells.toList[k % 7]? = some u := by
 have hk : k < l.length * 7 := by rw [← Yby]; exact (List.getElem?_eq_some_iff.1 h).1
 have hi : k / 7 < l.length := by omega
 refine ⟨k / 7, l[k / 7], List.getElem?_eq_getElem hi, by omega, ?_⟩
 rw [← Yet (List.getElem?_eq_getElem hi) (k % 7) (by omega), show k / 7 * 7 + k % 7 = k by omega]
 exact h
theorem Yew {H : Type} {enc : TypeId × Value → H} {w : World} {t : TypeId} (ht : Tryd.prog.underlying t = some (.slice 35)) {base b0 fuel : Nat} {spare : Nat → Bool} {held : Bool} {r : Reach} {v : Value} {x : DataW H × List MemPlace}
  (hval : Value.okWide Tryd.prog w r b0 t v) (hf : DataW.trod enc Tryd.prog w base spare held fuel t v.cells.toList = some x) : ∃ l g, MSl w v l g ∧ (∀ x ∈ l, x.Ok) ∧ l.length ≤ maxLen := by
 obtain ⟨a1, len, cap, rfl⟩ := okWide_slice ht hval
 rcases DataW.trod_slice ht hf with ⟨hcs, hx⟩ | ⟨a, len', cap', elems, rest, n, _, hcs, _, _, hl, hm, hel, he, _, _⟩
 ·simp [Value.cells] at hcs
  obtain ⟨rfl, rfl, rfl⟩ := hcs
  exact ⟨[], 0, .inl ⟨_, _, rfl, rfl⟩, by simp, by simp⟩
 ·simp [Value.cells] at hcs
  obtain ⟨rfl, rfl, rfl⟩ := hcs
  simp only [Value.okWide, ht, Cell.okWide, Cell.ok, World.has] at hval
  obtain ⟨_, _, _, hsp, row, cells, hsh, _⟩ := hval
  obtain ⟨ab, ao, spot⟩ := a
  simp only at hsp
  subst hsp
  have hlt : ab < w.heap.size := by
   unfold World.shape? at hsh
   split at hsh
   ·rename_i c e f hh
    exact Yf hh
   ·cases hsh
  have hc7 : Tryd.prog.cellsOf 35 = 7 := by kernel_rfl
  have each : ∀ i, ∃ x : Mi, i < len → x.Ok ∧ ∀ j, j < 7 → w.cell? ⟨ab, ao + i * 7 + j, none⟩ = x.cells.toList[j]? := fun i => by
   by_cases hi : i < len
   ·have h := he i hi
    obtain ⟨y, hy⟩ : ∃ y, elems[i]? = some y := ⟨_, List.getElem?_eq_getElem (by omega)⟩
    rw [hy, Addr.add_lit] at h
    have h2 := Yfl h
    rw [hc7] at h2
    obtain ⟨x, hx⟩ := h2
    exact ⟨x, fun _ => hx⟩
   ·exact ⟨Mi.zero, fun h => absurd h hi⟩
  obtain ⟨F, hF⟩ := Classical.axiomOfChoice each
  have hl2 : ((List.range len).map F).length = len := by simp
  refine ⟨(List.range len).map F, ab, .inr ⟨ao, cap, by rw [hl2], hlt, fun k u hk => ?_⟩, fun s hs => ?_, by rw [hl2]; omega⟩
  ·obtain ⟨i, x, h1, h2, h3⟩ := Yf1 hk
   have hi : i < len := by
    have := (List.getElem?_eq_some_iff.1 h1).1
    rwa [hl2] at this
   rw [List.getElem?_map, List.getElem?_range hi] at h1
   simp only [Option.map_some, Option.some.injEq] at h1
   subst h1
   rw [h2, ← Nat.add_assoc, (hF i hi).2 (k % 7) (Nat.mod_lt _ (by decide))]
   exact h3
  ·obtain ⟨i, hi, rfl⟩ := List.mem_map.1 hs
   exact (hF i (List.mem_range.1 hi)).1
theorem Yff {H : Type} {enc : TypeId × Value → H} {w : World} {t : TypeId} (ht : Tryd.prog.underlying t = some (.slice 35)) {b0 : Nat} {v : Value} {d : DataW H} {p : List MemPlace}
  (hval : Value.okWide Tryd.prog w .any b0 t v) (h : DataW.Trod enc Tryd.prog w 0 (fun _ => true) true t v d p) : ∃ l g, MSl w v l g ∧ (∀ x ∈ l, x.Ok) ∧ l.length ≤ maxLen := by
 obtain ⟨fuel, hf⟩ := h
 exact Yew ht hval hf
end
end Go.Proofs.YtjkolegknpflfaaDoor
