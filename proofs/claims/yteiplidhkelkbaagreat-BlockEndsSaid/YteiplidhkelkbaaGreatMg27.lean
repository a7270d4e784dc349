/-
  Parts of the proof (their names shortened by a program). No condition.
-/
import Derived.Test.YteiplidhkelkbaaGreatMg01
import Derived.Test.YteiplidhkelkbaaGreatMg17
import Derived.Test.YteiplidhkelkbaaGreatMg26
import Derived.Test.YteiplidhkelkbaaGreatMg23
import Derived.Test.YteiplidhkelkbaaGreatMg03
import Derived.Test.YteiplidhkelkbaaGreatMg02
import Derived.Deep.QuietTactic
import Derived.BigQuiet
import Derived.Test.YteiplidhkelkbaaGreatMg04
namespace Go.Proofs.YteiplidhkelkbaaGreat
open Go Go.RowKit
set_option linter.unusedVariables false
set_option linter.unusedSimpArgs false
set_option maxRecDepth 100000
set_option maxHeartbeats 16000000
section
theorem Yl.new {w : World} {v : Value} {L : List Int} {g : Nat} (h : Yf6 w v L g) : Yl ((w.alloc (.cells #[.int .i64 0, .int .i64 0, .int .i64 0, .int .i64 0, .int .u32 0, .int .i64 0, .int .i64 0, .int .u32 0, .int .i64 0, .int .i64 0, .int .u32 0, .int .i64 0, .int .i64 0, .int .u32 0, .bool false, .int .i64 0] 42)).alloc (.cells #[v, .int .i64 0, .bool false, .bool false] 90)) (w.heap.size + 1) v L g ⟨0, false, false⟩ := by
 have u : Upd [] w ((w.alloc (.cells #[.int .i64 0, .int .i64 0, .int .i64 0, .int .i64 0, .int .u32 0, .int .i64 0, .int .i64 0, .int .u32 0, .int .i64 0, .int .i64 0, .int .u32 0, .int .i64 0, .int .i64 0, .int .u32 0, .bool false, .int .i64 0] 42)).alloc (.cells #[v, .int .i64 0, .bool false, .bool false] 90)) := ((Upd.refl [] w).alloc _).alloc _
 have n := heap_alloc_new (w.alloc (.cells #[.int .i64 0, .int .i64 0, .int .i64 0, .int .i64 0, .int .u32 0, .int .i64 0, .int .i64 0, .int .u32 0, .int .i64 0, .int .i64 0, .int .u32 0, .int .i64 0, .int .i64 0, .int .u32 0, .bool false, .int .i64 0] 42)) (.cells #[v, .int .i64 0, .bool false, .bool false] 90)
 rw [show (w.alloc (.cells #[.int .i64 0, .int .i64 0, .int .i64 0, .int .i64 0, .int .u32 0, .int .i64 0, .int .i64 0, .int .u32 0, .int .i64 0, .int .i64 0, .int .u32 0, .int .i64 0, .int .i64 0, .int .u32 0, .bool false, .int .i64 0] 42)).heap.size = w.heap.size + 1 from by simp] at n
 exact ⟨n, h.b.keep u (by simp), Nat.zero_le _, h.n, by have := h.g; omega, h.r, h.c⟩
structure DeQ (w : World) (v : Value) (L : List Int) (g : Nat) (s : Rd) (i : Ins) (ib : Nat) (w1 : World) : Prop where
 h : Yl w1 (w.heap.size + 1) v L g s
 r : w1.heap[w.heap.size]? = some (.cells Ins.zero.cells 42 (0, 0))
 i : w1.heap[ib]? = some (.cells i.cells 42 (0, 0))
 u : Upd [] w w1
 l : w.heap.size + 1 < ib
section
variable {w w1 w2 w3 : World} {v : Value} {L : List Int} {g ib : Nat} {s : Rd} {i : Ins}
theorem DeQ.start (hr : Yl w2 (w.heap.size + 1) v L g s) (hu : Upd [w.heap.size + 1] ((w.alloc (.cells #[.int .i64 0, .int .i64 0, .int .i64 0, .int .i64 0, .int .u32 0, .int .i64 0, .int .i64 0, .int .u32 0, .int .i64 0, .int .i64 0, .int .u32 0, .int .i64 0, .int .i64 0, .int .u32 0, .bool false, .int .i64 0] 42)).alloc (.cells #[v, .int .i64 0, .bool false, .bool false] 90)) w2) (hw : (w2.alloc (.cells Ins.zero.cells 42)).setCells w2.heap.size 0 i.cells.toList = w3) : DeQ w v L g s i w2.heap.size w3 := by
 obtain ⟨z1, z2⟩ := Yau (S := []) (w0 := w2) hw (heap_alloc_new w2 (.cells Ins.zero.cells 42)) rfl ((Upd.refl [] w2).alloc _) (.inr (Nat.le_refl _))
 have hd := hr.lt
 have u0 : Upd [] w w2 := (((Upd.refl [] w).alloc (.cells #[.int .i64 0, .int .i64 0, .int .i64 0, .int .i64 0, .int .u32 0, .int .i64 0, .int .i64 0, .int .u32 0, .int .i64 0, .int .i64 0, .int .u32 0, .int .i64 0, .int .i64 0, .int .u32 0, .bool false, .int .i64 0] 42)).alloc (.cells #[v, .int .i64 0, .bool false, .bool false] 90)).also hu (by simp)
 have r0 : w2.heap[w.heap.size]? = some (.cells #[.int .i64 0, .int .i64 0, .int .i64 0, .int .i64 0, .int .u32 0, .int .i64 0, .int .i64 0, .int .u32 0, .int .i64 0, .int .i64 0, .int .u32 0, .int .i64 0, .int .i64 0, .int .u32 0, .bool false, .int .i64 0] 42) := hu.get (Yc _ (heap_alloc_new w (.cells #[.int .i64 0, .int .i64 0, .int .i64 0, .int .i64 0, .int .u32 0, .int .i64 0, .int .i64 0, .int .u32 0, .int .i64 0, .int .i64 0, .int .u32 0, .int .i64 0, .int .i64 0, .int .u32 0, .bool false, .int .i64 0] 42))) (by simp)
 exact ⟨hr.step z2, z2.get r0 (by simp), z1, u0.also z2 (by simp), hd⟩
theorem DeQ.step (h : DeQ w v L g s i ib w1) (u : Upd [] w1 w2) : DeQ w v L g s i ib w2 := ⟨h.h.step u, u.get h.r (by simp), u.get h.i (by simp), h.u.also u (by simp), h.l⟩
theorem DeQ.len (h : DeQ w v L g s i ib w1) (k : Int) : (w1.setCell ⟨ib, 15, none⟩ (.int .i64 k)).heap[ib]? = some (.cells ({ i with len := k } : Ins).cells 42 (0, 0)) ∧ (w1.setCell ⟨ib, 15, none⟩ (.int .i64 k)).heap[w.heap.size]? = some (.cells Ins.zero.cells 42 (0, 0)) ∧ Upd [] w (w1.setCell ⟨ib, 15, none⟩ (.int .i64 k)) := by
 have l := h.l
 exact ⟨Ys h.i 15 (.int .i64 k), ((Upd.refl [ib] w1).setCell (p := ⟨ib, 15, none⟩) (by simp) _).get h.r (by simp; omega), h.u.also ((Upd.refl [ib] w1).setCell (p := ⟨ib, 15, none⟩) (by simp) (.int .i64 k)) (by simp; omega)⟩
theorem Yjo (hr : w1.heap[w.heap.size]? = some (.cells Ins.zero.cells 42 (0, 0))) (hu : Upd [] w w1) (hw : w1.setCells w.heap.size 0 i.cells.toList = w2) : w2.heap[w.heap.size]? = some (.cells i.cells 42 (0, 0)) ∧ Upd [] w w2 :=
 Yau hw hr rfl hu (.inr (Nat.le_refl _))
end
theorem rdec_sh (v : Value) (L : List Int) (g : Nat) (w : World) (hv : Yf6 w v L g) (k : Nat) (bd : Bool) (e : Bool) (i : Ins) (hq : Ye2 L ⟨0, false, false⟩ = ⟨i, e, ⟨k, true, bd⟩⟩) :
  Calls Tryz.prog 27 #[v] w fun e w' => e = .returned (.tuple #[(Ins.zero : Ins).val, .int .i64 10]) ∧ Upd [] w w' := by
 obtain ⟨sb, sc, rfl⟩ := hv.b.form
 have H1 := Yh_ hv
 have HQ := Yh_ hq
 clear hv hq
 go_enter Tryz.func27, Tryz.ntmps27
 go_wp2_with (first | (have _t := H1; clear _t; go_at_call 37; refine (Yhe (w.heap.size + 1) g 0 _ L _ (Yl.new H1.out)).mono ?_; rintro e w2 ⟨rfl, h, hu⟩; rw [HQ.out] at h ⊢; have H2 := Yh_ (And.intro h hu); clear h hu H1) | (have _t := H2; clear _t; refine Ye 42 rfl ?_; refine Yb i w2.heap.size rfl _ _ rfl rfl rfl (heap_alloc_new w2 (.cells Ins.zero.cells 42)) rfl ?_; intro w3 hw; have H3 := Yh_ (DeQ.start H2.out.1 H2.out.2 hw); have cs := Ya H3.out.h.h; have ci := Ya H3.out.i; unfold Ins.cells at ci; clear hw H2) | (have _t := H3; clear _t; refine Ye 42 rfl ?_; refine Yb Ins.zero w.heap.size rfl _ _ rfl rfl rfl H3.out.r rfl ?_; intro w5 hw; have H5 := Yh_ (Yjo H3.out.r H3.out.u hw); clear hw H3))
 exact bodyPost_ret (Yg rfl (Yi 2 w.heap.size _ rfl H5.out.1) (Yk 3 rfl)) rfl ⟨rfl, H5.out.2⟩
theorem rdec_bd (v : Value) (L : List Int) (g : Nat) (w : World) (hv : Yf6 w v L g) (k : Nat) (e : Bool) (i : Ins) (hq : Ye2 L ⟨0, false, false⟩ = ⟨i, e, ⟨k, false, true⟩⟩) :
  Calls Tryz.prog 27 #[v] w fun e w' => e = .returned (.tuple #[(Ins.zero : Ins).val, .int .i64 90]) ∧ Upd [] w w' := by
 obtain ⟨sb, sc, rfl⟩ := hv.b.form
 have H1 := Yh_ hv
 have HQ := Yh_ hq
 clear hv hq
 go_enter Tryz.func27, Tryz.ntmps27
 go_wp2_with (first | (have _t := H1; clear _t; go_at_call 37; refine (Yhe (w.heap.size + 1) g 0 _ L _ (Yl.new H1.out)).mono ?_; rintro e w2 ⟨rfl, h, hu⟩; rw [HQ.out] at h ⊢; have H2 := Yh_ (And.intro h hu); clear h hu H1) | (have _t := H2; clear _t; refine Ye 42 rfl ?_; refine Yb i w2.heap.size rfl _ _ rfl rfl rfl (heap_alloc_new w2 (.cells Ins.zero.cells 42)) rfl ?_; intro w3 hw; have H3 := Yh_ (DeQ.start H2.out.1 H2.out.2 hw); have cs := Ya H3.out.h.h; have ci := Ya H3.out.i; unfold Ins.cells at ci; clear hw H2) | (have _t := H3; clear _t; refine Ye 42 rfl ?_; refine Yb Ins.zero w.heap.size rfl _ _ rfl rfl rfl H3.out.r rfl ?_; intro w5 hw; have H5 := Yh_ (Yjo H3.out.r H3.out.u hw); clear hw H3))
 exact bodyPost_ret (Yg rfl (Yi 2 w.heap.size _ rfl H5.out.1) (Yk 3 rfl)) rfl ⟨rfl, H5.out.2⟩
theorem rdec_e (v : Value) (L : List Int) (g : Nat) (w : World) (hv : Yf6 w v L g) (k : Nat) (i : Ins) (hq : Ye2 L ⟨0, false, false⟩ = ⟨i, true, ⟨k, false, false⟩⟩) :
  Calls Tryz.prog 27 #[v] w fun e w' => e = .returned (.tuple #[(Ins.zero : Ins).val, .int .i64 12]) ∧ Upd [] w w' := by
 obtain ⟨sb, sc, rfl⟩ := hv.b.form
 have H1 := Yh_ hv
 have HQ := Yh_ hq
 clear hv hq
 go_enter Tryz.func27, Tryz.ntmps27
 go_wp2_with (first | (have _t := H1; clear _t; go_at_call 37; refine (Yhe (w.heap.size + 1) g 0 _ L _ (Yl.new H1.out)).mono ?_; rintro e w2 ⟨rfl, h, hu⟩; rw [HQ.out] at h ⊢; have H2 := Yh_ (And.intro h hu); clear h hu H1) | (have _t := H2; clear _t; refine Ye 42 rfl ?_; refine Yb i w2.heap.size rfl _ _ rfl rfl rfl (heap_alloc_new w2 (.cells Ins.zero.cells 42)) rfl ?_; intro w3 hw; have H3 := Yh_ (DeQ.start H2.out.1 H2.out.2 hw); have cs := Ya H3.out.h.h; have ci := Ya H3.out.i; unfold Ins.cells at ci; clear hw H2) | (have _t := H3; clear _t; refine Ye 42 rfl ?_; refine Yb Ins.zero w.heap.size rfl _ _ rfl rfl rfl H3.out.r rfl ?_; intro w5 hw; have H5 := Yh_ (Yjo H3.out.r H3.out.u hw); clear hw H3))
 exact bodyPost_ret (Yg rfl (Yi 2 w.heap.size _ rfl H5.out.1) (Yk 3 rfl)) rfl ⟨rfl, H5.out.2⟩
theorem rdec_no (v : Value) (L : List Int) (g : Nat) (w : World) (hv : Yf6 w v L g) (k : Nat) (i : Ins) (hq : Ye2 L ⟨0, false, false⟩ = ⟨i, false, ⟨k, false, false⟩⟩) (hi : isB i = false) :
  Calls Tryz.prog 27 #[v] w fun e w' => e = .returned (.tuple #[(Ins.zero : Ins).val, .int .i64 12]) ∧ Upd [] w w' := by
 obtain ⟨sb, sc, rfl⟩ := hv.b.form
 have H1 := Yh_ hv
 have HQ := Yh_ hq
 have HIs := Yh_ hi
 clear hv hq hi
 go_enter Tryz.func27, Tryz.ntmps27
 go_wp2_with (first | (have _t := H1; clear _t; go_at_call 37; refine (Yhe (w.heap.size + 1) g 0 _ L _ (Yl.new H1.out)).mono ?_; rintro e w2 ⟨rfl, h, hu⟩; rw [HQ.out] at h ⊢; have H2 := Yh_ (And.intro h hu); clear h hu H1) | (have _t := H2; clear _t; refine Ye 42 rfl ?_; refine Yb i w2.heap.size rfl _ _ rfl rfl rfl (heap_alloc_new w2 (.cells Ins.zero.cells 42)) rfl ?_; intro w3 hw; have H3 := Yh_ (DeQ.start H2.out.1 H2.out.2 hw); have cs := Ya H3.out.h.h; have ci := Ya H3.out.i; unfold Ins.cells at ci; clear hw H2) | (have _t := H3; clear _t; go_at_call 38; refine (Yrk i _).mono ?_; rintro e w4 ⟨rfl, hu⟩; rw [HIs.out]; have H4 := Yh_ (H3.out.step hu); clear cs ci; have cs := Ya H4.out.h.h; have ci := Ya H4.out.i; unfold Ins.cells at ci; have fi := Yh H4.out.i; clear hu H3) | (have _t := H4; clear _t; refine Ye 42 rfl ?_; refine Yb Ins.zero w.heap.size rfl _ _ rfl rfl rfl H4.out.r rfl ?_; intro w5 hw; have H5 := Yh_ (Yjo H4.out.r H4.out.u hw); clear hw H4))
 exact bodyPost_ret (Yg rfl (Yi 2 w.heap.size _ rfl H5.out.1) (Yk 3 rfl)) rfl ⟨rfl, H5.out.2⟩
theorem rdec_ok (v : Value) (L : List Int) (g : Nat) (w : World) (hv : Yf6 w v L g) (k : Nat) (i : Ins) (hq : Ye2 L ⟨0, false, false⟩ = ⟨i, false, ⟨k, false, false⟩⟩) (hi : isB i = true) :
  Calls Tryz.prog 27 #[v] w fun e w' => e = .returned (.tuple #[({ i with len := (k : Int) } : Ins).val, .int .i64 0]) ∧ Upd [] w w' := by
 obtain ⟨sb, sc, rfl⟩ := hv.b.form
 have H1 := Yh_ hv
 have HQ := Yh_ hq
 have HIs := Yh_ hi
 clear hv hq hi
 go_enter Tryz.func27, Tryz.ntmps27
 go_wp2_with (first | (have _t := H1; clear _t; go_at_call 37; refine (Yhe (w.heap.size + 1) g 0 _ L _ (Yl.new H1.out)).mono ?_; rintro e w2 ⟨rfl, h, hu⟩; rw [HQ.out] at h ⊢; have H2 := Yh_ (And.intro h hu); clear h hu H1) | (have _t := H2; clear _t; refine Ye 42 rfl ?_; refine Yb i w2.heap.size rfl _ _ rfl rfl rfl (heap_alloc_new w2 (.cells Ins.zero.cells 42)) rfl ?_; intro w3 hw; have H3 := Yh_ (DeQ.start H2.out.1 H2.out.2 hw); have cs := Ya H3.out.h.h; have ci := Ya H3.out.i; unfold Ins.cells at ci; clear hw H2) | (have _t := H3; clear _t; go_at_call 38; refine (Yrk i _).mono ?_; rintro e w4 ⟨rfl, hu⟩; rw [HIs.out]; have H4 := Yh_ (H3.out.step hu); clear cs ci; have cs := Ya H4.out.h.h; have ci := Ya H4.out.i; unfold Ins.cells at ci; have fi := Yh H4.out.i; clear hu H3) | (have _t := H4; clear _t; refine Yb9 42 rfl ?_; refine Ya1 ({ i with len := k } : Ins) w2.heap.size rfl _ rfl rfl (H4.out.len k).1 ?_) | (have _t := H4; clear _t; refine Ye 42 rfl ?_; refine Yb ({ i with len := k } : Ins) w.heap.size rfl _ _ rfl rfl rfl (H4.out.len k).2.1 rfl ?_; intro w5 hw; have H5 := Yh_ (Yjo (H4.out.len k).2.1 (H4.out.len k).2.2 hw); clear hw H4))
 exact bodyPost_ret (Yg rfl (Yi 2 w.heap.size _ rfl H5.out.1) (Yk 3 rfl)) rfl ⟨rfl, H5.out.2⟩
theorem Ygj (v : Value) (L : List Int) (g : Nat) (w : World) (hv : Yf6 w v L g) :
  Calls Tryz.prog 27 #[v] w fun e w' => e = .returned (.tuple #[(refI L).val, .int .i64 (refE L)]) ∧ Upd [] w w' := by
 obtain ⟨⟨i, e, ⟨k, sh, bd⟩⟩, hq⟩ : ∃ q, Ye2 L ⟨0, false, false⟩ = q := ⟨_, rfl⟩
 have hI : refI L = if sh = true ∨ bd = true ∨ e = true ∨ isB i = false then Ins.zero else { i with len := (k : Int) } := by unfold refI; rw [hq]
 have hE : refE L = if sh = true then 10 else if bd = true then 90 else if e = true ∨ isB i = false then 12 else 0 := by unfold refE; rw [hq]
 rw [hI, hE]
 cases sh
 ·cases bd
  ·cases e
   ·cases hi : isB i
    ·simp only [Bool.false_eq_true, false_or, or_true, if_true, if_false]
     exact rdec_no v L g w hv k i hq hi
    ·simp only [Bool.false_eq_true, Bool.true_eq_false, false_or, if_false]
     exact rdec_ok v L g w hv k i hq hi
   ·simp only [Bool.false_eq_true, false_or, true_or, if_true, if_false]
    exact rdec_e v L g w hv k i hq
  ·simp only [Bool.false_eq_true, false_or, true_or, if_true, if_false]
   exact rdec_bd v L g w hv k e i hq
 ·simp only [true_or, if_true]
  exact rdec_sh v L g w hv k bd e i hq
end
theorem Yk0 {o : Opd} {r : Int} (h : o.k = 3) : ¬ o = Yn r := by
 intro e
 rw [e] at h
 exact absurd h (by simp [Yn])
theorem Yoc {a b : Int} (h : Yn a = Yn b) : a = b := congrArg Opd.r h
theorem rel_217 {L : List Int} (hL : BOk L) :
  Rel ((Yz L 1).bind fun x k => if x = 224 then .ok (Yaj 51) k else if x = 225 then .ok (Yaj 52) k else .err 12) (Ybk L 217 (Rd.at 1)) := by
 have hx := Yfg hL (Rd.at 1)
 refine Ydc hL 217 rfl (by decide) _ (fun m k => if m.mod = 3 ∧ m.reg = 4 ∧ m.rm = 0 then .ok (Yaj 51) k else if m.mod = 3 ∧ m.reg = 4 ∧ m.rm = 1 then .ok (Yaj 52) k else .err 12) ?_ (fun m hr h3 hp => ?_) (fun m o k hm hp => ?_)
 ·unfold Yai
  rcases Yev L 1 with ⟨a, b⟩ | ⟨a, b⟩
  ·rw [a, DR.bind_ok, DR.bind_ok, DR.bind_ok]
   obtain ⟨x, hxe⟩ : ∃ x, reB L (Rd.at 1) = x := ⟨_, rfl⟩
   rw [hxe] at hx ⊢
   by_cases h1 : x = 224
   ·subst h1; rfl
   by_cases h2 : x = 225
   ·subst h2; rfl
   have e : ∀ r : Int, r = 0 ∨ r = 1 → ¬ ((Ycm x).mod = 3 ∧ (Ycm x).reg = 4 ∧ (Ycm x).rm = r) := fun r hr h => by
    have h' : x / 64 = 3 ∧ x / 8 % 8 = 4 ∧ x % 8 = r := h
    omega
   rw [if_neg h1, if_neg h2, if_neg (e 0 (.inl rfl)), if_neg (e 1 (.inr rfl))]
  ·rw [a]; rfl
 ·exact .inl ⟨rfl, rfl, by rw [if_neg (fun h => h3 h.1), if_neg (fun h => h3 h.1)]⟩
 ·rw [show Yav L 217 o m.reg (Rd.at k) = if o.eqB (Yn 0) = true ∧ m.reg = 4 then ⟨Yaj 51, false, Rd.at k⟩ else ⟨Yaj 52, !(o.eqB (Yn 1) && m.reg == 4), Rd.at k⟩ from rfl]
  rcases hm.o with ⟨h1, rfl, hr⟩ | ⟨h1, h2, h3⟩
  ·have hk : k = 2 := by
    rw [Ya6, if_pos h1] at hp
    injection hp with _ h
    exact h.symm
   subst hk
   by_cases a : m.rm = 0 ∧ m.reg = 4
   ·rw [if_pos ⟨h1, a.2, a.1⟩, if_pos ⟨by rw [a.1]; exact Opd.eqB_self _, a.2⟩]
    exact Rel.ok rfl rfl
   ·have n1 : ¬ (m.mod = 3 ∧ m.reg = 4 ∧ m.rm = 0) := fun h => a ⟨h.2.2, h.2.1⟩
    have n2 : ¬ ((Yn m.rm).eqB (Yn 0) = true ∧ m.reg = 4) := fun h => a ⟨Yoc ((Opd.eqB_iff _ _).1 h.1), h.2⟩
    rw [if_neg n1, if_neg n2]
    by_cases b : m.rm = 1 ∧ m.reg = 4
    ·rw [if_pos ⟨h1, b.2, b.1⟩, b.1, b.2, Opd.eqB_self]
     exact Rel.ok rfl rfl
    ·have n3 : ¬ (m.mod = 3 ∧ m.reg = 4 ∧ m.rm = 1) := fun h => b ⟨h.2.2, h.2.1⟩
     rw [if_neg n3]
     refine Rel.e12 rfl rfl (.inl ?_)
     have : ((Yn m.rm).eqB (Yn 1) && m.reg == 4) = false := by
      rw [← Bool.not_eq_true, Bool.and_eq_true, Opd.eqB_iff, beq_iff_eq]
      exact fun h => b ⟨Yoc h.1, h.2⟩
     rw [this]; rfl
  ·have n2 : ¬ (o.eqB (Yn 0) = true ∧ m.reg = 4) := fun h => Yk0 h2 ((Opd.eqB_iff _ _).1 h.1)
   rw [if_neg (fun h => h1 h.1), if_neg (fun h => h1 h.1), if_neg n2]
   refine Rel.e12 rfl rfl (.inl ?_)
   have : (o.eqB (Yn 1) && m.reg == 4) = false := by
    rw [← Bool.not_eq_true, Bool.and_eq_true, Opd.eqB_iff]
    exact fun h => Yk0 h2 h.1
   rw [this]; rfl
theorem Yf8 (op : Int) (h : op = 31 ∨ 38 ≤ op ∧ op ≤ 42 ∨ op = 44 ∨ op = 51 ∨ op = 52) : isB (Yaj op) = true := by
 refine Ybt _ _ _ ?_
 rcases h with rfl | h | rfl | rfl | rfl
 ·rfl
 ·have : op = 38 ∨ op = 39 ∨ op = 40 ∨ op = 41 ∨ op = 42 := by omega
  rcases this with rfl | rfl | rfl | rfl | rfl <;> rfl
 ·rfl
 ·rfl
 ·rfl
theorem Yth {L : List Int} (hL : BOk L) (c : Int) (q : RI) (h : Yc1 L c (Rd.at 1) = some q) : Rel (Yde L c 1) q := by
 have hx := Yfg hL (Rd.at 1)
 unfold Yc1 at h
 by_cases e : c = 104
 ·subst e
  rw [if_pos rfl] at h; injection h with h; subst h
  exact Ydv L 1 (fun i => ⟨28, 0, i, Opd.none, false, 0⟩) (fun v => ⟨Ybt _ _ _ (Yfs 28 (by decide) (.inr (Yck v))), rfl⟩)
 rw [if_neg e] at h; clear e
 by_cases e : c = 106
 ·subst e
  rw [if_pos rfl] at h; injection h with h; subst h
  exact Yjb L 1 (fun i => ⟨28, 0, i, Opd.none, false, 0⟩) (fun v => ⟨Ybt _ _ _ (Yfs 28 (by decide) (.inr (Yck v))), rfl⟩)
 rw [if_neg e] at h; clear e
 by_cases e : c = 144
 ·subst e
  rw [if_pos rfl] at h; injection h with h; subst h
  exact Rel.ok (Yf8 44 (by decide)) rfl
 rw [if_neg e] at h; clear e
 by_cases e : c = 153
 ·subst e
  rw [if_pos rfl] at h; injection h with h; subst h
  exact Rel.ok (Yf8 38 (by decide)) rfl
 rw [if_neg e] at h; clear e
 by_cases e : c = 165
 ·subst e
  rw [if_pos rfl] at h; injection h with h; subst h
  exact Rel.ok (Yf8 41 (by decide)) rfl
 rw [if_neg e] at h; clear e
 by_cases e : c = 169
 ·subst e
  rw [if_pos rfl] at h; injection h with h; subst h
  exact Ydv L 1 (fun i => ⟨11, 0, Yn 0, i, false, 0⟩) (fun v => ⟨Ybt _ _ _ (by
   have h1 : rmB (Yn 0) = true := by decide
   simp [Yo, Yck, h1]), rfl⟩)
 rw [if_neg e] at h; clear e
 by_cases e : c = 171
 ·subst e
  rw [if_pos rfl] at h; injection h with h; subst h
  exact Rel.ok (Yf8 42 (by decide)) rfl
 rw [if_neg e] at h; clear e
 by_cases e : c = 195
 ·subst e
  rw [if_pos rfl] at h; injection h with h; subst h
  exact Rel.ok (Yf8 31 (by decide)) rfl
 rw [if_neg e] at h; clear e
 by_cases e : c = 232
 ·subst e
  rw [if_pos rfl] at h; injection h with h; subst h
  exact Ydv L 1 (fun i => ⟨30, 0, i, Opd.none, false, 0⟩) (fun v => ⟨Ybt _ _ _ (Yfs 30 (by decide) (.inr (Yck v))), rfl⟩)
 rw [if_neg e] at h; clear e
 by_cases e : c = 233
 ·subst e
  rw [if_pos rfl] at h; injection h with h; subst h
  exact Ydv L 1 (fun i => ⟨32, 0, i, Opd.none, false, 0⟩) (fun v => ⟨Ybt _ _ _ (Yfs 32 (by decide) (.inr (Yck v))), rfl⟩)
 rw [if_neg e] at h; clear e
 by_cases e : c = 235
 ·subst e
  rw [if_pos rfl] at h; injection h with h; subst h
  exact Yjb L 1 (fun i => ⟨32, 0, i, Opd.none, false, 0⟩) (fun v => ⟨Ybt _ _ _ (Yfs 32 (by decide) (.inr (Yck v))), rfl⟩)
 rw [if_neg e] at h; clear e
 by_cases e : c = 252
 ·subst e
  rw [if_pos rfl] at h; injection h with h; subst h
  exact Rel.ok (Yf8 39 (by decide)) rfl
 rw [if_neg e] at h; clear e
 by_cases e : c = 253
 ·subst e
  rw [if_pos rfl] at h; injection h with h; subst h
  exact Rel.ok (Yf8 40 (by decide)) rfl
 rw [if_neg e] at h; clear e
 by_cases e : c = 205
 ·subst e
  rw [if_pos rfl] at h; injection h with h; subst h
  show Rel ((Ybu L 1).bind fun o k => if o.imm = 128 then .ok ⟨43, 0, o, Opd.none, false, 0⟩ k else .err 12) _
  unfold Ybu
  rcases Yev L 1 with ⟨a, b⟩ | ⟨a, b⟩
  ·rw [a, b, DR.bind_ok, DR.bind_ok]
   have hi : (Yac (reB L (Rd.at 1))).imm = reB L (Rd.at 1) := rfl
   have e : isB ⟨43, 0, Yac (reB L (Rd.at 1)), Opd.none, false, 0⟩ = (reB L (Rd.at 1) == 128) := by
    simp [isB, Yo, Yck, hi, show Yu Opd.none = true from rfl]
   by_cases h8 : reB L (Rd.at 1) = 128
   ·rw [if_pos (by rw [hi]; exact h8)]
    exact Rel.ok (by rw [e]; simp [h8]) rfl
   ·rw [if_neg (by rw [hi]; exact h8)]
    exact Rel.e12 rfl rfl (.inr (by rw [e]; simp [h8]))
  ·rw [a]; exact Rel.e10 b
 rw [if_neg e] at h; clear e
 by_cases e : c = 243
 ·subst e
  rw [if_pos rfl] at h
  show Rel ((Yz L 1).bind fun x k => if x = 165 then .ok ⟨41, 0, Opd.none, Opd.none, true, 0⟩ k else if x = 171 then .ok ⟨42, 0, Opd.none, Opd.none, true, 0⟩ k else .err 12) _
  rcases Yev L 1 with ⟨a, b⟩ | ⟨a, b⟩
  ·rw [a, DR.bind_ok]
   by_cases h1 : reB L (Rd.at 1) = 165
   ·rw [if_pos h1] at h ⊢; injection h with h; subst h
    rw [b]; exact Rel.ok rfl rfl
   rw [if_neg h1] at h ⊢
   by_cases h2 : reB L (Rd.at 1) = 171
   ·rw [if_pos h2] at h ⊢; injection h with h; subst h
    rw [b]; exact Rel.ok rfl rfl
   rw [if_neg h2] at h ⊢; injection h with h; subst h
   rw [b]; exact Rel.e12 rfl rfl (.inr rfl)
  ·rw [a, DR.bind_err]
   refine Rel.e10 ?_
   split at h
   ·injection h with h; subst h; exact b
   split at h
   ·injection h with h; subst h; exact b
   ·injection h with h; subst h; exact b
 rw [if_neg e] at h
 cases h
theorem rel_mods {L : List Int} (hL : BOk L) (c : Int) (hc : 0 ≤ c ∧ c ≤ 255) (h15 : c ≠ 15) (h0 : ¬(c < 64 ∧ (c % 8 = 1 ∨ c % 8 = 3 ∨ c % 8 = 5)) ∧ ¬(64 ≤ c ∧ c < 96) ∧ ¬(112 ≤ c ∧ c < 128) ∧ ¬(176 ≤ c ∧ c < 192)) (hp : Yc1 L c (Rd.at 1) = none) :
  Rel (Yde L c 1) (Ybk L c (Rd.at 1)) := by
 by_cases hm : Yh0.contains c = true
 ·have hm' : c = 129 ∨ c = 131 ∨ c = 133 ∨ c = 135 ∨ c = 136 ∨ c = 137 ∨ c = 138 ∨ c = 139 ∨ c = 141 ∨ c = 193 ∨ c = 198 ∨ c = 199 ∨ c = 209 ∨ c = 211 ∨ c = 217 ∨ c = 220 ∨ c = 221 ∨ c = 247 ∨ c = 255 := by
   simpa [Yh0] using hm
  rcases hm' with rfl | rfl | rfl | rfl | rfl | rfl | rfl | rfl | rfl | rfl | rfl | rfl | rfl | rfl | rfl | rfl | rfl | rfl | rfl
  ·exact rel_129 hL
  ·exact rel_131 hL
  ·exact rel_133 hL
  ·exact rel_135 hL
  ·exact rel_136 hL
  ·exact rel_137 hL
  ·exact rel_138 hL
  ·exact rel_139 hL
  ·exact rel_141 hL
  ·exact Yjg hL 193 (by decide)
  ·exact Yon hL 198 (by decide)
  ·exact Yon hL 199 (by decide)
  ·exact Yjg hL 209 (by decide)
  ·exact Yjg hL 211 (by decide)
  ·exact rel_217 hL
  ·exact rel_220 hL
  ·exact rel_221 hL
  ·exact rel_247 hL
  ·exact rel_255 hL
 ·have hq : Ybk L c (Rd.at 1) = ⟨Ins.zero, true, Rd.at 1⟩ := by
   unfold Ybk
   rw [if_neg h15, if_neg hm]
  rw [hq]
  have hm' : c ≠ 129 ∧ c ≠ 131 ∧ c ≠ 133 ∧ c ≠ 135 ∧ c ≠ 136 ∧ c ≠ 137 ∧ c ≠ 138 ∧ c ≠ 139 ∧ c ≠ 141 ∧ c ≠ 193 ∧ c ≠ 198 ∧ c ≠ 199 ∧ c ≠ 209 ∧ c ≠ 211 ∧ c ≠ 217 ∧ c ≠ 220 ∧ c ≠ 221 ∧ c ≠ 247 ∧ c ≠ 255 := by
   simpa [Yh0] using hm
  have hp' : c ≠ 104 ∧ c ≠ 106 ∧ c ≠ 144 ∧ c ≠ 153 ∧ c ≠ 165 ∧ c ≠ 169 ∧ c ≠ 171 ∧ c ≠ 195 ∧ c ≠ 232 ∧ c ≠ 233 ∧ c ≠ 235 ∧ c ≠ 252 ∧ c ≠ 253 ∧ c ≠ 205 ∧ c ≠ 243 := by
   refine ⟨?_, ?_, ?_, ?_, ?_, ?_, ?_, ?_, ?_, ?_, ?_, ?_, ?_, ?_, ?_⟩ <;> (rintro rfl; revert hp; unfold Yc1; simp)
   split
   ·simp
   split <;> simp
  have he : Yde L c 1 = .err 12 := by
   by_cases h64 : c < 64
   ·unfold Yde
    rw [if_neg h15, if_pos h64]
    unfold Yf4
    rw [if_neg (by omega), if_neg (by omega), if_neg (by omega)]
   ·rw [moves_of L c (by omega)]
    unfold Ya2
    rw [if_neg (by omega), if_neg (by omega), if_neg (by omega), if_neg (by omega), if_neg (by omega), if_neg (by omega), if_neg (by omega), if_neg (by omega), if_neg (by omega), if_neg (by omega), if_neg (by omega), if_neg (by omega), if_neg (by omega)]
    unfold Ycg
    rw [if_neg (by omega), if_neg (by omega), if_neg (by omega), if_neg (by omega), if_neg (by omega), if_neg (by omega), if_neg (by omega), if_neg (by omega), if_neg (by omega), if_neg (by omega)]
    unfold Yb7
    rw [if_neg (by omega), if_neg (by omega), if_neg (by omega), if_neg (by omega), if_neg (by omega), if_neg (by omega), if_neg (by omega)]
  rw [he]
  exact Rel.e12 rfl rfl (.inl rfl)
theorem Yi5 {L : List Int} (hL : BOk L) (k : Nat) (op cond : Int) (hB : ∀ (o : Opd) r, rmB o = true → 0 ≤ r ∧ r < 8 → isB ⟨op, cond, Yn r, o, false, 0⟩ = true) :
  Rel ((Yaz L op true k).bind fun i k => .ok { i with cond := cond } k) ⟨⟨op, cond, Yn (reN L (Rd.at k)), reM L (Rd.at k), false, 0⟩, false, Yab L (Rd.at k)⟩ := by
 unfold Yaz
 rcases Ygb hL k with ⟨m, h1, hm, hl, hn, hr, hmod, hp, ho⟩ | ⟨h1, h2, h3⟩
 ·rw [h1, DR.bind_ok, hn]
  rcases hp with ⟨k2, hp, hs⟩ | ⟨hp, hs, h3⟩
  ·rw [hp, hs]
   exact Rel.ok (hB _ _ (MO.rm ⟨hr, hmod, ho⟩) hr) rfl
  ·rw [hp]
   exact Rel.e10 hs
 ·rw [h1]
  exact Rel.e10 h2
theorem Yr0 {L : List Int} (hL : BOk L) : Rel (Yeh L 1) (Yiz L (Rd.at 1)) := by
 unfold Yeh Yiz
 have hx := Yfg hL (Rd.at 1)
 rcases Yev L 1 with ⟨a, b⟩ | ⟨a, b⟩
 ·rw [a, b, DR.bind_ok]
  obtain ⟨c, hc⟩ : ∃ c, reB L (Rd.at 1) = c := ⟨_, rfl⟩
  rw [hc] at hx ⊢
  dsimp only
  rw [show (1 : Nat) + 1 = 2 from rfl, if_neg (show ¬ (Rd.at 2).sh = true from Bool.false_ne_true)]
  by_cases h11 : c = 11
  ·rw [if_pos h11, if_pos h11]; exact Rel.e90 rfl rfl
  rw [if_neg h11, if_neg h11]
  by_cases h8 : c / 16 = 8
  ·rw [if_neg (by omega), if_pos (show 128 ≤ c ∧ c < 144 by omega), if_pos h8]
   exact Ydv L 2 (fun i => ⟨33, c % 16, i, Opd.none, false, 0⟩) (fun v => ⟨Yi4 33 _ _ _ (by omega) (by decide) (by simp [Yo, Yck, show Yu Opd.none = true from rfl]), rfl⟩)
  rw [if_neg h8]
  by_cases h4 : c / 16 = 4
  ·rw [if_pos (show 64 ≤ c ∧ c < 80 by omega), if_pos h4]
   exact Yi5 hL 2 35 (c % 16) (fun o r h hr => Yi4 35 _ _ _ (by omega) (by decide) (Yk7 35 (by decide) hr h))
  rw [if_neg (by omega), if_neg (by omega), if_neg h4]
  by_cases h9 : c / 16 = 9
  ·rw [if_pos (show 144 ≤ c ∧ c < 160 by omega), if_pos h9]
   rcases Ygb hL 2 with ⟨m, h1, hm, hl, hn, hr, hmod, hp, ho⟩ | ⟨h1, h2, h3⟩
   ·rw [h1, DR.bind_ok, hn]
    have hg : L.getD 2 0 / 8 % 8 = m.reg := by rw [hm]; rfl
    rw [hg]
    rcases hp with ⟨k2, hp, hs⟩ | ⟨hp, hs, h3⟩
    ·have n1 : ¬ ((Rd.at k2).sh = true ∧ 2 < L.length ∧ m.reg ≠ 0) := fun h => Bool.false_ne_true h.1
     rw [hp, hs, if_neg n1]
     by_cases h0 : m.reg = 0
     ·rw [if_neg (by rw [h0]; simp), DR.bind_ok, show (m.reg != 0) = false from by simpa using h0]
      exact Rel.ok (Yi4 34 _ _ _ (by omega) (by decide) (Yjh 34 (by decide) (MO.rm ⟨hr, hmod, ho⟩))) rfl
     ·rw [if_pos (show m.reg ≠ 0 from h0)]
      exact Rel.e12 rfl rfl (.inl (by simpa using h0))
    ·rw [hp]
     by_cases h0 : m.reg = 0
     ·have n1 : ¬ ((Yab L (Rd.at 2)).sh = true ∧ 2 < L.length ∧ m.reg ≠ 0) := fun h => h.2.2 h0
      rw [if_neg (show ¬ m.reg ≠ 0 by rw [h0]; simp), if_neg n1]
      exact Rel.e10 hs
     ·rw [if_pos (show m.reg ≠ 0 from h0), if_pos (show (Yab L (Rd.at 2)).sh = true ∧ 2 < L.length ∧ m.reg ≠ 0 from ⟨hs, hl, h0⟩)]
      exact Rel.e12 rfl (Yiw _ _) (.inl rfl)
   ·have n1 : ¬ ((Yab L (Rd.at 2)).sh = true ∧ 2 < L.length ∧ L.getD 2 0 / 8 % 8 ≠ 0) := fun h => by omega
    rw [h1, DR.bind_err, if_neg n1]
    exact Rel.e10 h2
  rw [if_neg (by omega), if_neg h9]
  have hz : ∀ op, Yaz L op true 2 = (Yaz L op true 2).bind fun i k => .ok { i with cond := 0 } k := fun op => by
   unfold Yaz
   rcases Ygb hL 2 with ⟨m, h1, hm, hl, hn, hr, hmod, hp, ho⟩ | ⟨h1, h2, h3⟩
   ·rw [h1, DR.bind_ok]
    rcases hp with ⟨k2, hp, hs⟩ | ⟨hp, hs, h3⟩ <;> rw [hp] <;> rfl
   ·rw [h1]; rfl
  by_cases h1 : c = 175
  ·rw [if_pos h1, if_pos h1, hz]
   exact Yi5 hL 2 18 0 (fun o r h hr => Ybt _ _ _ (Yk7 18 (by decide) hr h))
  rw [if_neg h1, if_neg h1]
  by_cases h1 : c = 182
  ·rw [if_pos h1, if_pos h1, hz]
   exact Yi5 hL 2 36 0 (fun o r h hr => Ybt _ _ _ (Yk7 36 (by decide) hr h))
  rw [if_neg h1, if_neg h1]
  by_cases h1 : c = 190
  ·rw [if_pos h1, if_pos h1, hz]
   exact Yi5 hL 2 37 0 (fun o r h hr => Ybt _ _ _ (Yk7 37 (by decide) hr h))
  rw [if_neg h1, if_neg h1]
  exact Rel.e12 rfl rfl (.inl rfl)
 ·rw [a, DR.bind_err, if_pos b]
  exact Rel.e10 b
theorem Yuc {L : List Int} (hL : BOk L) (c : Int) (hc : 0 ≤ c ∧ c < 64) (hk : c % 8 = 1 ∨ c % 8 = 3 ∨ c % 8 = 5) : Rel (Yf4 L c 1) (Ydx L (Yag (c / 8)) (c % 8) (Rd.at 1)) := by
 have h8 := Ykm (c / 8) (by omega)
 unfold Yf4 Ydx
 rcases hk with h | h | h
 ·rw [if_pos h, if_neg (by omega), if_pos h, Yaz]
  rcases Ygb hL 1 with ⟨m, h1, hm, hl, hn, hr, hmod, hp, ho⟩ | ⟨h1, h2, h3⟩
  ·rw [h1, DR.bind_ok, hn]
   rcases hp with ⟨k2, hp, hs⟩ | ⟨hp, hs, h3⟩
   ·rw [hp, hs]
    exact Rel.ok (Ybt _ _ _ (Yrj _ h8 (MO.rm ⟨hr, hmod, ho⟩) hr)) rfl
   ·rw [hp]; exact Rel.e10 hs
  ·rw [h1]; exact Rel.e10 h2
 ·rw [if_neg (by omega), if_pos h, if_neg (by omega), if_neg (by omega), Yaz]
  rcases Ygb hL 1 with ⟨m, h1, hm, hl, hn, hr, hmod, hp, ho⟩ | ⟨h1, h2, h3⟩
  ·rw [h1, DR.bind_ok, hn]
   rcases hp with ⟨k2, hp, hs⟩ | ⟨hp, hs, h3⟩
   ·rw [hp, hs]
    exact Rel.ok (Ybt _ _ _ (Yq4 _ h8 (MO.rm ⟨hr, hmod, ho⟩) hr)) rfl
   ·rw [hp]; exact Rel.e10 hs
  ·rw [h1]; exact Rel.e10 h2
 ·rw [if_neg (by omega), if_neg (by omega), if_pos h, if_pos h]
  exact Ydv L 1 (fun i => ⟨Yag (c / 8), 0, Yn 0, i, false, 0⟩) (fun v => ⟨Ybt _ _ _ (Yjk _ h8 v (by decide)), rfl⟩)
theorem rel_insn {L : List Int} (hL : BOk L) : Rel (Ydh L 0) (Ye2 L (Rd.at 0)) := by
 unfold Ydh Ye2
 have hx := Yfg hL (Rd.at 0)
 rcases Yev L 0 with ⟨a, b⟩ | ⟨a, b⟩
 ·rw [a, b, DR.bind_ok]
  obtain ⟨c, hc⟩ : ∃ c, reB L (Rd.at 0) = c := ⟨_, rfl⟩
  rw [hc] at hx ⊢
  dsimp only
  rw [show 0 + 1 = 1 from rfl, if_neg (show ¬ (Rd.at 1).sh = true from Bool.false_ne_true)]
  by_cases h1 : c < 64 ∧ (c % 8 = 1 ∨ c % 8 = 3 ∨ c % 8 = 5)
  ·rw [if_pos h1]
   have : Yde L c 1 = Yf4 L c 1 := by unfold Yde; rw [if_neg (by omega), if_pos h1.1]
   rw [this]
   exact Yuc hL c ⟨hx.1, h1.1⟩ h1.2
  rw [if_neg h1]
  have hreg : ∀ op, (12 ≤ op ∧ op ≤ 17 ∨ op = 19 ∨ op = 20 ∨ op = 34) ∨ (op = 28 ∨ op = 30 ∨ op = 32) ∨ op = 29 → isB ⟨op, 0, Yn (c % 8), Opd.none, false, 0⟩ = true := fun op h => by
   rcases h with h | h | h
   ·exact Ybt _ _ _ (Yjh op h (Yk6 _ (by omega)))
   ·exact Ybt _ _ _ (Yfs op h (.inl (Yk6 _ (by omega))))
   ·subst h
    exact Ybt _ _ _ (by simp [Yo, Yc5 (c % 8) (by omega), show Yu Opd.none = true from rfl])
  by_cases h2 : 64 ≤ c ∧ c < 72
  ·rw [if_pos h2, Yde, if_neg (by omega), if_neg (by omega), if_pos h2.2]
   exact Rel.ok (hreg 12 (by decide)) rfl
  rw [if_neg h2]
  by_cases h3 : 72 ≤ c ∧ c < 80
  ·rw [if_pos h3, Yde, if_neg (by omega), if_neg (by omega), if_neg (by omega), if_pos h3.2]
   exact Rel.ok (hreg 13 (by decide)) rfl
  rw [if_neg h3]
  by_cases h4 : 80 ≤ c ∧ c < 88
  ·rw [if_pos h4, Yde, if_neg (by omega), if_neg (by omega), if_neg (by omega), if_neg (by omega), if_pos h4.2]
   exact Rel.ok (hreg 28 (by decide)) rfl
  rw [if_neg h4]
  by_cases h5 : 88 ≤ c ∧ c < 96
  ·rw [if_pos h5, Yde, if_neg (by omega), if_neg (by omega), if_neg (by omega), if_neg (by omega), if_neg (by omega), if_pos h5.2]
   exact Rel.ok (hreg 29 (by decide)) rfl
  rw [if_neg h5]
  by_cases h6 : 112 ≤ c ∧ c < 128
  ·rw [if_pos h6, Yde, if_neg (by omega), if_neg (by omega), if_neg (by omega), if_neg (by omega), if_neg (by omega), if_neg (by omega), if_pos h6]
   exact Yjb L 1 (fun i => ⟨33, c % 16, i, Opd.none, false, 0⟩) (fun v => ⟨Yi4 33 _ _ _ (by omega) (by decide) (by simp [Yo, Yck, show Yu Opd.none = true from rfl]), rfl⟩)
  rw [if_neg h6]
  by_cases h7 : 176 ≤ c ∧ c < 184
  ·rw [if_pos h7, Yde, if_neg (by omega), if_neg (by omega), if_neg (by omega), if_neg (by omega), if_neg (by omega), if_neg (by omega), if_neg (by omega), if_pos h7]
   exact Yjm hL 1 (fun i => ⟨2, 0, Yn (c % 8), i, false, 0⟩) (fun v hv => ⟨Ybt _ _ _ (by
    have h2 : v < 256 := hv.2
    have hi : (Yac v).imm = v := rfl
    simp [Yo, Yk6 (c % 8) (by omega), Yca, Yck, hi, h2]), rfl⟩)
  rw [if_neg h7]
  by_cases h8 : 184 ≤ c ∧ c < 192
  ·rw [if_pos h8, Yde, if_neg (by omega), if_neg (by omega), if_neg (by omega), if_neg (by omega), if_neg (by omega), if_neg (by omega), if_neg (by omega), if_neg (by omega), if_pos h8]
   exact Ydv L 1 (fun i => ⟨1, 0, Yn (c % 8), i, false, 0⟩) (fun v => ⟨Ybt _ _ _ (Yjk 1 (.inl rfl) v (Yk6 _ (by omega))), rfl⟩)
  rw [if_neg h8]
  cases hp : Yc1 L c (Rd.at 1) with
  |some q => exact Yth hL c q hp
  |none =>
   dsimp only
   by_cases h15 : c = 15
   ·subst h15
    exact Yr0 hL
   ·exact rel_mods hL c hx h15 ⟨h1, by omega, h6, by omega⟩ hp
 ·rw [a, DR.bind_err]
  dsimp only
  rw [if_pos b]
  exact Rel.e10 b
theorem Yem {L : List Int} (hL : BOk L) : refI L = Ygr L ∧ refE L = Ycv L ∧ Ygs L = (Ygr L).len := by
 have h := rel_insn hL
 unfold refI refE Ygr Ycv Ygs
 rw [show (⟨0, false, false⟩ : Rd) = Rd.at 0 from rfl]
 cases hd : Ydh L 0 with
 |ok i k =>
  rw [hd] at h
  obtain ⟨h1, h2, h3⟩ := h
  rw [h1]
  dsimp only
  simp [Rd.at, h2]
 |err c =>
  rw [hd] at h
  dsimp only
  rcases h with ⟨rfl, h⟩ | ⟨rfl, h, h1⟩ | ⟨rfl, h, h1, h2⟩
  ·simp [h, Ins.zero]
  ·simp [h, h1, Ins.zero]
  ·simp [h, h1, h2, Ins.zero]
theorem Upd.drewN {S : List Nat} {a b : World} (h : Upd S a b) (n : Nat) : Upd S a (b.drewN n) := ⟨h.os, h.tape, h.output, h.size, h.block⟩
def Mem.rat (M : Mem) (k : Nat) : Value := if k < 64 then .int .i64 (M.R k) else .int .u8 (M.B (k - 64))
structure Yhy (C : Array Value) (M : Mem) : Prop where
 size : C.size = 16448
 get : ∀ k, k < 16448 → C[k]? = some (M.rat k)
structure Ybh (w : World) (r : Nat) (M : Mem) : Prop where
 ex : ∃ C, Yhy C M ∧ w.heap[r]? = some (.cells C 58 (0, 0))
 ok : M.Ok
theorem Ybh.lt {w : World} {r : Nat} {M : Mem} (h : Ybh w r M) : r < w.heap.size := by
 obtain ⟨C, _, h1⟩ := h.ex; exact Yv h1
theorem Ybh.keep {w w' : World} {r : Nat} {M : Mem} {S : List Nat} (h : Ybh w r M) (u : Upd S w w') (hr : r ∉ S) : Ybh w' r M := by
 obtain ⟨C, h1, h2⟩ := h.ex
 exact ⟨⟨C, h1, u.get h2 hr⟩, h.ok⟩
theorem Ybh.cR {w : World} {r : Nat} {M : Mem} (h : Ybh w r M) (p : Nat) (hp : p < 64) : w.cell? ⟨r, p, none⟩ = some (.int .i64 (M.R p)) := by
 obtain ⟨C, h1, h2⟩ := h.ex
 rw [Ya h2, h1.get p (by omega), Mem.rat, if_pos hp]
theorem Ybh.cB {w : World} {r : Nat} {M : Mem} (h : Ybh w r M) (a : Nat) (ha : a < 16384) : w.cell? ⟨r, 64 + a, none⟩ = some (.int .u8 (M.B a)) := by
 obtain ⟨C, h1, h2⟩ := h.ex
 rw [Ya h2, h1.get _ (by omega), Mem.rat, if_neg (by omega), Nat.add_sub_cancel_left]
theorem Ybh.free {w : World} {r : Nat} {M : Mem} (h : Ybh w r M) (o : Nat) : w.frozen? ⟨r, o, none⟩ = false := by
 obtain ⟨C, h1, h2⟩ := h.ex
 exact Yh h2 o
theorem Ybh.setR {w : World} {r : Nat} {M : Mem} (h : Ybh w r M) (p : Nat) (v : Int) (hp : p < 64) (h0 : 0 ≤ v) (h7 : v ≤ 7) : Ybh (w.setCell ⟨r, p, none⟩ (.int .i64 v)) r (M.setR p v) := by
 obtain ⟨C, h1, h2⟩ := h.ex
 refine ⟨⟨_, ⟨by rw [Array.size_setIfInBounds]; exact h1.size, fun k hk => ?_⟩, Ys h2 p _⟩, Mem.setR_ok h.ok p h0 h7⟩
 rw [Array.getElem?_setIfInBounds, h1.get k hk, h1.size]
 by_cases e : p = k
 ·subst e
  rw [if_pos rfl, if_pos (by omega), Mem.rat, if_pos hp]
  simp [Mem.setR]
 ·rw [if_neg e]
  simp only [Mem.rat, Mem.setR]
  by_cases hk2 : k < 64
  ·rw [if_pos hk2, if_pos hk2, if_neg (fun h => e h.symm)]
  ·rw [if_neg hk2, if_neg hk2]
theorem Ybh.setB {w : World} {r : Nat} {M : Mem} (h : Ybh w r M) (a : Nat) (v : Int) (ha : a < 16384) (h0 : 0 ≤ v) (h7 : v ≤ 255) : Ybh (w.setCell ⟨r, 64 + a, none⟩ (.int .u8 v)) r (M.setB a v) := by
 obtain ⟨C, h1, h2⟩ := h.ex
 refine ⟨⟨_, ⟨by rw [Array.size_setIfInBounds]; exact h1.size, fun k hk => ?_⟩, Ys h2 _ _⟩, Mem.setB_ok h.ok a h0 h7⟩
 rw [Array.getElem?_setIfInBounds, h1.get k hk, h1.size]
 by_cases e : 64 + a = k
 ·subst e
  rw [if_pos rfl, if_pos (by omega), Mem.rat, if_neg (by omega), Nat.add_sub_cancel_left]
  simp [Mem.setB]
 ·rw [if_neg e]
  simp only [Mem.rat, Mem.setB]
  by_cases hk2 : k < 64
  ·rw [if_pos hk2, if_pos hk2]
  ·rw [if_neg hk2, if_neg hk2, if_neg (by omega)]
theorem Yhg (p n : Int) (w : World) (hn : -9223372036854775808 ≤ n) (hn2 : n ≤ 9223372036854775807) :
  Calls Tryz.prog 44 #[.int .i64 p, .int .i64 n] w fun e w' => e = .returned (.bool (Yfb p n)) ∧ w = w' := by
 by_cases h1 : 0 ≤ p
 ·by_cases h2 : p < 64
  ·by_cases h3 : 0 < n
   ·by_cases h4 : n ≤ 64 - p
    ·have HV := Yh_ (show Yfb p n = true from (Ydy p n).2 (by omega))
     go_enter Tryz.func44, Tryz.ntmps44
     go_wp2
     go_ret
     exact ⟨by rw [HV.out]; rfl, rfl⟩
    ·have HV := Yh_ (show Yfb p n = false by rw [← Bool.not_eq_true, Ydy]; omega)
     have h4' : 64 - p < n := by omega
     go_enter Tryz.func44, Tryz.ntmps44
     go_wp2
     go_ret
     exact ⟨by rw [HV.out]; rfl, rfl⟩
   ·have HV := Yh_ (show Yfb p n = false by rw [← Bool.not_eq_true, Ydy]; omega)
    have h3' : n ≤ 0 := by omega
    go_enter Tryz.func44, Tryz.ntmps44
    go_wp2
    go_ret
    exact ⟨by rw [HV.out]; rfl, rfl⟩
  ·have HV := Yh_ (show Yfb p n = false by rw [← Bool.not_eq_true, Ydy]; omega)
   have h2' : 64 ≤ p := by omega
   go_enter Tryz.func44, Tryz.ntmps44
   go_wp2
   go_ret
   exact ⟨by rw [HV.out]; rfl, rfl⟩
 ·have HV := Yh_ (show Yfb p n = false by rw [← Bool.not_eq_true, Ydy]; omega)
  have h1' : p < 0 := by omega
  go_enter Tryz.func44, Tryz.ntmps44
  go_wp2
  go_ret
  exact ⟨by rw [HV.out]; rfl, rfl⟩
def Mem.allR (M : Mem) (p q : Nat) : Bool := (List.range (q - p)).all fun i => M.R (p + i) != 0
def Mem.anyR (M : Mem) (p q : Nat) : Bool := (List.range (q - p)).any fun i => M.R (p + i) != 0
theorem Yt3 (M : Mem) (p q : Nat) (h : p ≤ q) : M.allR p (q + 1) = (M.allR p q && (M.R q != 0)) := by
 have e : q + 1 - p = (q - p) + 1 := by omega
 have e2 : p + (q - p) = q := by omega
 simp [Mem.allR, e, List.range_succ, e2]
theorem Yus (M : Mem) (p q : Nat) (h : p ≤ q) : M.anyR p (q + 1) = (M.anyR p q || (M.R q != 0)) := by
 have e : q + 1 - p = (q - p) + 1 := by omega
 have e2 : p + (q - p) = q := by omega
 simp [Mem.anyR, e, List.range_succ, e2]
theorem Yk8 (M : Mem) (r p k : Nat) (w : World) (hM : Ybh w r M) (h : p + k ≤ 64) :
  Calls Tryz.prog 45 #[.pointer (some ⟨r, 0, none⟩), .int .i64 p, .int .i64 k] w fun e w' => e = .returned (.tuple #[.bool (M.allR p (p + k)), .bool (M.anyR p (p + k))]) ∧ Upd [] w w' := by
 have hmo : Tryz.prog.follows .mixedOrders = true := by kernel_rfl
 have HM := Yh_ hM
 clear hM
 go_enter Tryz.func45, Tryz.ntmps45
 go_wp2_with fail
 go_loopw [8, 9, 10] (fun a b i wr => ∃ q : Nat, p ≤ q ∧ q ≤ p + k ∧ i = .int .i64 q ∧ a = .bool (M.allR p q) ∧ b = .bool (M.anyR p q) ∧ Upd [] w wr) (fun _ _ i _ => p + k - (intOf i).toNat)
 case atStart => exact ⟨p, Nat.le_refl _, by omega, rfl, by simp [Mem.allR], by simp [Mem.anyR], Upd.refl _ _⟩
 case round =>
  obtain ⟨q, hq0, hq, rfl, rfl, rfl, hU⟩ := hrel
  have hcR := (HM.out.keep hU (by simp)).cR q
  have HU := Yh_ hU
  clear hU
  by_cases hlt : q < p + k
  ·have hA := Yt3 M p q hq0
   have hE := Yus M p q hq0
   have hcR := hcR (by omega)
   have h64 : q < 64 := by omega
   have hlt' : (q : Int) < p + k := by omega
   cases ha : M.allR p q <;> cases hb : M.anyR p q
   all_goals
    rw [ha] at hA
    rw [hb] at hE
    have HAE := Yh_ (And.intro hA hE)
    clear hA hE ha hb
    go_wp2_with fail
    go_quiet (fail)
    go_wp2_with fail
    go_roundw
    case rel => exact ⟨q + 1, by omega, by omega, by go_num, by rw [HAE.out.1]; rfl, by rw [HAE.out.2]; rfl, HU.out.drewN _⟩
    case measure => simp [intOf]; omega
  ·have e : q = p + k := by omega
   subst e
   clear hcR
   go_wp2_with fail
   go_ret2
   exact ⟨rfl, HU.out⟩
def Mem.setTo (M : Mem) (p q : Nat) (r : Int) (fr : Bool) : Mem :=
 ⟨fun i => if p ≤ i ∧ i < q then r else M.R i, fun x => if fr = true ∧ p ≤ x / 256 ∧ x / 256 < q then 0 else M.B x⟩
def Mem.clr (M : Mem) (q j : Nat) : Mem := ⟨M.R, fun x => if q * 256 ≤ x ∧ x < q * 256 + j then 0 else M.B x⟩
theorem Mem.setTo_self (M : Mem) (p : Nat) (r : Int) (fr : Bool) : M.setTo p p r fr = M := by
 apply Mem.ext'
 ·funext i; simp only [Mem.setTo]; rw [if_neg (by omega)]
 ·funext x; simp only [Mem.setTo]; rw [if_neg (by omega)]
theorem Mem.clr_zero (M : Mem) (q : Nat) : M.clr q 0 = M := by
 apply Mem.ext'
 ·rfl
 ·funext x; simp only [Mem.clr]; rw [if_neg (by omega)]
theorem Mem.clr_succ (M : Mem) (q j : Nat) : (M.clr q j).setB (q * 256 + j) 0 = M.clr q (j + 1) := by
 apply Mem.ext'
 ·rfl
 ·funext x
  simp only [Mem.clr, Mem.setB]
  by_cases e : x = q * 256 + j
  ·rw [if_pos e, if_pos (by omega)]
  ·rw [if_neg e]
   by_cases h : q * 256 ≤ x ∧ x < q * 256 + j
   ·rw [if_pos h, if_pos (by omega)]
   ·rw [if_neg h, if_neg (by omega)]
theorem Mem.setTo_fresh (M : Mem) (p q : Nat) (r : Int) (h : p ≤ q) : ((M.setTo p q r true).setR q r).clr q 256 = M.setTo p (q + 1) r true := by
 apply Mem.ext'
 ·funext i
  simp only [Mem.setTo, Mem.setR, Mem.clr]
  by_cases e : i = q
  ·rw [if_pos e, if_pos (by omega)]
  ·rw [if_neg e]
   by_cases h : p ≤ i ∧ i < q
   ·rw [if_pos h, if_pos (by omega)]
   ·rw [if_neg h, if_neg (by omega)]
 ·funext x
  simp only [Mem.setTo, Mem.setR, Mem.clr, true_and]
  by_cases e : q * 256 ≤ x ∧ x < q * 256 + 256
  ·rw [if_pos e, if_pos (by omega)]
  ·rw [if_neg e]
   by_cases h : p ≤ x / 256 ∧ x / 256 < q
   ·rw [if_pos h, if_pos (by omega)]
   ·rw [if_neg h, if_neg (by omega)]
theorem Mem.setTo_stale (M : Mem) (p q : Nat) (r : Int) (h : p ≤ q) : (M.setTo p q r false).setR q r = M.setTo p (q + 1) r false := by
 apply Mem.ext'
 ·funext i
  simp only [Mem.setTo, Mem.setR]
  by_cases e : i = q
  ·rw [if_pos e, if_pos (by omega)]
  ·rw [if_neg e]
   by_cases h : p ≤ i ∧ i < q
   ·rw [if_pos h, if_pos (by omega)]
   ·rw [if_neg h, if_neg (by omega)]
 ·funext x
  simp [Mem.setTo, Mem.setR]
theorem Mem.setTo_map (M : Mem) (p k : Nat) (r : Int) : M.setTo p (p + k) r true = M.mapN p k r := by
 apply Mem.ext' <;> (funext x; simp [Mem.setTo, Mem.mapN])
theorem set_ref (M : Mem) (r p k : Nat) (v : Int) (fr : Bool) (w : World) (hM : Ybh w r M) (h : p + k ≤ 64) (h0 : 0 ≤ v) (h7 : v ≤ 7) :
  Calls Tryz.prog 46 #[.pointer (some ⟨r, 0, none⟩), .int .i64 p, .int .i64 k, .int .i64 v, .bool fr] w fun e w' => e = .returned (.tuple #[]) ∧ Ybh w' r (M.setTo p (p + k) v fr) ∧ Upd [r] w w' := by
 have HM := Yh_ hM
 clear hM
 go_enter Tryz.func46, Tryz.ntmps46
 go_wp2_with fail
 go_loopw [10, 11] (fun i _ wr => ∃ q : Nat, p ≤ q ∧ q ≤ p + k ∧ i = .int .i64 q ∧ Ybh wr r (M.setTo p q v fr) ∧ Upd [r] w wr) (fun i _ _ => p + k - (intOf i).toNat)
 case atStart => exact ⟨p, Nat.le_refl _, by omega, rfl, by rw [Mem.setTo_self]; exact HM.out, Upd.refl _ _⟩
 case round =>
  obtain ⟨q, hq0, hq, rfl, hR, hU⟩ := hrel
  by_cases hlt : q < p + k
  ·have hcR := hR.cR q (by omega)
   have hfR := hR.free q
   have hlt' : (q : Int) < p + k := by omega
   have h64 : q < 64 := by omega
   have HR := Yh_ hR
   have HU := Yh_ hU
   clear hR hU
   cases fr
   ·go_wp2_with fail
    go_loopw [11] (fun i wr2 => i = .int .i64 0 ∧ Ybh wr2 r (M.setTo p (q + 1) v false) ∧ Upd [r] w wr2) (fun _ _ => 0)
    case atStart => exact ⟨rfl, by rw [← Mem.setTo_stale _ _ _ _ hq0]; exact HR.out.setR q v h64 h0 h7, HU.out.setCell (by simp) _⟩
    case round =>
     obtain ⟨rfl, hR2, hU2⟩ := hrel
     have HR2 := Yh_ hR2
     have HU2 := Yh_ hU2
     clear hR2 hU2
     go_wp2_with fail
     go_roundw
     case rel => exact ⟨q + 1, by omega, by omega, by go_num, HR2.out, HU2.out⟩
     case measure => simp [intOf]; omega
   ·go_wp2_with fail
    go_loopw [11] (fun i wr2 => ∃ j : Nat, j ≤ 256 ∧ i = .int .i64 j ∧ Ybh wr2 r (((M.setTo p q v true).setR q v).clr q j) ∧ Upd [r] w wr2) (fun i _ => 256 - (intOf i).toNat)
    case atStart => exact ⟨0, by omega, rfl, by rw [Mem.clr_zero]; exact HR.out.setR q v h64 h0 h7, HU.out.setCell (by simp) _⟩
    case round =>
     obtain ⟨j, hj, rfl, hR2, hU2⟩ := hrel
     by_cases hjl : j < 256
     ·have hcB := hR2.cB (q * 256 + j) (by omega)
      have hfB := hR2.free (64 + (q * 256 + j))
      have HR2 := Yh_ hR2
      have HU2 := Yh_ hU2
      clear hR2 hU2
      go_wp2_with fail
      go_roundw
      case rel => exact ⟨j + 1, by omega, by go_num, by rw [← Mem.clr_succ]; exact HR2.out.setB (q * 256 + j) 0 (by omega) (by omega) (by omega), HU2.out.setCell (by simp) _⟩
      case measure => simp [intOf]; omega
     ·have e : j = 256 := by omega
      subst e
      have HR2 := Yh_ hR2
      have HU2 := Yh_ hU2
      clear hR2 hU2
      go_wp2_with fail
      go_roundw
      case rel => exact ⟨q + 1, by omega, by omega, by go_num, by rw [← Mem.setTo_fresh _ _ _ _ hq0]; exact HR2.out, HU2.out⟩
      case measure => simp [intOf]; omega
  ·have e : q = p + k := by omega
   subst e
   have HR := Yh_ hR
   have HU := Yh_ hU
   clear hR hU
   go_wp2_with fail
   go_end0
   exact ⟨rfl, HR.out, HU.out⟩
theorem Ymk (M : Mem) (p k : Nat) (h : Yfb p k = true) : M.all p k false = !M.anyR p (p + k) := by
 have e : p + k - p = k := by omega
 simp [Mem.all, h, Mem.anyR, Mem.odd, e]
 
theorem all_no {M : Mem} {p n : Int} {b : Bool} (h : Yfb p n = false) : M.all p n b = false := by rw [Mem.all, h, Bool.false_and]
def Mem.mapM (M : Mem) (p n r : Int) : Mem := if M.mapB p n r then M.mapN p.toNat n.toNat r else M
theorem Yli (M : Mem) (r : Nat) (p n v : Int) (w : World) (hM : Ybh w r M) (hn : -9223372036854775808 ≤ n) (hn2 : n ≤ 9223372036854775807) :
  Calls Tryz.prog 33 #[.pointer (some ⟨r, 0, none⟩), .int .i64 p, .int .i64 n, .int .i64 v] w fun e w' => e = .returned (.int .i64 (errI (M.mapB p n v) 61)) ∧ Ybh w' r (M.mapM p n v) ∧ Upd [r] w w' := by
 by_cases hrow : Yfb p n = true
 ·obtain ⟨g1, g2, g3, g4⟩ := (Ydy p n).1 hrow
  obtain ⟨p, rfl⟩ := Int.eq_ofNat_of_zero_le g1
  obtain ⟨k, rfl⟩ := Int.eq_ofNat_of_zero_le (show 0 ≤ n by omega)
  by_cases h1 : v < 1
  ·have HB := Yh_ (show M.mapB p k v = false by rw [Mem.mapB, show Ye6 v = false from by rw [← Bool.not_eq_true, Yf1]; omega, Bool.false_and])
   have HW := Yh_ hrow
   have HM := Yh_ hM
   clear hrow hM
   go_enter Tryz.func33, Tryz.ntmps33
   go_wp2_with (go_at_call 44; refine (Yhg p k _ hn hn2).mono ?_; rintro e w' ⟨rfl, rfl⟩; rw [HW.out])
   go_ret
   exact ⟨by rw [HB.out]; rfl, by rw [Mem.mapM, HB.out]; exact HM.out, Upd.refl _ _⟩
  ·by_cases h7 : 7 < v
   ·have HB := Yh_ (show M.mapB p k v = false by rw [Mem.mapB, show Ye6 v = false from by rw [← Bool.not_eq_true, Yf1]; omega, Bool.false_and])
    have HW := Yh_ hrow
    have HM := Yh_ hM
    clear hrow hM
    go_enter Tryz.func33, Tryz.ntmps33
    go_wp2_with (go_at_call 44; refine (Yhg p k _ hn hn2).mono ?_; rintro e w' ⟨rfl, rfl⟩; rw [HW.out])
    go_ret
    exact ⟨by rw [HB.out]; rfl, by rw [Mem.mapM, HB.out]; exact HM.out, Upd.refl _ _⟩
   ·have hall := Ymk M p k hrow
    have hr : Ye6 v = true := (Yf1 v).2 (by omega)
    have hv0 : 0 ≤ v := by omega
    have hv7 : v ≤ 7 := by omega
    cases ha : M.anyR p (p + k)
    ·have HB := Yh_ (show M.mapB p k v = true by rw [Mem.mapB, hr, hall, ha]; rfl)
     have HW := Yh_ hrow
     have HM := Yh_ hM
     have HA := Yh_ ha
     clear hrow hM hall hr ha
     go_enter Tryz.func33, Tryz.ntmps33
     go_wp2_with (first | (go_at_call 44; refine (Yhg p k _ hn hn2).mono ?_; rintro e w' ⟨rfl, rfl⟩; rw [HW.out]) | (go_at_call 45; refine (Yk8 M r p k _ HM.out (by omega)).mono ?_; rintro e w1 ⟨rfl, hU⟩; rw [HA.out]; have HM1 := Yh_ (HM.out.keep hU (by simp)); have HU := Yh_ hU; clear hU) | (go_at_call 46; refine (set_ref M r p k v true _ HM1.out (by omega) hv0 hv7).mono ?_; rintro e w2 ⟨rfl, hM2, hU2⟩; have HM2 := Yh_ hM2; have HU2 := Yh_ hU2; clear hM2 hU2))
     go_ret
     exact ⟨by rw [HB.out]; rfl, by rw [Mem.mapM, HB.out, if_pos rfl, ← Mem.setTo_map]; exact HM2.out, (HU.out.mono (T := [r]) (by simp)).also HU2.out (fun _ h => .inl h)⟩
    ·have HB := Yh_ (show M.mapB p k v = false by rw [Mem.mapB, hr, hall, ha]; rfl)
     have HW := Yh_ hrow
     have HM := Yh_ hM
     have HA := Yh_ ha
     clear hrow hM hall hr ha
     go_enter Tryz.func33, Tryz.ntmps33
     go_wp2_with (first | (go_at_call 44; refine (Yhg p k _ hn hn2).mono ?_; rintro e w' ⟨rfl, rfl⟩; rw [HW.out]) | (go_at_call 45; refine (Yk8 M r p k _ HM.out (by omega)).mono ?_; rintro e w1 ⟨rfl, hU⟩; rw [HA.out]; have HM1 := Yh_ (HM.out.keep hU (by simp)); have HU := Yh_ hU; clear hU))
     go_ret
     exact ⟨by rw [HB.out]; rfl, by rw [Mem.mapM, HB.out]; exact HM1.out, HU.out.mono (by simp)⟩
 ·have hrow' : Yfb p n = false := by simpa using hrow
  have HB := Yh_ (show M.mapB p n v = false by rw [Mem.mapB, all_no hrow', Bool.and_false])
  have HW := Yh_ hrow'
  have HM := Yh_ hM
  clear hrow hM hrow'
  go_enter Tryz.func33, Tryz.ntmps33
  go_wp2_with (go_at_call 44; refine (Yhg p n _ hn hn2).mono ?_; rintro e w' ⟨rfl, rfl⟩; rw [HW.out])
  go_ret
  exact ⟨by rw [HB.out]; rfl, by rw [Mem.mapM, HB.out]; exact HM.out, Upd.refl _ _⟩
theorem Yl9 (M : Mem) (r : Nat) (x : Int) (w : World) (hM : Ybh w r M) (h0 : 0 ≤ x) :
  Calls Tryz.prog 26 #[.pointer (some ⟨r, 0, none⟩), .int .u32 x] w fun e w' => e = .returned (.int .i64 (M.rightAt x)) ∧ w = w' := by
 by_cases h : x < 16384
 ·have hc := hM.cR (x / 256).toNat (by omega)
  have HV := Yh_ (show M.rightAt x = M.R (x / 256).toNat by rw [Mem.rightAt, if_pos h])
  have HM := Yh_ hM
  have q1 : 0 ≤ x / 256 := by omega
  have q2 : x / 256 < 64 := by omega
  clear hM
  go_enter Tryz.func26, Tryz.ntmps26
  go_wp2_with fail
  go_ret
  exact ⟨by rw [HV.out]; rfl, rfl⟩
 ·have HV := Yh_ (show M.rightAt x = 0 by rw [Mem.rightAt, if_neg h])
  have HM := Yh_ hM
  clear hM
  go_enter Tryz.func26, Tryz.ntmps26
  go_wp2_with fail
  go_ret
  exact ⟨by rw [HV.out]; rfl, rfl⟩
theorem Mem.rightAt_range {M : Mem} (hM : M.Ok) (x : Int) : 0 ≤ M.rightAt x ∧ M.rightAt x ≤ 7 := by
 unfold Mem.rightAt
 split
 ·exact hM.R _
 ·omega
theorem Yuh (l : Int) (h0 : 0 ≤ l) (h7 : l ≤ 7) : (lowI l = 0) ↔ (l = 0) := by
 have : l = 0 ∨ l = 1 ∨ l = 2 ∨ l = 3 ∨ l = 4 ∨ l = 5 ∨ l = 6 ∨ l = 7 := by omega
 rcases this with rfl | rfl | rfl | rfl | rfl | rfl | rfl | rfl <;> decide +kernel
theorem Ymw (a b : Int) (a0 : 0 ≤ a) (a7 : a ≤ 7) (b0 : 0 ≤ b) (b7 : b ≤ 7) : 0 ≤ bits .andNot .i64 a b ∧ bits .andNot .i64 a b ≤ 7 := by
 have ha : a = 0 ∨ a = 1 ∨ a = 2 ∨ a = 3 ∨ a = 4 ∨ a = 5 ∨ a = 6 ∨ a = 7 := by omega
 have hb : b = 0 ∨ b = 1 ∨ b = 2 ∨ b = 3 ∨ b = 4 ∨ b = 5 ∨ b = 6 ∨ b = 7 := by omega
 rcases ha with rfl | rfl | rfl | rfl | rfl | rfl | rfl | rfl <;> rcases hb with rfl | rfl | rfl | rfl | rfl | rfl | rfl | rfl <;> decide +kernel
def Mem.miss (M : Mem) (x r : Int) : Int := bits .andNot .i64 r (M.rightAt x)
theorem Yl6 {M : Mem} (hM : M.Ok) (x r : Int) (r0 : 0 ≤ r) (r7 : r ≤ 7) : (M.miss x r = 0) ↔ (M.lack x r = 0) := by
 have h1 := Mem.rightAt_range hM x
 have h2 := Ymw r _ r0 r7 h1.1 h1.2
 rw [Mem.lack, Yuh _ h2.1 h2.2]
 rfl
theorem Yga (M : Mem) (r n : Nat) (x rt : Int) (w : World) (hM : Ybh w r M) (h0 : 0 ≤ x) (h1 : x < 4294967296) (hn : n ≤ 16) (r0 : 0 ≤ rt) (r7 : rt ≤ 7) :
  Calls Tryz.prog 40 #[.pointer (some ⟨r, 0, none⟩), .int .u32 x, .int .i64 n, .int .i64 rt] w fun e w' => e = .returned (.tuple #[(M.canF x n rt).val, .bool (!M.canK x n rt)]) ∧ Upd [] w w' := by
 have HM := Yh_ hM
 clear hM
 go_enter Tryz.func40, Tryz.ntmps40
 go_wp2_with fail
 go_loopw [10, 11, 12] (fun i _ _ wr => ∃ j : Nat, j ≤ n ∧ i = .int .i64 j ∧ (∀ t, t < j → M.lack (Yx x t) rt = 0) ∧ wr.heap[w.heap.size]? = some (.cells #[.int .i64 0, .int .u32 0, .int .u32 0, .int .i64 0] 32 (0, 0)) ∧ Upd [] w wr) (fun i _ _ _ => n - (intOf i).toNat)
 case atStart => exact ⟨0, Nat.zero_le _, rfl, by simp, heap_alloc_new _ _, (Upd.refl _ _).alloc _⟩
 case round =>
  obtain ⟨j, hj, rfl, hcan, hf, hU⟩ := hrel
  have HC := Yh_ hcan
  have HU := Yh_ hU
  have HR := Yh_ (HM.out.keep hU (by simp))
  have HF := Yh_ hf
  have cf := Ya hf
  have ff := Yh hf
  clear hcan hU hf
  by_cases hlt : j < n
  ·have hd : decide ((j : Int) < n) = true := by simp; omega
   have q1 : (j : Int) % 4294967296 = j := by omega
   have q2 : (x + j) % 4294967296 = Yx x j := rfl
   by_cases hb : M.miss (Yx x j) rt = 0
   ·have HG := Yh_ ((Yl6 HM.out.ok (Yx x j) rt r0 r7).1 hb)
    have hb' : bits .andNot .i64 rt (M.rightAt (Yx x j)) = 0 := hb
    have HB := Yh_ hb'
    clear hb hb'
    go_wp2_with (go_at_call 26; refine (Yl9 M r (Yx x j) _ HR.out (Ybj x j)).mono ?_; rintro e w2 ⟨rfl, rfl⟩; have hb' := HB.out)
    go_roundw
    case rel => exact ⟨j + 1, by omega, by go_num, fun t ht => by
      by_cases e : t = j
      ·subst e; exact HG.out
      ·exact HC.out t (by omega), HF.out, HU.out⟩
    case measure => simp [intOf]; omega
   ·have HG := Yh_ (fun h => hb ((Yl6 HM.out.ok (Yx x j) rt r0 r7).2 h))
    have hb' : (bits .andNot .i64 rt (M.rightAt (Yx x j)) == 0) = false := by simpa [Mem.miss] using hb
    have HB := Yh_ hb'
    have HL := Yh_ (show bits .and .i64 (bits .andNot .i64 rt (M.rightAt (Yx x j))) (wrap64 (-bits .andNot .i64 rt (M.rightAt (Yx x j)))) = M.lack (Yx x j) rt from rfl)
    clear hb hb'
    go_wp2_with (go_at_call 26; refine (Yl9 M r (Yx x j) _ HR.out (Ybj x j)).mono ?_; rintro e w2 ⟨rfl, rfl⟩; have hb' := HB.out)
    have hbad := Yqp M x n rt j hlt HC.out HG.out
    have hF := Ycx HF.out (.int .i64 1) (.int .u32 0) (.int .u32 (Yx x j)) (.int .i64 (M.lack (Yx x j) rt))
    rw [HL.out]
    refine bodyPost_ret (v := .tuple #[(Flt.mk 1 0 (Yx x j) (M.lack (Yx x j) rt)).val, .bool true]) (Yg rfl (Ycp 8 w.heap.size ⟨1, 0, Yx x j, M.lack (Yx x j) rt⟩ rfl hF) (Yk 9 rfl)) rfl ⟨?_, Yap (b := w.heap.size) HU.out (.inr (Nat.le_refl _)) _ _ _ _⟩
    rw [Mem.canF, Mem.canK, hbad]
    rfl
  ·obtain rfl : n = j := by omega
   have hbad := Yh_ (Yq0 M x n rt HC.out)
   go_wp2_with fail
   have hF := Ycx HF.out (.int .i64 0) (.int .u32 0) (.int .u32 0) (.int .i64 0)
   refine bodyPost_ret (v := .tuple #[Flt.zero.val, .bool false]) (Yg rfl (Ycp 8 w.heap.size Flt.zero rfl hF) (Yk 9 rfl)) rfl ⟨?_, Yap (b := w.heap.size) HU.out (.inr (Nat.le_refl _)) _ _ _ _⟩
   rw [Mem.canF, Mem.canK, hbad.out]
   rfl
theorem Yjs {M : Mem} (h : M.Ok) (x : Int) (j : Nat) : 0 ≤ M.get x j ∧ M.get x j < 2 ^ (8 * j) := by
 induction j with
 |zero => simp [Mem.get]
 |succ j ih =>
  have hb := h.B (Yx x j).toNat
  simp only [Mem.get]
  have hp : (0 : Int) < 2 ^ (8 * j) := Int.pow_pos (by decide)
  have e : (2 : Int) ^ (8 * (j + 1)) = 256 * 2 ^ (8 * j) := by
   rw [Nat.mul_add, Int.pow_add]; simp [Int.mul_comm]
  rw [e]
  generalize (2 : Int) ^ (8 * j) = p at *
  generalize M.B (Yx x j).toNat = b at *
  have h1 : 0 ≤ b * p := Int.mul_nonneg hb.1 (by omega)
  have h2 : b * p ≤ 255 * p := Int.mul_le_mul_of_nonneg_right hb.2 (by omega)
  omega
theorem or_add64 (g b : Int) (k : Nat) (hg0 : 0 ≤ g) (hg : g < 2 ^ k) (hb0 : 0 ≤ b) (hk : b * 2 ^ k + g < 18446744073709551616) : bits .or .u64 g (b * 2 ^ k % 18446744073709551616) = g + b * 2 ^ k := by
 obtain ⟨g, rfl⟩ := Int.eq_ofNat_of_zero_le hg0
 obtain ⟨b, rfl⟩ := Int.eq_ofNat_of_zero_le hb0
 have hg' : g < 2 ^ k := by exact_mod_cast hg
 have e0 : ((b : Int) * 2 ^ k) = ((b * 2 ^ k : Nat) : Int) := by
  rw [Int.natCast_mul, Int.natCast_pow]; rfl
 rw [e0] at hk
 have e2 : g ||| b * 2 ^ k = g + b * 2 ^ k := by
  rw [Nat.or_comm, nat_join k _ _ (Nat.mul_mod_left _ _) hg', Nat.add_comm]
 rw [e0]
 generalize hq : b * 2 ^ k = q at *
 have e1 : (q : Int) % 18446744073709551616 = (q : Int) := by omega
 rw [e1, u64_or_nat _ _ (by omega) (by omega), e2]
 rfl
theorem get_or64 {M : Mem} (h : M.Ok) (x : Int) (j : Nat) (hj : j < 8) :
  bits .or .u64 (M.get x j) (M.B (Yx x j).toNat * 2 ^ (8 * j) % 18446744073709551616) = M.get x (j + 1) := by
 have hb := h.B (Yx x j).toNat
 have hg := Yjs h x j
 simp only [Mem.get]
 refine or_add64 _ _ _ hg.1 hg.2 hb.1 ?_
 have h2 := (Yjs h x (j + 1)).2
 simp only [Mem.get] at h2
 have : (2 : Int) ^ (8 * (j + 1)) ≤ 2 ^ 64 := by
  have := Nat.pow_le_pow_right (show 0 < 2 by decide) (show 8 * (j + 1) ≤ 64 by omega)
  exact_mod_cast this
 have e : (2 : Int) ^ 64 = 18446744073709551616 := by decide
 omega
theorem wrap_u64 (z : Int) : IntKind.u64.wrap z = z % 18446744073709551616 := by simp [IntKind.wrap, IntKind.signed, IntKind.bits]
theorem Ylf (M : Mem) (r n : Nat) (x : Int) (w : World) (hM : Ybh w r M) (h0 : 0 ≤ x) (h1 : x < 4294967296) (hn : n ≤ 8) (hx : ∀ t, t < n → Yx x t < 16384) :
  Calls Tryz.prog 41 #[.pointer (some ⟨r, 0, none⟩), .int .u32 x, .int .i64 n] w fun e w' => e = .returned (.int .u64 (M.get x n)) ∧ w = w' := by
 have HX := Yh_ hx
 have HM := Yh_ hM
 clear hM hx
 go_enter Tryz.func41, Tryz.ntmps41
 go_wp2_with fail
 go_loop [7, 8] (fun v i => ∃ j : Nat, j ≤ n ∧ i = .int .i64 j ∧ v = .int .u64 (M.get x j)) (fun _ i => n - (intOf i).toNat)
 case atStart => exact ⟨0, Nat.zero_le _, rfl, rfl⟩
 case round =>
  obtain ⟨j, hj, rfl, rfl⟩ := hrel
  by_cases hlt : j < n
  ·have hd : decide ((j : Int) < n) = true := by simp; omega
   have hlt' : (j : Int) < 8 := by omega
   have hpl := HX.out j hlt
   have hpn := Ybj x j
   have cb := HM.out.cB (Yx x j).toNat (by omega)
   have q2 : (x + (j : Int)) % 4294967296 = Yx x j := rfl
   have hbd := HM.out.ok.B (Yx x j).toNat
   go_wp2_with fail
   go_round
   case rel => exact ⟨j + 1, by omega, by go_num, by rw [wrap_u64, get_or64 HM.out.ok x j (by omega)]⟩
   case measure => simp [intOf]; omega
  ·obtain rfl : n = j := by omega
   go_wp2_with fail
   go_ret
   exact ⟨rfl, rfl⟩
theorem Ygw (n : Int) (w : World) :
  Calls Tryz.prog 39 #[.int .i64 n] w fun e w' => e = .returned (.int .i64 (Yb3 n)) ∧ w = w' := by
 by_cases h1 : n = 1
 ·have HV := Yh_ (show Yb3 n = n by rw [Yb3, if_pos (.inl h1)])
  subst h1
  go_enter Tryz.func39, Tryz.ntmps39
  go_wp2
  go_ret
  exact ⟨by rw [HV.out]; rfl, rfl⟩
 ·by_cases h2 : n = 2
  ·have HV := Yh_ (show Yb3 n = n by rw [Yb3, if_pos (.inr h2)])
   subst h2
   go_enter Tryz.func39, Tryz.ntmps39
   go_wp2
   go_ret
   exact ⟨by rw [HV.out]; rfl, rfl⟩
  ·have HV := Yh_ (show Yb3 n = 4 by rw [Yb3, if_neg (by omega)])
   have e1 : (n == 1) = false := by simpa using h1
   have e2 : (n == 2) = false := by simpa using h2
   clear h1 h2
   go_enter Tryz.func39, Tryz.ntmps39
   go_wp2
   go_ret
   exact ⟨by rw [HV.out]; rfl, rfl⟩
theorem Ygo (r : Int) : Ybo r = 1 ∨ Ybo r = 2 ∨ Ybo r = 4 := by
 unfold Ybo; split <;> omega
theorem Yja {M : Mem} (hM : M.Ok) (x r : Int) (n : Nat) (hr : r = 1 ∨ r = 2 ∨ r = 4) : M.canBad x n r = M.bad x r n := by
 rw [Mem.canBad, Mem.bad]
 congr 1
 funext i
 have h := lack_can hM (Yx x i) (Ybj x i) r hr
 by_cases hc : M.can (Yx x i) r = true
 ·rw [h.2 hc, hc]; rfl
 ·have hl : M.lack (Yx x i) r ≠ 0 := fun e => hc (h.1 e)
  rw [Bool.not_eq_true] at hc
  rw [hc]
  simpa using hl
theorem lack_one {M : Mem} (hM : M.Ok) (y : Int) (r : Int) (hr : r = 1 ∨ r = 2 ∨ r = 4) (h : M.lack y r ≠ 0) : M.lack y r = r := by
 revert h
 unfold Mem.lack
 obtain ⟨q0, q7⟩ := Mem.rightAt_range hM y
 generalize M.rightAt y = q at *
 have hq : q = 0 ∨ q = 1 ∨ q = 2 ∨ q = 3 ∨ q = 4 ∨ q = 5 ∨ q = 6 ∨ q = 7 := by omega
 rcases hr with rfl | rfl | rfl <;> rcases hq with rfl | rfl | rfl | rfl | rfl | rfl | rfl | rfl <;> decide +kernel
theorem canF_rdF {M : Mem} (hM : M.Ok) (x b r : Int) : M.canF x (Yb3 b).toNat (Ybo r) = M.rdF x b r := by
 rw [Mem.canF, Mem.rdF, Yja hM x _ _ (Ygo r)]
 cases h : M.bad x (Ybo r) (Yb3 b).toNat with
 |none => rfl
 |some i =>
  have h2 := h
  rw [← Yja hM x _ _ (Ygo r)] at h2
  have h3 := List.find?_some h2
  simp only [bne_iff_ne, ne_eq] at h3
  simp only [lack_one hM _ _ (Ygo r) h3]
theorem Ys0 {M : Mem} (hM : M.Ok) (x b r : Int) : M.canK x (Yb3 b).toNat (Ybo r) = M.readK x b r := by
 rw [Mem.canK, Mem.readK, Yja hM x _ _ (Ygo r)]
theorem Ysx {M : Mem} (x r : Int) (n : Nat) (h : M.bad x r n = none) : ∀ t, t < n → Yx x t < 16384 :=
 fun t ht => Yk5 (Ybj x t) ((Yrs M x n r).1 h t ht)
end Go.Proofs.YteiplidhkelkbaaGreat
