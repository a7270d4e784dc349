/-
  Parts of the proof (their names shortened by a program). No condition.
-/
import Derived.Test.YtjkolegknpflfaaDoorMg01
import Derived.Test.YtjkolegknpflfaaDoorMg11
import Derived.Test.YtjkolegknpflfaaDoorMg12
import Derived.Test.YtjkolegknpflfaaDoorMg05
import Derived.Shelf.Strings.OnBuilder
import Derived.Test.YtjkolegknpflfaaDoorProg
import Derived.Test.YtjkolegknpflfaaDoorMg10
import Derived.Test.YtjkolegknpflfaaDoorMg04
import Derived.Maps.AppendAt
import Derived.Test.YtjkolegknpflfaaDoorMg06
import Derived.Test.YtjkolegknpflfaaDoorMg03
import Derived.ChangeKeysEq
import Derived.Lib.SliceRun
import Derived.Laws.IdiomStrings
import Derived.Outline
import Derived.Test.YtjkolegknpflfaaDoorMg02
import Derived.Deep.QuietTactic
import Derived.BigQuiet
import Derived.ChangeSlices
import Derived.Test.YtjkolegknpflfaaDoorMg09
import Derived.Test.YtjkolegknpflfaaDoorMg07
import Derived.Test.YtjkolegknpflfaaDoorMg08
namespace Go.Proofs.YtjkolegknpflfaaDoor
open Go Go.RowKit
set_option linter.unusedVariables false
set_option linter.unusedSimpArgs false
set_option maxRecDepth 100000
set_option maxHeartbeats 16000000
theorem dq_ne {d : Nat → Bool} {m i : Nat} (h : i ≠ m) : Yw d m i = d i := by simp [Yw, h]
theorem dq_eq {d : Nat → Bool} {m : Nat} : Yw d m m = true := by simp [Yw]
def dvS (s : St) (q z : Int) (dn : Nat → Bool) : St := { s with R := fun j => if j = 2 ∧ dn 13 = true then z else if j = 0 ∧ dn 8 = true then q else s.R j }
theorem Ylt (s : St) (q z : Int) : dvS s q z (fun _ => false) = s := by unfold dvS; simp
theorem Ybh (s : St) (q z : Int) (dn : Nat → Bool) (j : Nat) (h1 : 8 ≠ j) (h2 : 13 ≠ j) : dvS s q z (Yw dn j) = dvS s q z dn := by unfold dvS; rw [dq_ne h1, dq_ne h2]
theorem dvS_q (s : St) (q z : Int) (dn : Nat → Bool) : (dvS s q z dn).setR 0 q = dvS s q z (Yw dn 8) := by
 unfold dvS St.setR
 rw [dq_eq, dq_ne (show (13 : Nat) ≠ 8 by decide)]
 congr 1; funext j
 by_cases h0 : j = 0
 ·subst h0; simp
 ·simp [h0]
theorem dvS_z (s : St) (q z : Int) (dn : Nat → Bool) : (dvS s q z dn).setR 2 z = dvS s q z (Yw dn 13) := by
 unfold dvS St.setR
 rw [dq_eq, dq_ne (show (8 : Nat) ≠ 13 by decide)]
 congr 1; funext j
 by_cases h0 : j = 2
 ·subst h0; simp
 ·simp [h0]
theorem dvS_all (s : St) (q z : Int) (dn : Nat → Bool) (h8 : dn 8 = true) (h13 : dn 13 = true) : dvS s q z dn = (s.setR 0 q).setR 2 z := by
 unfold dvS St.setR
 rw [h8, h13]
 congr 1; funext j
 simp
theorem Yhi (d ma pb : Nat) (r : Rn) (t a' b' c n a b : Int) (fl : Bool) (w : World) (h : Yal w d ma pb r Mem.zero) (ha : 0 ≤ a ∧ a < 4294967296) (hb : 0 ≤ b ∧ b < 4294967296) (hn : n = 19 ∨ n = 20) :
  Calls Tryd.prog 25 #[.pointer (some ⟨d, 0, none⟩), .agg #[.int .i64 12, .int .i64 t, .int .i64 a', .int .i64 b', .int .i64 c, .int .u32 n, .bool fl], .int .u32 a, .int .u32 b] w fun e w' =>
   if Yce n (r.s.R 0) (r.s.R 2) a = true then Ycm d ma pb { r with s := (r.s.setR 0 (Ybr n (r.s.R 0) (r.s.R 2) a)).setR 2 (Ybq n (r.s.R 0) (r.s.R 2) a) } Mem.zero w e w' else Ybe d ma pb r Mem.zero ⟨2, 0, 0, 0⟩ w e w' := by
 have HA := Yh_ (And.intro h (And.intro ha hb))
 have HOK := Yh_ h.r.ok
 have K0 := Yh_ (show Hz [d] w [(d, .cells (Ye ma r) 54 (0, 0))] w from ⟨Upd.refl _ _, fun p hp => by rw [List.mem_singleton.1 hp]; exact h.r.h, List.pairwise_singleton _ _, fun p hp => by rw [List.mem_singleton.1 hp]; exact .inl (by simp)⟩)
 obtain ⟨q, hq⟩ : ∃ q, Ybr n (r.s.R 0) (r.s.R 2) a = q := ⟨_, rfl⟩
 obtain ⟨z, hz⟩ : ∃ z, Ybq n (r.s.R 0) (r.s.R 2) a = z := ⟨_, rfl⟩
 rw [hq, hz]
 have hqr : 0 ≤ q ∧ q < 4294967296 := by rw [← hq]; exact Yg3 n _ _ a (h.r.ok.s.R 0) (h.r.ok.s.R 2) ha
 have hzr : 0 ≤ z ∧ z < 4294967296 := by rw [← hz]; exact Yg7 n _ _ a (h.r.ok.s.R 0) (h.r.ok.s.R 2) ha
 have HQ := Yh_ (And.intro hq (And.intro hz (And.intro hqr (And.intro hzr hn))))
 have ew : wrap64 n = n := by unfold wrap64; omega
 have HDV := Yh_ (show ∀ w5, Calls Tryd.prog 39 #[.int .i64 (wrap64 n), .int .u32 (r.s.R 0), .int .u32 (r.s.R 2), .int .u32 a] w5 fun e w' => e = .returned (.tuple #[.int .u32 q, .int .u32 z, .bool (Yce n (r.s.R 0) (r.s.R 2) a)]) ∧ Upd [] w5 w' from fun w5 => by
  rw [ew, ← hq, ← hz]
  exact Div_any n (r.s.R 0) (r.s.R 2) a w5 hn (h.r.ok.s.R 0) (h.r.ok.s.R 2) ha)
 clear ew
 have r0 := (Ycl ma r 0 (by decide)).trans (St.cR r.s 0 (by decide))
 have r2 := (Ycl ma r 2 (by decide)).trans (St.cR r.s 2 (by decide))
 clear h ha hb hn hq hz hqr hzr
 cases hkk : Yce n (r.s.R 0) (r.s.R 2) a
 all_goals
  have HK := Yh_ hkk
  clear hkk
  go_enter Tryd.func25, Tryd.ntmps25
  go_upto_region 1 with fail
  have hk := (((K0.out.lay #[.pointer (some ⟨d, 0, none⟩)] 52).lay #[.int .i64 12, .int .i64 t, .int .i64 a', .int .i64 b', .int .i64 c, .int .u32 n, .bool fl] 35).lay #[.int .u32 a] 22).lay #[.int .u32 b] 22
  simp at hk
  generalize hB0 : w.heap.size = B0 at hk ⊢
  obtain ⟨B1, hB1⟩ : ∃ B1, B0 + 1 = B1 := ⟨_, rfl⟩
  obtain ⟨B2, hB2⟩ : ∃ B2, B0 + 1 + 1 = B2 := ⟨_, rfl⟩
  obtain ⟨B3, hB3⟩ : ∃ B3, B0 + 1 + 1 + 1 = B3 := ⟨_, rfl⟩
  rw [hB3, hB2, hB1] at hk
  rw [hB3, hB2, hB1]
  refine Yy (B := fun w1 => Hz [d] w [(B3, .cells #[.int .u32 b] 22 (0, 0)), (B2, .cells #[.int .u32 a] 22 (0, 0)), (B1, .cells #[.int .i64 12, .int .i64 t, .int .i64 a', .int .i64 b', .int .i64 c, .int .u32 n, .bool fl] 35 (0, 0)), (B0, .cells #[.pointer (some ⟨d, 0, none⟩)] 52 (0, 0)), (d, .cells (Ye ma (r)) 54 (0, 0))] w1) hk ?_
  intro w1 hk1
  have K1 := Yh_ hk1
  clear hk hk1 K0 hB3 hB2 hB1
  have f1 := Ya (K1.out.get 2 rfl)
  go_upto_region 13 with fail
  clear f1
  refine Yx 24 (fun w1 => Hz [d] w [(B3, .cells #[.int .u32 b] 22 (0, 0)), (B2, .cells #[.int .u32 a] 22 (0, 0)), (B1, .cells #[.int .i64 12, .int .i64 t, .int .i64 a', .int .i64 b', .int .i64 c, .int .u32 n, .bool fl] 35 (0, 0)), (B0, .cells #[.pointer (some ⟨d, 0, none⟩)] 52 (0, 0)), (d, .cells (Ye ma (r)) 54 (0, 0))] w1) (fun _ _ => False) (by kernel_rfl) (by decide +kernel) (K1.out.quiet (Upd.refl [] w1).drew) (fun _ _ _ h => h.elim) ?_
  simp only [List.take_succ_cons, List.take_zero, List.drop_succ_cons, List.drop_zero]
  iterate 24
   apply Yg rfl rfl
   ·intro K hK w5 hB1
    have f0 := Ya (hB1.get 3 rfl)
    have f1 := Ya (hB1.get 2 rfl)
    have f2 := Ya (hB1.get 1 rfl)
    have fd : ∀ o, w5.cell? ⟨d, o, none⟩ = (Ye ma r)[o]? := Ya (hB1.get 4 rfl)
    have HB := Yh_ hB1
    clear hB1
    go_wp2_with (go_at_call 39; refine (HDV.out _).mono ?_; rintro e w6 ⟨rfl, hu⟩; rw [HK.out]; have HB2 := Yh_ (HB.out.quiet hu); clear hu HB)
    first
    |exact hK _ HB.out
    |exact HB.out
    |exact hK _ HB2.out
    |exact HB2.out
   ·exact ⟨_, rfl⟩
  refine Yo (fun _ w6 hB1 => ?_)
  have K2 := Yh_ hB1
  clear hB1 K1
 ·go_wp2_with fail
  exact ⟨rfl, rfl, ⟨K2.out.get 4 rfl, HOK.out⟩, HA.out.1.m.keep K2.out.u (by simpa using HA.out.1.n.1.symm) (by simpa using HA.out.1.n.2.symm), K2.out.u.mono (by simp)⟩
 ·go_upto_region 16 with fail
  refine Yeb 14 (fun dn r0 w1 => Hz [d] w [(B3, .cells #[.int .u32 b] 22 (0, 0)), (B2, .cells #[.int .u32 a] 22 (0, 0)), (B1, .cells #[.int .i64 12, .int .i64 t, .int .i64 a', .int .i64 b', .int .i64 c, .int .u32 n, .bool fl] 35 (0, 0)), (B0, .cells #[.pointer (some ⟨d, 0, none⟩)] 52 (0, 0)), (d, .cells (Ye ma ({ r with s := dvS r.s q z dn })) 54 (0, 0))] w1) (fun _ _ => False) (by kernel_rfl) (by decide +kernel) (fun r0 => by rw [Ylt]; exact K2.out.quiet (Upd.refl [] _).drew) (fun _ _ _ h => h.elim) ?_
  simp only [List.take_succ_cons, List.take_zero, List.drop_succ_cons, List.drop_zero]
  apply Yab rfl rfl
  ·intro dn r0 K hd hdep hK w5 hB1
   have f0 := Ya (Hz.get hB1 3 rfl)
   have HB := Yh_ (show Hz [d] w [(B3, .cells #[.int .u32 b] 22 (0, 0)), (B2, .cells #[.int .u32 a] 22 (0, 0)), (B1, .cells #[.int .i64 12, .int .i64 t, .int .i64 a', .int .i64 b', .int .i64 c, .int .u32 n, .bool fl] 35 (0, 0)), (B0, .cells #[.pointer (some ⟨d, 0, none⟩)] 52 (0, 0)), (d, .cells (Ye ma ({ r with s := dvS r.s q z (Yw dn 0) })) 54 (0, 0))] w5 by rw [Ybh _ _ _ _ _ (by decide) (by decide)]; exact hB1)
   clear hB1 hdep
   go_wp2_with fail
   first | exact hK _ HB.out | exact HB.out
  ·exact ⟨_, rfl⟩
  apply Yab rfl rfl
  ·intro dn r0 K hd hdep hK w5 hB1
   have f0 := Ya (Hz.get hB1 3 rfl)
   have HB := Yh_ (show Hz [d] w [(B3, .cells #[.int .u32 b] 22 (0, 0)), (B2, .cells #[.int .u32 a] 22 (0, 0)), (B1, .cells #[.int .i64 12, .int .i64 t, .int .i64 a', .int .i64 b', .int .i64 c, .int .u32 n, .bool fl] 35 (0, 0)), (B0, .cells #[.pointer (some ⟨d, 0, none⟩)] 52 (0, 0)), (d, .cells (Ye ma ({ r with s := dvS r.s q z (Yw dn 1) })) 54 (0, 0))] w5 by rw [Ybh _ _ _ _ _ (by decide) (by decide)]; exact hB1)
   clear hB1 hdep
   go_wp2_with fail
   first | exact hK _ HB.out | exact HB.out
  ·exact ⟨_, rfl⟩
  apply Yab rfl rfl
  ·intro dn r0 K hd hdep hK w5 hB1
   have f0 := Ya (Hz.get hB1 3 rfl)
   have HB := Yh_ (show Hz [d] w [(B3, .cells #[.int .u32 b] 22 (0, 0)), (B2, .cells #[.int .u32 a] 22 (0, 0)), (B1, .cells #[.int .i64 12, .int .i64 t, .int .i64 a', .int .i64 b', .int .i64 c, .int .u32 n, .bool fl] 35 (0, 0)), (B0, .cells #[.pointer (some ⟨d, 0, none⟩)] 52 (0, 0)), (d, .cells (Ye ma ({ r with s := dvS r.s q z (Yw dn 2) })) 54 (0, 0))] w5 by rw [Ybh _ _ _ _ _ (by decide) (by decide)]; exact hB1)
   clear hB1 hdep
   go_wp2_with fail
   first | exact hK _ HB.out | exact HB.out
  ·exact ⟨_, rfl⟩
  apply Yab rfl rfl
  ·intro dn r0 K hd hdep hK w5 hB1
   have f0 := Ya (Hz.get hB1 3 rfl)
   have HB := Yh_ (show Hz [d] w [(B3, .cells #[.int .u32 b] 22 (0, 0)), (B2, .cells #[.int .u32 a] 22 (0, 0)), (B1, .cells #[.int .i64 12, .int .i64 t, .int .i64 a', .int .i64 b', .int .i64 c, .int .u32 n, .bool fl] 35 (0, 0)), (B0, .cells #[.pointer (some ⟨d, 0, none⟩)] 52 (0, 0)), (d, .cells (Ye ma ({ r with s := dvS r.s q z (Yw dn 3) })) 54 (0, 0))] w5 by rw [Ybh _ _ _ _ _ (by decide) (by decide)]; exact hB1)
   clear hB1 hdep
   go_wp2_with fail
   first | exact hK _ HB.out | exact HB.out
  ·exact ⟨_, rfl⟩
  apply Yab rfl rfl
  ·intro dn r0 K hd hdep hK w5 hB1
   have f0 := Ya (Hz.get hB1 3 rfl)
   have HB := Yh_ (show Hz [d] w [(B3, .cells #[.int .u32 b] 22 (0, 0)), (B2, .cells #[.int .u32 a] 22 (0, 0)), (B1, .cells #[.int .i64 12, .int .i64 t, .int .i64 a', .int .i64 b', .int .i64 c, .int .u32 n, .bool fl] 35 (0, 0)), (B0, .cells #[.pointer (some ⟨d, 0, none⟩)] 52 (0, 0)), (d, .cells (Ye ma ({ r with s := dvS r.s q z (Yw dn 4) })) 54 (0, 0))] w5 by rw [Ybh _ _ _ _ _ (by decide) (by decide)]; exact hB1)
   clear hB1 hdep
   go_wp2_with fail
   first | exact hK _ HB.out | exact HB.out
  ·exact ⟨_, rfl⟩
  apply Yab rfl rfl
  ·intro dn r0 K hd hdep hK w5 hB1
   have f0 := Ya (Hz.get hB1 3 rfl)
   have HB := Yh_ (show Hz [d] w [(B3, .cells #[.int .u32 b] 22 (0, 0)), (B2, .cells #[.int .u32 a] 22 (0, 0)), (B1, .cells #[.int .i64 12, .int .i64 t, .int .i64 a', .int .i64 b', .int .i64 c, .int .u32 n, .bool fl] 35 (0, 0)), (B0, .cells #[.pointer (some ⟨d, 0, none⟩)] 52 (0, 0)), (d, .cells (Ye ma ({ r with s := dvS r.s q z (Yw dn 5) })) 54 (0, 0))] w5 by rw [Ybh _ _ _ _ _ (by decide) (by decide)]; exact hB1)
   clear hB1 hdep
   go_wp2_with fail
   first | exact hK _ HB.out | exact HB.out
  ·exact ⟨_, rfl⟩
  apply Yab rfl rfl
  ·intro dn r0 K hd hdep hK w5 hB1
   have f0 := Ya (Hz.get hB1 3 rfl)
   have HB := Yh_ (show Hz [d] w [(B3, .cells #[.int .u32 b] 22 (0, 0)), (B2, .cells #[.int .u32 a] 22 (0, 0)), (B1, .cells #[.int .i64 12, .int .i64 t, .int .i64 a', .int .i64 b', .int .i64 c, .int .u32 n, .bool fl] 35 (0, 0)), (B0, .cells #[.pointer (some ⟨d, 0, none⟩)] 52 (0, 0)), (d, .cells (Ye ma ({ r with s := dvS r.s q z (Yw dn 6) })) 54 (0, 0))] w5 by rw [Ybh _ _ _ _ _ (by decide) (by decide)]; exact hB1)
   clear hB1 hdep
   go_wp2_with fail
   first | exact hK _ HB.out | exact HB.out
  ·exact ⟨_, rfl⟩
  apply Yab rfl rfl
  ·intro dn r0 K hd hdep hK w5 hB1
   have f0 := Ya (Hz.get hB1 3 rfl)
   have HB := Yh_ (show Hz [d] w [(B3, .cells #[.int .u32 b] 22 (0, 0)), (B2, .cells #[.int .u32 a] 22 (0, 0)), (B1, .cells #[.int .i64 12, .int .i64 t, .int .i64 a', .int .i64 b', .int .i64 c, .int .u32 n, .bool fl] 35 (0, 0)), (B0, .cells #[.pointer (some ⟨d, 0, none⟩)] 52 (0, 0)), (d, .cells (Ye ma ({ r with s := dvS r.s q z (Yw dn 7) })) 54 (0, 0))] w5 by rw [Ybh _ _ _ _ _ (by decide) (by decide)]; exact hB1)
   clear hB1 hdep
   go_wp2_with fail
   first | exact hK _ HB.out | exact HB.out
  ·exact ⟨_, rfl⟩
  apply Yab rfl rfl
  ·intro dn r0 K hd hdep hK w5 hB1
   have fd : w5.cell? ⟨d, 1, none⟩ = some (.int .u32 ((dvS r.s q z dn).R 0)) := (Ya (Hz.get hB1 4 rfl) 1).trans ((Ycl ma _ 0 (by decide)).trans (St.cR _ 0 (by decide)))
   have ff := Yc (Hz.get hB1 4 rfl)
   have hk : Hz [d] w [(B3, .cells #[.int .u32 b] 22 (0, 0)), (B2, .cells #[.int .u32 a] 22 (0, 0)), (B1, .cells #[.int .i64 12, .int .i64 t, .int .i64 a', .int .i64 b', .int .i64 c, .int .u32 n, .bool fl] 35 (0, 0)), (B0, .cells #[.pointer (some ⟨d, 0, none⟩)] 52 (0, 0)), (d, .cells (Ye ma ({ r with s := dvS r.s q z (Yw dn 8) })) 54 (0, 0))] (w5.setCell ⟨d, 1, none⟩ (.int .u32 q)) := by
    have h := Hz.cell hB1 4 rfl 1 (.int .u32 q)
    dsimp only [List.set] at h
    rw [Yh3 ma _ ((dvS r.s q z dn).setR 0 q) 0 _ (by decide) (St.cells_setR _ 0 q (by decide)), dvS_q] at h
    exact h
   have HB := Yh_ hk
   clear hB1 hdep hk
   go_wp2_with fail
   first | exact hK _ HB.out | exact HB.out
  ·exact ⟨undef, rfl⟩
  apply Yab rfl rfl
  ·intro dn r0 K hd hdep hK w5 hB1
   have f0 := Ya (Hz.get hB1 3 rfl)
   have HB := Yh_ (show Hz [d] w [(B3, .cells #[.int .u32 b] 22 (0, 0)), (B2, .cells #[.int .u32 a] 22 (0, 0)), (B1, .cells #[.int .i64 12, .int .i64 t, .int .i64 a', .int .i64 b', .int .i64 c, .int .u32 n, .bool fl] 35 (0, 0)), (B0, .cells #[.pointer (some ⟨d, 0, none⟩)] 52 (0, 0)), (d, .cells (Ye ma ({ r with s := dvS r.s q z (Yw dn 9) })) 54 (0, 0))] w5 by rw [Ybh _ _ _ _ _ (by decide) (by decide)]; exact hB1)
   clear hB1 hdep
   go_wp2_with fail
   first | exact hK _ HB.out | exact HB.out
  ·exact ⟨_, rfl⟩
  apply Yab rfl rfl
  ·intro dn r0 K hd hdep hK w5 hB1
   have f0 := Ya (Hz.get hB1 3 rfl)
   have HB := Yh_ (show Hz [d] w [(B3, .cells #[.int .u32 b] 22 (0, 0)), (B2, .cells #[.int .u32 a] 22 (0, 0)), (B1, .cells #[.int .i64 12, .int .i64 t, .int .i64 a', .int .i64 b', .int .i64 c, .int .u32 n, .bool fl] 35 (0, 0)), (B0, .cells #[.pointer (some ⟨d, 0, none⟩)] 52 (0, 0)), (d, .cells (Ye ma ({ r with s := dvS r.s q z (Yw dn 10) })) 54 (0, 0))] w5 by rw [Ybh _ _ _ _ _ (by decide) (by decide)]; exact hB1)
   clear hB1 hdep
   go_wp2_with fail
   first | exact hK _ HB.out | exact HB.out
  ·exact ⟨_, rfl⟩
  apply Yab rfl rfl
  ·intro dn r0 K hd hdep hK w5 hB1
   have f0 := Ya (Hz.get hB1 3 rfl)
   have HB := Yh_ (show Hz [d] w [(B3, .cells #[.int .u32 b] 22 (0, 0)), (B2, .cells #[.int .u32 a] 22 (0, 0)), (B1, .cells #[.int .i64 12, .int .i64 t, .int .i64 a', .int .i64 b', .int .i64 c, .int .u32 n, .bool fl] 35 (0, 0)), (B0, .cells #[.pointer (some ⟨d, 0, none⟩)] 52 (0, 0)), (d, .cells (Ye ma ({ r with s := dvS r.s q z (Yw dn 11) })) 54 (0, 0))] w5 by rw [Ybh _ _ _ _ _ (by decide) (by decide)]; exact hB1)
   clear hB1 hdep
   go_wp2_with fail
   first | exact hK _ HB.out | exact HB.out
  ·exact ⟨_, rfl⟩
  apply Yab rfl rfl
  ·intro dn r0 K hd hdep hK w5 hB1
   have f0 := Ya (Hz.get hB1 3 rfl)
   have HB := Yh_ (show Hz [d] w [(B3, .cells #[.int .u32 b] 22 (0, 0)), (B2, .cells #[.int .u32 a] 22 (0, 0)), (B1, .cells #[.int .i64 12, .int .i64 t, .int .i64 a', .int .i64 b', .int .i64 c, .int .u32 n, .bool fl] 35 (0, 0)), (B0, .cells #[.pointer (some ⟨d, 0, none⟩)] 52 (0, 0)), (d, .cells (Ye ma ({ r with s := dvS r.s q z (Yw dn 12) })) 54 (0, 0))] w5 by rw [Ybh _ _ _ _ _ (by decide) (by decide)]; exact hB1)
   clear hB1 hdep
   go_wp2_with fail
   first | exact hK _ HB.out | exact HB.out
  ·exact ⟨_, rfl⟩
  apply Yab rfl rfl
  ·intro dn r0 K hd hdep hK w5 hB1
   have fd : w5.cell? ⟨d, 3, none⟩ = some (.int .u32 ((dvS r.s q z dn).R 2)) := (Ya (Hz.get hB1 4 rfl) 3).trans ((Ycl ma _ 2 (by decide)).trans (St.cR _ 2 (by decide)))
   have ff := Yc (Hz.get hB1 4 rfl)
   have hk : Hz [d] w [(B3, .cells #[.int .u32 b] 22 (0, 0)), (B2, .cells #[.int .u32 a] 22 (0, 0)), (B1, .cells #[.int .i64 12, .int .i64 t, .int .i64 a', .int .i64 b', .int .i64 c, .int .u32 n, .bool fl] 35 (0, 0)), (B0, .cells #[.pointer (some ⟨d, 0, none⟩)] 52 (0, 0)), (d, .cells (Ye ma ({ r with s := dvS r.s q z (Yw dn 13) })) 54 (0, 0))] (w5.setCell ⟨d, 3, none⟩ (.int .u32 z)) := by
    have h := Hz.cell hB1 4 rfl 3 (.int .u32 z)
    dsimp only [List.set] at h
    rw [Yh3 ma _ ((dvS r.s q z dn).setR 2 z) 2 _ (by decide) (St.cells_setR _ 2 z (by decide)), dvS_z] at h
    exact h
   have HB := Yh_ hk
   clear hB1 hdep hk
   go_wp2_with fail
   first | exact hK _ HB.out | exact HB.out
  ·exact ⟨undef, rfl⟩
  refine Yds (fun _ r0 w7 dn hall hB1 => ?_)
  try dsimp only at hB1
  rw [dvS_all _ _ _ _ (hall 8 (by decide)) (hall 13 (by decide))] at hB1
  have K3 := Yh_ hB1
  clear hall hB1 K2
  simp only [Yq]
  go_wp2_with fail
  go_end0
  exact Yfu HA.out.1 ⟨rfl, ⟨K3.out.get 4 rfl, ⟨St.setR_ok (St.setR_ok HOK.out.s 0 HQ.out.2.2.1.1 HQ.out.2.2.1.2) 2 HQ.out.2.2.2.1.1 HQ.out.2.2.2.1.2, HOK.out.p, HOK.out.T⟩⟩, K3.out.u⟩
theorem Yhe (d ma pb : Nat) (r r' : Rn) (F : Flt) (t a' b' c n a b : Int) (fl good : Bool) (w : World) (h : Yal w d ma pb r Mem.zero) (ha : 0 ≤ a ∧ a < 4294967296) (hb : 0 ≤ b ∧ b < 4294967296) (hn : 0 ≤ n ∧ n < 4294967296)
  (hq : ∀ w1, Yal w1 d ma pb r Mem.zero → Calls Tryd.prog 40 #[.pointer (some ⟨d, 0, none⟩), .int .i64 n, .int .u32 a] w1 fun e w' => if good = true then Ycm d ma pb r' Mem.zero w1 e w' else Ybe d ma pb r Mem.zero F w1 e w') :
  Calls Tryd.prog 25 #[.pointer (some ⟨d, 0, none⟩), .agg #[.int .i64 13, .int .i64 t, .int .i64 a', .int .i64 b', .int .i64 c, .int .u32 n, .bool fl], .int .u32 a, .int .u32 b] w fun e w' => if good = true then Ycm d ma pb r' Mem.zero w e w' else Ybe d ma pb r Mem.zero F w e w' := by
 have HA := Yh_ (And.intro h (And.intro ha hb))
 have HOK := Yh_ h.r.ok
 have K0 := Yh_ (show Hz [d] w [(d, .cells (Ye ma r) 54 (0, 0))] w from ⟨Upd.refl _ _, fun p hp => by rw [List.mem_singleton.1 hp]; exact h.r.h, List.pairwise_singleton _ _, fun p hp => by rw [List.mem_singleton.1 hp]; exact .inl (by simp)⟩)
 have HQ := Yh_ hq
 have ew : wrap64 n = n := by unfold wrap64; omega
 clear h ha hb hn hq
 go_enter Tryd.func25, Tryd.ntmps25
 go_upto_region 1 with fail
 have hk := (((K0.out.lay #[.pointer (some ⟨d, 0, none⟩)] 52).lay #[.int .i64 13, .int .i64 t, .int .i64 a', .int .i64 b', .int .i64 c, .int .u32 n, .bool fl] 35).lay #[.int .u32 a] 22).lay #[.int .u32 b] 22
 simp at hk
 generalize hB0 : w.heap.size = B0 at hk ⊢
 obtain ⟨B1, hB1⟩ : ∃ B1, B0 + 1 = B1 := ⟨_, rfl⟩
 obtain ⟨B2, hB2⟩ : ∃ B2, B0 + 1 + 1 = B2 := ⟨_, rfl⟩
 obtain ⟨B3, hB3⟩ : ∃ B3, B0 + 1 + 1 + 1 = B3 := ⟨_, rfl⟩
 rw [hB3, hB2, hB1] at hk
 rw [hB3, hB2, hB1]
 refine Yy (B := fun w1 => Hz [d] w [(B3, .cells #[.int .u32 b] 22 (0, 0)), (B2, .cells #[.int .u32 a] 22 (0, 0)), (B1, .cells #[.int .i64 13, .int .i64 t, .int .i64 a', .int .i64 b', .int .i64 c, .int .u32 n, .bool fl] 35 (0, 0)), (B0, .cells #[.pointer (some ⟨d, 0, none⟩)] 52 (0, 0)), (d, .cells (Ye ma (r)) 54 (0, 0))] w1) hk ?_
 intro w1 hk1
 have K1 := Yh_ hk1
 clear hk hk1 K0 hB3 hB2 hB1
 have f0 := Ya (K1.out.get 3 rfl)
 have f1 := Ya (K1.out.get 2 rfl)
 have f2 := Ya (K1.out.get 1 rfl)
 have HM := Yh_ (show Yal w1 d ma pb r Mem.zero from ⟨⟨K1.out.get 4 rfl, HOK.out⟩, HA.out.1.m.keep K1.out.u (by simpa using HA.out.1.n.1.symm) (by simpa using HA.out.1.n.2.symm), HA.out.1.n⟩)
 cases good
 all_goals
  go_wp2_with (go_at_call 40; refine (HQ.out _ HM.out).mono ?_; intro e w5 hq5; obtain ⟨rfl, hr5, hm5, hu5⟩ := hq5; have H5 := Yh_ (And.intro hr5 (And.intro hm5 ((K1.out.u.mono (T := [d, pb]) (by simp)).also hu5 (fun x hx => .inl hx)))); clear hr5 hm5 hu5)
 ·exact ⟨rfl, rfl, H5.out.1, H5.out.2.1, H5.out.2.2⟩
 ·go_end0
  exact ⟨rfl, H5.out.1, H5.out.2.1, H5.out.2.2⟩
section
open Go.Shelf
def Ye8 : Go.Shelf.Ren := ⟨fun | 156 => 17 | 165 => 28 | 166 => 29 | 169 => 30 | 240 => 46 | 241 => 47 | 276 => 73 | 277 => 74 | n => n, fun | 31 => 58 | 9 => 9 | 3 => 3 | 4 => 4 | 0 => 0 | 20 => 20 | 72 => 71 | 76 => 75 | 70 => 69 | 37 => 42 | 75 => 74 | 127 => 98 | 164 => 125 | 5 => 5 | 80 => 77 | n => n, fun | n => n⟩
theorem msJoin : Go.Proofs.Lays.n156 Tryd.prog Ye8 := {
 mixed := by kernel_rfl
 f156 := Tryd.func17.trans (congrArg some (by kernel_rfl))
 f165 := Tryd.func28.trans (congrArg some (by kernel_rfl))
 f166 := Tryd.func29.trans (congrArg some (by kernel_rfl))
 f169 := Tryd.func30.trans (congrArg some (by kernel_rfl))
 f240 := Tryd.func46.trans (congrArg some (by kernel_rfl))
 f241 := Tryd.func47.trans (congrArg some (by kernel_rfl))
 f276 := Tryd.func73.trans (congrArg some (by kernel_rfl))
 f277 := Tryd.func74.trans (congrArg some (by kernel_rfl))
 t0 := Tryd.underlying0
 a0 := Tryd.isAgg0
 z0 := Tryd.sizeOf0
 v0 := Tryd.zeroValue0
 t3 := Tryd.underlying3
 a3 := Tryd.isAgg3
 z3 := Tryd.sizeOf3
 v3 := Tryd.zeroValue3
 t4 := Tryd.underlying4
 a4 := Tryd.isAgg4
 z4 := Tryd.sizeOf4
 v4 := Tryd.zeroValue4
 t9 := Tryd.underlying9
 a9 := Tryd.isAgg9
 z9 := Tryd.sizeOf9
 v9 := Tryd.zeroValue9
 t20 := Tryd.underlying20
 a20 := Tryd.isAgg20
 z20 := Tryd.sizeOf20
 v20 := Tryd.zeroValue20
 t31 := Tryd.underlying58
 a31 := Tryd.isAgg58
 z31 := Tryd.sizeOf58
 v31 := Tryd.zeroValue58
 t37 := Tryd.underlying42
 a37 := Tryd.isAgg42
 z37 := Tryd.sizeOf42
 v37 := Tryd.zeroValue42
 t70 := Tryd.underlying69
 a70 := Tryd.isAgg69
 z70 := Tryd.sizeOf69
 v70 := Tryd.zeroValue69
 t72 := Tryd.underlying71
 a72 := Tryd.isAgg71
 z72 := Tryd.sizeOf71
 v72 := Tryd.zeroValue71
 t75 := Tryd.underlying74
 a75 := Tryd.isAgg74
 z75 := Tryd.sizeOf74
 v75 := Tryd.zeroValue74
 t76 := Tryd.underlying75
 a76 := Tryd.isAgg75
 z76 := Tryd.sizeOf75
 v76 := Tryd.zeroValue75
 t127 := Tryd.underlying98
 a127 := Tryd.isAgg98
 z127 := Tryd.sizeOf98
 v127 := Tryd.zeroValue98
 t164 := Tryd.underlying125
 a164 := Tryd.isAgg125
 z164 := Tryd.sizeOf125
 v164 := Tryd.zeroValue125 }
end
section
open Go.Shelf
theorem ms_extra : Builder.Extra Tryd.prog Ye8 where
 sizeBuilder := by kernel_rfl
 liesBuilder := by kernel_rfl
 t5 := Tryd.underlying5
 a5 := Tryd.isAgg5
 z5 := Tryd.sizeOf5
 v5 := Tryd.zeroValue5
 infoByte := by kernel_rfl
 cellsByte := by kernel_rfl
 sizeByte := by kernel_rfl
 neB5 := by decide
def Yak (z : Int) : ByteArray := ⟨#[(48 + z.toNat).toUInt8]⟩
theorem Yka (z : Int) (hz : z = 0 ∨ z = 1 ∨ z = 7) (w : World) : Calls Tryd.prog 42 #[.int .i64 z] w fun e w' => e = .returned (.string (Yak z)) ∧ w = w' := by
 rcases hz with rfl | rfl | rfl
 all_goals
  go_enter Tryd.func42, Tryd.ntmps42
  go_wp2
  go_ret
  exact ⟨rfl, rfl⟩
theorem Yfl (z : Int) (hz : z = 0 ∨ z = 1) (w : World) : Calls Tryd.prog 15 #[.int .i64 z] w fun e w' => e = .returned (.string (Yak z)) ∧ w = w' := by
 have H := Yh_ (show z = 0 ∨ z = 1 ∨ z = 7 by omega)
 rcases hz with rfl | rfl
 all_goals
  go_enter Tryd.func15, Tryd.ntmps15
  go_wp2_with (first | (go_at_call 42; refine (Yka _ H.out _).mono ?_; rintro e w' ⟨rfl, rfl⟩) | go_in)
  go_ret
  exact ⟨rfl, rfl⟩
theorem mtFmt (w : World) : Calls Tryd.prog 16 #[.int .u64 7, .int .i64 10] w fun e w' => e = .returned (.string (Yak 7)) ∧ w = w' := by
 go_enter Tryd.func16, Tryd.ntmps16
 go_wp2_with (first | (go_at_call 42; refine (Yka _ (by decide) _).mono ?_; rintro e w' ⟨rfl, rfl⟩) | go_in)
 go_ret
 exact ⟨rfl, rfl⟩
theorem mt_info : (Tryd.prog.info? 9).map (fun i => (i.zero, i.size, i.bytes)) = some (some (.string ⟨#[]⟩), 1, 16) := by kernel_rfl
def mtStrs : List Value := [.string (Yak 1), .string (Yak 1), .string (Yak 0), .string (Yak 0), .string (Yak 0)]
structure MtB (w w1 : World) : Prop where
 x : w1.heap[w.heap.size]? = some (.cells (⟨1, 1, 0, 0, 0, 7, false⟩ : Mi).cells 35 (0, 0))
 l : w1.heap[w.heap.size + 1]? = some (.cells #[.int .i64 1, .int .i64 1, .int .i64 0, .int .i64 0, .int .i64 0] 3 (0, 0))
 u : Upd [] w w1
theorem MtB.le {w w1 : World} (h : MtB w w1) : w.heap.size + 1 + 1 ≤ w1.heap.size := Yr h.l
theorem Yde {w w1 w2 : World} {S : List Nat} (h : MtB w w1) (u : Upd S w1 w2) (hS : ∀ z ∈ S, w.heap.size + 1 + 1 ≤ z) : MtB w w2 :=
 ⟨u.get h.x (fun hh => by have := hS _ hh; omega), u.get h.l (fun hh => by have := hS _ hh; omega), h.u.also u (fun z hz => .inr (by have := hS z hz; omega))⟩
theorem Yd5 (w : World) (x : ByteArray) : ∀ (t : Nat) u, [Value.string x][t]? = some u → (w.alloc (.cells #[.string x] 9)).cell? ((⟨w.heap.size, 0, none⟩ : Addr).add t) = some u := by
 intro t u hu
 rcases t with _ | t
 ·simp only [List.getElem?_cons_zero, Option.some.injEq] at hu
  subst hu
  rw [Addr.add_mid, Ya (heap_alloc_new _ _)]
  rfl
 ·simp at hu
theorem Yes (x : ByteArray) : ∀ u ∈ [Value.string x], u.oneCell' = true := by
 intro u hu
 simp only [List.mem_singleton] at hu
 subst hu; rfl
theorem mt_form {w : World} {base : Nat} {v : Value} (h : w.ownsRow base 9 1 v 6 [.string (Yak 1), .string (Yak 1), .string (Yak 0), .string (Yak 0), .string (Yak 0), .string (Yak 7)]) :
  ∃ g cap, v = .slice (some ⟨g, 0, none⟩) 6 cap ∧ g < w.heap.size ∧ (∀ (j : Nat) x, [Yak 1, Yak 1, Yak 0, Yak 0, Yak 0, Yak 7][j]? = some x → w.cell? ⟨g, 0 + j, none⟩ = some (.string x)) ∧ 6 ≤ cap := by
 rcases h.2 with ⟨_, h0⟩ | ⟨g, cap, cur, rfl, hb, hg, hnc, hcur⟩
 ·cases h0
 ·refine ⟨g, cap, rfl, Yr hg, fun j x hx => ?_, by omega⟩
  rw [Ya hg, Nat.zero_add]
  have hj : j < 6 := (List.getElem?_eq_some_iff.1 hx).1
  have e1 : cur[j]? = (List.take (6 * 1) cur.toList)[j]? := by rw [List.getElem?_take, if_pos (by omega), Array.getElem?_toList]
  rw [e1, hcur.2.2]
  have hj' : j = 0 ∨ j = 1 ∨ j = 2 ∨ j = 3 ∨ j = 4 ∨ j = 5 := by omega
  rcases hj' with rfl | rfl | rfl | rfl | rfl | rfl <;> (simp only [List.getElem?_cons_zero, List.getElem?_cons_succ, Option.some.injEq] at hx ⊢; rw [hx])
theorem mt_join (g cap : Nat) (w : World) (hc : ∀ (j : Nat) x, [Yak 1, Yak 1, Yak 0, Yak 0, Yak 0, Yak 7][j]? = some x → w.cell? ⟨g, 0 + j, none⟩ = some (.string x)) (hg : g < w.heap.size) (h6 : 6 ≤ cap) :
  Calls Tryd.prog 17 #[.slice (some ⟨g, 0, none⟩) 6 cap, .string ⟨#[32]⟩] w fun e w' => e = .returned (.string ⟨#[49, 32, 49, 32, 48, 32, 48, 32, 48, 32, 55]⟩) ∧ Upd [] w w' := by
 have h := Any.strings_Join (ρ := Ye8) msJoin ms_extra g 0 cap [Yak 1, Yak 1, Yak 0, Yak 0, Yak 0, Yak 7] ⟨#[32]⟩ w hc hg (by decide) h6 (by decide +kernel)
 refine Calls.mono h fun e w' ⟨he, hb⟩ => ⟨?_, Upd.of_below hb⟩
 rw [he]
 have e2 : (Lib.join ([Yak 1, Yak 1, Yak 0, Yak 0, Yak 0, Yak 7].map (·.data.toList)) (⟨#[32]⟩ : ByteArray).data.toList) = [49, 32, 49, 32, 48, 32, 48, 32, 48, 32, 55] := by decide +kernel
 rw [e2]
theorem Text_one (w : World) : Calls Tryd.prog 11 #[.agg #[.int .i64 1, .int .i64 1, .int .i64 0, .int .i64 0, .int .i64 0, .int .u32 7, .bool false]] w fun e w' => e = .returned (.string ⟨#[49, 32, 49, 32, 48, 32, 48, 32, 48, 32, 55]⟩) ∧ Upd [] w w' := by
 obtain ⟨i0, hi, hz0, hz1, hz2⟩ := info_parts mt_info
 have HI := Yh_ (And.intro hi (And.intro hz0 (And.intro hz1 hz2)))
 clear hi hz0 hz1 hz2
 have HB0 := Yh_ (show MtB w ((w.alloc (.cells #[.int .i64 1, .int .i64 1, .int .i64 0, .int .i64 0, .int .i64 0, .int .u32 7, .bool false] 35)).alloc (.cells #[.int .i64 1, .int .i64 1, .int .i64 0, .int .i64 0, .int .i64 0] 3)) from
  ⟨heap_alloc2_old _ _ _, heap_alloc2_new _ _ _, ((Upd.refl [] w).alloc _).alloc _⟩)
 go_enter Tryd.func11, Tryd.ntmps11
 go_wp2_with fail
 generalize (w.alloc (.cells #[.int .i64 1, .int .i64 1, .int .i64 0, .int .i64 0, .int .i64 0, .int .u32 7, .bool false] 35)).alloc (.cells #[.int .i64 1, .int .i64 1, .int .i64 0, .int .i64 0, .int .i64 0] 3) = w0 at *
 go_loopw [3, 18] (fun v i wr => ∃ q : Int, i = .int .i64 q ∧ Hid (0 ≤ q ∧ q ≤ 5) ∧ Hid (wr.ownsRow (w.heap.size + 1 + 1) 9 1 v q.toNat (mtStrs.take q.toNat)) ∧ Hid (MtB w wr)) (fun _ i _ => (5 - intOf i).toNat)
 case atStart => exact ⟨0, rfl, Yh_ (by decide), Yh_ (World.ownsRow_nil _ _ _ _), HB0⟩
 case round =>
  obtain ⟨q, rfl, hq, HO, HB⟩ := hrel
  have hq5 : q = 0 ∨ q = 1 ∨ q = 2 ∨ q = 3 ∨ q = 4 ∨ q = 5 := by have := hq.out; omega
  have cx := Ya HB.out.x
  have cl := Ya HB.out.l
  have hlx := Yr HB.out.x
  have hll := Yr HB.out.l
  unfold Mi.cells at cx
  have tok : True := trivial
  rcases hq5 with rfl | rfl | rfl | rfl | rfl | rfl
  ·go_wp2_with (first
    |(go_at_call 15; refine (Yfl 1 (by decide) _).mono ?_; rintro e w' ⟨rfl, rfl⟩)
    |(have _t := tok; clear _t; at_builtin; refine wpList_append_own _ rfl _ _ 58 rfl (w.heap.size + 1 + 1) 9 i0 (.string ⟨#[]⟩) 1 16 Tryd.underlying58 HI.out.1 HI.out.2.1 HI.out.2.2.1 HI.out.2.2.2 rfl (by decide) _ _ _ rfl (HO.out.alloc _) ⟨wr.heap.size, 0, none⟩ 1 1 [.string (Yak 1)] rfl rfl ?_ ?_ ?_ ?_ ?_ ?_; clear tok))
   ·exact Yd5 _ _
   ·exact Yes _
   ·unfold maxLen; decide
   ·decide
   ·have := HB.out.le; simp; omega
   ·intro v' w1 hown' hgrow _
    have hU1 := Upd.of_grown hgrow
    have hne := HO.out.lt
    have HB2 := Yh_ (Yde HB.out (((Upd.refl [] wr).alloc (.cells #[.string (Yak 1)] 9)).trans (T := _) hU1 (by simp) (fun z hz => .inl hz)) (fun z hz => (hne z (by simpa using hz)).1))
    have HO2 := Yh_ hown'
    clear hU1 hne hown' hgrow HO HB cx cl hlx hll
    go_wp2_with fail
    go_roundw
    case rel => exact ⟨1, rfl, Yh_ (by decide), HO2, HB2⟩
    case measure => decide
  ·go_wp2_with (first
    |(go_at_call 15; refine (Yfl 1 (by decide) _).mono ?_; rintro e w' ⟨rfl, rfl⟩)
    |(have _t := tok; clear _t; at_builtin; refine wpList_append_own _ rfl _ _ 58 rfl (w.heap.size + 1 + 1) 9 i0 (.string ⟨#[]⟩) 1 16 Tryd.underlying58 HI.out.1 HI.out.2.1 HI.out.2.2.1 HI.out.2.2.2 rfl (by decide) _ _ _ rfl (HO.out.alloc _) ⟨wr.heap.size, 0, none⟩ 1 1 [.string (Yak 1)] rfl rfl ?_ ?_ ?_ ?_ ?_ ?_; clear tok))
   ·exact Yd5 _ _
   ·exact Yes _
   ·unfold maxLen; decide
   ·decide
   ·have := HB.out.le; simp; omega
   ·intro v' w1 hown' hgrow _
    have hU1 := Upd.of_grown hgrow
    have hne := HO.out.lt
    have HB2 := Yh_ (Yde HB.out (((Upd.refl [] wr).alloc (.cells #[.string (Yak 1)] 9)).trans (T := _) hU1 (by simp) (fun z hz => .inl hz)) (fun z hz => (hne z (by simpa using hz)).1))
    have HO2 := Yh_ hown'
    clear hU1 hne hown' hgrow HO HB cx cl hlx hll
    go_wp2_with fail
    go_roundw
    case rel => exact ⟨2, rfl, Yh_ (by decide), HO2, HB2⟩
    case measure => decide
  ·go_wp2_with (first
    |(go_at_call 15; refine (Yfl 0 (by decide) _).mono ?_; rintro e w' ⟨rfl, rfl⟩)
    |(have _t := tok; clear _t; at_builtin; refine wpList_append_own _ rfl _ _ 58 rfl (w.heap.size + 1 + 1) 9 i0 (.string ⟨#[]⟩) 1 16 Tryd.underlying58 HI.out.1 HI.out.2.1 HI.out.2.2.1 HI.out.2.2.2 rfl (by decide) _ _ _ rfl (HO.out.alloc _) ⟨wr.heap.size, 0, none⟩ 1 1 [.string (Yak 0)] rfl rfl ?_ ?_ ?_ ?_ ?_ ?_; clear tok))
   ·exact Yd5 _ _
   ·exact Yes _
   ·unfold maxLen; decide
   ·decide
   ·have := HB.out.le; simp; omega
   ·intro v' w1 hown' hgrow _
    have hU1 := Upd.of_grown hgrow
    have hne := HO.out.lt
    have HB2 := Yh_ (Yde HB.out (((Upd.refl [] wr).alloc (.cells #[.string (Yak 0)] 9)).trans (T := _) hU1 (by simp) (fun z hz => .inl hz)) (fun z hz => (hne z (by simpa using hz)).1))
    have HO2 := Yh_ hown'
    clear hU1 hne hown' hgrow HO HB cx cl hlx hll
    go_wp2_with fail
    go_roundw
    case rel => exact ⟨3, rfl, Yh_ (by decide), HO2, HB2⟩
    case measure => decide
  ·go_wp2_with (first
    |(go_at_call 15; refine (Yfl 0 (by decide) _).mono ?_; rintro e w' ⟨rfl, rfl⟩)
    |(have _t := tok; clear _t; at_builtin; refine wpList_append_own _ rfl _ _ 58 rfl (w.heap.size + 1 + 1) 9 i0 (.string ⟨#[]⟩) 1 16 Tryd.underlying58 HI.out.1 HI.out.2.1 HI.out.2.2.1 HI.out.2.2.2 rfl (by decide) _ _ _ rfl (HO.out.alloc _) ⟨wr.heap.size, 0, none⟩ 1 1 [.string (Yak 0)] rfl rfl ?_ ?_ ?_ ?_ ?_ ?_; clear tok))
   ·exact Yd5 _ _
   ·exact Yes _
   ·unfold maxLen; decide
   ·decide
   ·have := HB.out.le; simp; omega
   ·intro v' w1 hown' hgrow _
    have hU1 := Upd.of_grown hgrow
    have hne := HO.out.lt
    have HB2 := Yh_ (Yde HB.out (((Upd.refl [] wr).alloc (.cells #[.string (Yak 0)] 9)).trans (T := _) hU1 (by simp) (fun z hz => .inl hz)) (fun z hz => (hne z (by simpa using hz)).1))
    have HO2 := Yh_ hown'
    clear hU1 hne hown' hgrow HO HB cx cl hlx hll
    go_wp2_with fail
    go_roundw
    case rel => exact ⟨4, rfl, Yh_ (by decide), HO2, HB2⟩
    case measure => decide
  ·go_wp2_with (first
    |(go_at_call 15; refine (Yfl 0 (by decide) _).mono ?_; rintro e w' ⟨rfl, rfl⟩)
    |(have _t := tok; clear _t; at_builtin; refine wpList_append_own _ rfl _ _ 58 rfl (w.heap.size + 1 + 1) 9 i0 (.string ⟨#[]⟩) 1 16 Tryd.underlying58 HI.out.1 HI.out.2.1 HI.out.2.2.1 HI.out.2.2.2 rfl (by decide) _ _ _ rfl (HO.out.alloc _) ⟨wr.heap.size, 0, none⟩ 1 1 [.string (Yak 0)] rfl rfl ?_ ?_ ?_ ?_ ?_ ?_; clear tok))
   ·exact Yd5 _ _
   ·exact Yes _
   ·unfold maxLen; decide
   ·decide
   ·have := HB.out.le; simp; omega
   ·intro v' w1 hown' hgrow _
    have hU1 := Upd.of_grown hgrow
    have hne := HO.out.lt
    have HB2 := Yh_ (Yde HB.out (((Upd.refl [] wr).alloc (.cells #[.string (Yak 0)] 9)).trans (T := _) hU1 (by simp) (fun z hz => .inl hz)) (fun z hz => (hne z (by simpa using hz)).1))
    have HO2 := Yh_ hown'
    clear hU1 hne hown' hgrow HO HB cx cl hlx hll
    go_wp2_with fail
    go_roundw
    case rel => exact ⟨5, rfl, Yh_ (by decide), HO2, HB2⟩
    case measure => decide
  ·have tokF : True := trivial
   go_wp2_with (first
    |(have _t := tokF; clear _t; go_at_call 16; refine (mtFmt _).mono ?_; rintro e w' ⟨rfl, rfl⟩; clear tokF)
    |(have _t := tok; clear _t; at_builtin; refine wpList_append_own _ rfl _ _ 58 rfl (w.heap.size + 1 + 1) 9 i0 (.string ⟨#[]⟩) 1 16 Tryd.underlying58 HI.out.1 HI.out.2.1 HI.out.2.2.1 HI.out.2.2.2 rfl (by decide) _ _ _ rfl (HO.out.alloc _) ⟨wr.heap.size, 0, none⟩ 1 1 [.string (Yak 7)] rfl rfl ?_ ?_ ?_ ?_ ?_ ?_; clear tok))
   ·exact Yd5 _ _
   ·exact Yes _
   ·unfold maxLen; decide
   ·decide
   ·have := HB.out.le; simp; omega
   ·intro v' w1 hown' hgrow _
    have hU1 := Upd.of_grown hgrow
    have hne := HO.out.lt
    have hB2 := Yde HB.out (((Upd.refl [] wr).alloc (.cells #[.string (Yak 7)] 9)).trans (T := _) hU1 (by simp) (fun z hz => .inl hz)) (fun z hz => (hne z (by simpa using hz)).1)
    have HB2 := Yh_ hB2
    have cx := Ya hB2.x
    unfold Mi.cells at cx
    obtain ⟨g, cap, rfl, hgl, hcc⟩ := mt_form hown'
    have HC := Yh_ hcc
    clear hU1 hne hown' hgrow HO HB cl hlx hll hcc hB2
    go_wp2_with (go_at_call 17; refine (mt_join g cap _ HC.out.1 hgl HC.out.2).mono ?_; rintro e w5 ⟨rfl, hu⟩; have H5 := Yh_ (HB2.out.u.also hu (by simp)); clear hu)
    go_ret
    exact ⟨rfl, H5.out⟩
end
theorem mi_info3 : (Tryd.prog.info? 35).map (fun i => (i.zero, i.size, i.bytes)) = some (some (.agg Mi.zero.cells), 7, 48) := by kernel_rfl
def Ybc (w : World) (base : Nat) (v : Value) (l : List Mi) : Prop := w.ownsRow base 35 7 v l.length (Yas l)
structure GrewM (w : World) (base : Nat) (v : Value) (l : List Mi) (v' : Value) (w' : World) : Prop where
 o : Ybc w' base v' l
 u : Upd v.ownBlock.toList w w'
theorem Ygt (w : World) (base : Nat) : Ybc w base (.slice none 0 0) [] := World.ownsRow_nil _ _ _ _
theorem Ybc.keep {w w' : World} {base : Nat} {v : Value} {l : List Mi} {S : List Nat} (h : Ybc w base v l) (u : Upd S w w') (hS : ∀ g, v.ownBlock = some g → g ∉ S) : Ybc w' base v l := by
 refine ⟨h.1, ?_⟩
 rcases h.2 with h0 | ⟨g, cap, cur, rfl, hb, hg, hr⟩
 ·exact .inl h0
 ·exact .inr ⟨g, cap, cur, rfl, hb, u.get hg (hS g rfl), hr⟩
theorem Ybc.block {w : World} {base : Nat} {v : Value} {l : List Mi} (h : Ybc w base v l) : ∀ g, v.ownBlock = some g → base ≤ g ∧ g < w.heap.size := by
 intro g e
 rcases h.2 with ⟨rfl, _⟩ | ⟨g', cap, cur, rfl, hb, hg, hr⟩
 ·cases e
 ·simp only [Value.ownBlock, Option.some.injEq] at e
  subst e
  exact ⟨hb, Yr hg⟩
theorem Ybc.old {w w' : World} {base : Nat} {v : Value} {l : List Mi} {S : List Nat} (h : Ybc w base v l) (u : Upd S w w') (hS : ∀ g ∈ S, g < base ∨ w.heap.size ≤ g) : Ybc w' base v l :=
 h.keep u fun g e hg => by have := h.block g e; have := hS g hg; omega
theorem Ybc.form {w : World} {base : Nat} {v : Value} {l : List Mi} (h : Ybc w base v l) : ∃ a c, v = .slice a l.length c := by
 rcases h.2 with ⟨h1, h2⟩ | ⟨g, cap, cur, h1, _⟩
 ·exact ⟨none, 0, by rw [h1, h2]⟩
 ·exact ⟨_, _, h1⟩
theorem Ybc.sl {w : World} {base : Nat} {v : Value} {l : List Mi} (h : Ybc w base v l) : ∃ g, MSl w v l g ∧ (base ≤ g ∨ g = 0) ∧ (l ≠ [] → base ≤ g) := by
 rcases h.2 with ⟨h1, h2⟩ | ⟨g, cap, cur, h1, hb, hg, hn, _, _, hc⟩
 ·exact ⟨0, .inl ⟨none, 0, h1, List.eq_nil_of_length_eq_zero h2⟩, .inr rfl, fun hh => absurd (List.eq_nil_of_length_eq_zero h2) hh⟩
 ·refine ⟨g, .inr ⟨0, cap, h1, Yr hg, fun k u hu => ?_⟩, .inl hb, fun _ => hb⟩
  rw [← hc] at hu
  rw [Ya hg, Nat.zero_add, ← Array.getElem?_toList]
  rw [List.getElem?_take] at hu
  split at hu
  ·exact hu
  ·cases hu
theorem Ycv {w : World} {g c : Nat} {l : List Mi} {T : TypeId} {f : Nat × Nat} (h : w.heap[g]? = some (.cells (Yas l).toArray T f)) : MSl w (.slice (some ⟨g, 0, none⟩) l.length c) l g :=
 .inr ⟨0, c, rfl, Yr h, fun k u hu => by rw [Ya h, Nat.zero_add, List.getElem?_toArray]; exact hu⟩
theorem Ykx (l : List Mi) (k : Nat) : Yas (l.take k) = (Yas l).take (k * 7) := by
 induction l generalizing k with
 |nil => simp [Yas]
 |cons x l ih =>
  cases k with
  |zero => simp [Yas]
  |succ k =>
   rw [List.take_succ_cons, Yd1, Yd1, ih]
   have e : ((k + 1) * 7) = x.cells.toList.length + k * 7 := by rw [Yep]; omega
   rw [e, List.take_length_add_append]
theorem MSl.cut {w : World} {b : Option Addr} {n c : Nat} {l : List Mi} {g : Nat} (h : MSl w (.slice b n c) l g) (k : Nat) (hk : k ≤ l.length) : MSl w (.slice b k c) (l.take k) g := by
 rcases h with ⟨a, c', h1, h2⟩ | ⟨o, c', h1, h2, h3⟩
 ·injection h1 with e1 e2 e3
  subst h2
  have : k = 0 := by simpa using hk
  subst this
  exact .inl ⟨b, c, rfl, by simp⟩
 ·injection h1 with e1 e2 e3
  subst e1
  refine .inr ⟨o, c, by rw [List.length_take, Nat.min_eq_left hk], h2, fun j u hu => h3 j u ?_⟩
  rw [Ykx, List.getElem?_take] at hu
  split at hu
  ·exact hu
  ·cases hu
theorem Yff (w : World) (base : Nat) (ty : TypeId) (v : Value) (l : List Mi) (hown : Ybc w base v l) (vb : Value) (m : List Mi) (g : Nat) (hb : MSl w vb m g) (hn : l.length + m.length ≤ 10000) (hbase : base ≤ w.heap.size) :
  ∃ v' w', (Builtin.append_ #[29, 29] ty #[v, vb]).run Tryd.prog w = .ok v' w' ∧ GrewM w base v (l ++ m) v' w' := by
 obtain ⟨i, hi, hz0, hz1, hz2⟩ := info_parts mi_info3
 rcases hb with ⟨a, c, rfl, rfl⟩ | ⟨o, c, rfl, hg, hc⟩
 ·refine ⟨v, w, ?_, ?_, Upd.refl _ _⟩
  ·rcases hown.2 with ⟨rfl, h0⟩ | ⟨g, cap, cur, rfl, _, _, hnc, _⟩
   ·cases a <;> simp [Builtin.append_, run_underlying Tryd.underlying29, sizeOf, typeInfo, hi, Builtin.lenOf, Builtin.firstCells, loadCells, loadCellsFrom]
   ·cases a <;> simp [Builtin.append_, run_underlying Tryd.underlying29, sizeOf, typeInfo, hi, Builtin.lenOf, Builtin.firstCells, hnc, storeCells, loadCells, loadCellsFrom]
  ·rw [List.append_nil]; exact hown
 ·obtain ⟨v', w', h1, h2, h3, _, h5⟩ := run_append_own_at (P := Tryd.prog) w base 29 ty 35 i _ 7 48 Tryd.underlying29 hi hz0 hz1 hz2 rfl (by decide) v l.length _ hown ⟨g, o, none⟩ m.length c (Yas m) (by rw [Yih]) (fun j u hu => by rw [Addr.add_lit]; exact hc j u hu)
   Yld (by unfold maxLen; omega) (by omega) hbase
  refine ⟨v', w', h1, ?_, Upd.of_grown h3⟩
  unfold Ybc
  rw [List.length_append, Ylh]
  exact h2
theorem Ycs {ops : Array Oper} {rest : List Oper} {o : Oper} {a : Act} {w : World} {Q : Exit → Act → World → Prop} (hgd : o.guard = none) (s x : Operand)
  (ho : o.op = .call { callee := .builtin .append, args := #[s, x], argTypes := #[29, 29] })
  (base : Nat) (v : Value) (l : List Mi) (hs : a.eval s = v) (hown : Ybc w base v l) (vb : Value) (m : List Mi) (g : Nat) (hx : a.eval x = vb) (hb : MSl w vb m g) (hn : l.length + m.length ≤ 10000) (hbase : base ≤ w.heap.size)
  (h : ∀ v' w', GrewM w base v (l ++ m) v' w' → wpList Tryd.prog ops Q rest (a.put o.dst v') w') : wpList Tryd.prog ops Q (o :: rest) a w := by
 refine wpList_plain hgd fun _ hK => ?_
 obtain ⟨v', w', hr, h2⟩ := Yff w base o.type v l hown vb m g hb hn hbase
 unfold Oper.wp execOp
 simp only [ho, resolve, invoke, builtin, Sem.run_bind, Sem.run_pure, Result.andThen_ok, List.map_toArray, List.map_cons, List.map_nil, hs, hx, hr]
 exact hK _ _ (h v' w' h2)
def Mem.samePage (M N : Mem) (p : Nat) : Bool := (M.R p == N.R p) && (List.range 256).all fun j => M.B (p * 256 + j) == N.B (p * 256 + j)
def Mem.same (M N : Mem) : Bool := (List.range 64).all fun p => M.samePage N p
structure Yd3 where
 pg : Int
 ct : Int
 rt : Int
 by_ : ByteArray
 deriving Inhabited
def Yd3.ok (s : Yd3) : Prop := -9223372036854775808 ≤ s.ct ∧ s.ct ≤ 9223372036854775807
def Yf2 (w : World) (v : Value) (l : List Yd3) (g : Nat) : Prop :=
 (∃ a c, v = .slice a 0 c ∧ l = []) ∨
 ∃ o c, v = .slice (some ⟨g, o, none⟩) l.length c ∧ g < w.heap.size ∧ l.length ≤ 9223372036854775807 ∧ ∀ i s, l[i]? = some s → w.cell? ⟨g, o + i * 4, none⟩ = some (.int .i64 s.pg) ∧ w.cell? ⟨g, o + i * 4 + 1, none⟩ = some (.int .i64 s.ct) ∧ w.cell? ⟨g, o + i * 4 + 2, none⟩ = some (.int .i64 s.rt) ∧ w.cell? ⟨g, o + i * 4 + 3, none⟩ = some (.string s.by_)
theorem Yf2.keep {w w' : World} {v : Value} {l : List Yd3} {g : Nat} {S : List Nat} (h : Yf2 w v l g) (u : Upd S w w') (hg : g ∉ S) : Yf2 w' v l g := by
 rcases h with h | ⟨o, c, h1, h2, h4, h3⟩
 ·exact .inl h
 ·refine .inr ⟨o, c, h1, Nat.lt_of_lt_of_le h2 u.size, h4, fun i s hs => ?_⟩
  have e : ∀ k, w'.cell? ⟨g, k, none⟩ = w.cell? ⟨g, k, none⟩ := fun k => by
   simp only [World.cell?]; rw [u.block g h2 hg]
  rw [e, e, e, e]
  exact h3 i s hs
section
open Go.WideShapes Go.ChangeShapes
structure Yd3.Ok (s : Yd3) : Prop where
 pg : -9223372036854775808 ≤ s.pg ∧ s.pg ≤ 9223372036854775807
 ct : -9223372036854775808 ≤ s.ct ∧ s.ct ≤ 9223372036854775807
 rt : -9223372036854775808 ≤ s.rt ∧ s.rt ≤ 9223372036854775807
 by_ : s.by_.size ≤ maxLen
structure SArg (w : World) (v : Value) (L : List Yd3) (g : Nat) : Prop where
 sp : Yf2 w v L g
 ok : ∀ s ∈ L, s.Ok
 len : L.length ≤ maxLen
 lt : g ≤ w.heap.size
 form : ∀ b n c, v = .slice b n c → n = L.length
theorem SArg.keep {w w' : World} {v : Value} {L : List Yd3} {g : Nat} (h : SArg w v L g) (u : Upd [] w w') : SArg w' v L g :=
 ⟨h.sp.keep u (by simp), h.ok, h.len, Nat.le_trans h.lt u.size, h.form⟩
end
theorem Upd.drewN {S : List Nat} {a b : World} (h : Upd S a b) (n : Nat) : Upd S a (b.drewN n) := ⟨h.os, h.tape, h.output, h.size, h.block⟩
def Mem.rat (M : Mem) (k : Nat) : Value := if k < 64 then .int .i64 (M.R k) else .int .u8 (M.B (k - 64))
structure HoldsR (C : Array Value) (M : Mem) : Prop where
 size : C.size = 16448
 get : ∀ k, k < 16448 → C[k]? = some (M.rat k)
def Mem.mapM (M : Mem) (p n r : Int) : Mem := if M.mapB p n r then M.mapN p.toNat n.toNat r else M
structure Rep (v : Value) (l : List Value) (n : Nat) : Prop where
 eq : l = List.replicate n v
theorem Rep.append {v : Value} {l m : List Value} {a b : Nat} (h : Rep v l a) (k : Rep v m b) : Rep v (l.append m) (a + b) :=
 ⟨by rw [h.eq, k.eq]; exact List.replicate_append_replicate⟩
structure Rep2 (v u : Value) (l : List Value) (n m : Nat) : Prop where
 eq : l = List.replicate n v ++ List.replicate m u
theorem Rep2.append {v u : Value} {l l' : List Value} {n m m' : Nat} (h : Rep2 v u l n m) (k : Rep u l' m') : Rep2 v u (l.append l') n (m + m') :=
 ⟨by rw [h.eq, k.eq]; show (List.replicate n v ++ List.replicate m u) ++ List.replicate m' u = _; rw [List.append_assoc, List.replicate_append_replicate]⟩
theorem rat_one (M : Mem) (k : Nat) : (M.rat k).oneCell' = true := by
 unfold Mem.rat; split <;> rfl
theorem HoldsR.one {C : Array Value} {M : Mem} (h : HoldsR C M) : C.all (·.oneCell') = true := by
 rw [Array.all_eq_true]
 intro i hi
 have hi' : i < 16448 := by rw [← h.size]; exact hi
 have e := h.get i hi'
 rw [Array.getElem?_eq_getElem hi] at e
 injection e with e
 rw [e]
 exact rat_one M i
section
open Go.WideShapes Go.ChangeShapes
def ByS0 (w : World) (v : Value) (l : List Int) (g : Nat) : Prop := (∃ a c, v = .slice a 0 c ∧ l = []) ∨ (l ≠ [] ∧ g < w.heap.size ∧ BySl w v l g)
theorem ByS0.keep {w w' : World} {v : Value} {l : List Int} {g : Nat} (h : ByS0 w v l g) (u : Upd [] w w') : ByS0 w' v l g := by
 rcases h with h | ⟨h0, h1, h2⟩
 ·exact .inl h
 ·exact .inr ⟨h0, Nat.lt_of_lt_of_le h1 u.size, h2.keep u (by simp)⟩
structure Yf4 where
 wt : Int
 pg : Int
 ct : Int
 rt : Int
 nb : Int
 at_ : Int
 v : Int
 vb : Value
 vs : Value
 B : List Int
 S : List Yd3
 gb : Nat
 gs : Nat
def Yf4.cells (s : Yf4) : Array Value := #[.int .i64 s.wt, .int .i64 s.pg, .int .i64 s.ct, .int .i64 s.rt, .int .i64 s.nb, .int .u32 s.at_, .int .u32 s.v, s.vb, s.vs]
structure Yf4.Good (q : Yf4) (w : World) : Prop where
 pg : -9223372036854775808 ≤ q.pg ∧ q.pg ≤ 9223372036854775807
 ct : -9223372036854775808 ≤ q.ct ∧ q.ct ≤ 9223372036854775807
 nb : -9223372036854775808 ≤ q.nb ∧ q.nb ≤ 9223372036854775807
 at_ : 0 ≤ q.at_ ∧ q.at_ < 4294967296
 v : 0 ≤ q.v ∧ q.v < 4294967296
 b : ByS0 w q.vb q.B q.gb
 bl : ∀ i, 0 ≤ q.B.getD i 0 ∧ q.B.getD i 0 ≤ 255
 bn : q.B.length ≤ maxLen
 bf : ∃ b c, q.vb = .slice b q.B.length c
 sa : SArg w q.vs q.S q.gs
 sf : ∃ b c, q.vs = .slice b q.S.length c
theorem Yf4.Good.keep {s : Yf4} {w w' : World} (h : s.Good w) (u : Upd [] w w') : s.Good w' := ⟨h.pg, h.ct, h.nb, h.at_, h.v, h.b.keep u, h.bl, h.bn, h.bf, h.sa.keep u, h.sf⟩
end
section
structure Kn (w : World) (a pb : Nat) (M : Mem) (L : List (Nat × Obj)) (w1 : World) : Prop where
 m : Yi w1 a pb M
 u : Upd [] w w1
 v : ∀ p ∈ L, w1.heap[p.1]? = some p.2
 s : L.Pairwise (fun p q => q.1 < p.1)
 t : ∀ p ∈ L, p.1 < w1.heap.size ∧ p.1 ≠ pb ∧ p.1 ≠ a
 l : w.heap.size ≤ pb
 w : ∀ p ∈ L, w.heap.size ≤ p.1
section
variable {w w1 w2 : World} {a pb : Nat} {M M2 : Mem} {L : List (Nat × Obj)} {T T2 : St} {F : Flt}
theorem Kn.step (h : Kn w a pb M L w1) (hm : Yi w2 a pb M2) (u : Upd [pb] w1 w2) : Kn w a pb M2 L w2 :=
 ⟨hm, h.u.also u (by have := h.l; simp <;> omega), fun p hp => u.get (h.v p hp) (by have := (h.t p hp).2.1; simpa using this), h.s, fun p hp => ⟨Nat.lt_of_lt_of_le (h.t p hp).1 u.size, (h.t p hp).2⟩, h.l, h.w⟩
theorem Yet (hw : ((w1.alloc (.cells St.zero.cells 28)).alloc (.cells #[.int .i64 0, .int .u32 0, .int .u32 0, .int .i64 0] 37)).setCells w1.heap.size 0 T.cells.toList = w2) :
  w2.heap[w1.heap.size]? = some (.cells T.cells 28 (0, 0)) ∧ w2.heap[w1.heap.size + 1]? = some (.cells #[.int .i64 0, .int .u32 0, .int .u32 0, .int .i64 0] 37 (0, 0)) ∧ Upd [] w1 w2 := by
 have u := ((Upd.refl [] w1).alloc (.cells St.zero.cells 28)).alloc (.cells #[.int .i64 0, .int .u32 0, .int .u32 0, .int .i64 0] 37)
 subst hw
 have u2 := (Upd.refl [w1.heap.size] ((w1.alloc (.cells St.zero.cells 28)).alloc (.cells #[.int .i64 0, .int .u32 0, .int .u32 0, .int .i64 0] 37))).setCells (q := w1.heap.size) (.inl (by simp)) T.cells.toList 0
 exact ⟨Ya7 T (heap_alloc2_old w1 _ _) (St.size _), u2.get (heap_alloc2_new w1 (.cells St.zero.cells 28) (.cells #[.int .i64 0, .int .u32 0, .int .u32 0, .int .i64 0] 37)) (by simp), u.also u2 (by simp)⟩
theorem Kn.set {p1 p2 p3 : Nat × Obj} {b : Nat} (h : Kn w a pb M (p1 :: p2 :: p3 :: (b, .cells T.cells 28 (0, 0)) :: L) w1) (k : Nat) (hk : k < 8) (v : Int) : Kn w a pb M (p1 :: p2 :: p3 :: (b, .cells (T.setR k v).cells 28 (0, 0)) :: L) (w1.setCell ⟨b, k, none⟩ (.int .u32 v)) := by
 have hb := h.t (b, .cells T.cells 28 (0, 0)) (by simp)
 have u := (Upd.refl [b] w1).setCell (p := ⟨b, k, none⟩) (.inl (by simp)) (.int .u32 v)
 have hs := h.s
 simp only [List.pairwise_cons] at hs
 have hn : ∀ p, (p = p1 ∨ p = p2 ∨ p = p3 ∨ p ∈ L) → p.1 ∉ [b] := by
  intro p hp hh
  simp only [List.mem_singleton] at hh
  rcases hp with rfl | rfl | rfl | hp
  ·have := hs.1 (b, .cells T.cells 28 (0, 0)) (by simp); dsimp only at this; omega
  ·have := hs.2.1 (b, .cells T.cells 28 (0, 0)) (by simp); dsimp only at this; omega
  ·have := hs.2.2.1 (b, .cells T.cells 28 (0, 0)) (by simp); dsimp only at this; omega
  ·have := hs.2.2.2.1 p hp; omega
 refine ⟨h.m.keep u (by simpa using fun e => hb.2.2 e.symm) (by simpa using fun e => hb.2.1 e.symm), ?_, fun p hp => ?_, ?_, fun p hp => ?_, h.l, fun p hp => ?_⟩
 ·exact h.u.also u (fun x hx => .inr (by simp only [List.mem_singleton] at hx; rw [hx]; exact h.w (b, .cells T.cells 28 (0, 0)) (by simp)))
 ·simp only [List.mem_cons] at hp
  rcases hp with rfl | rfl | rfl | rfl | hp
  ·exact u.get (h.v _ (by simp)) (hn _ (.inl rfl))
  ·exact u.get (h.v _ (by simp)) (hn _ (.inr (.inl rfl)))
  ·exact u.get (h.v _ (by simp)) (hn _ (.inr (.inr (.inl rfl))))
  ·dsimp only; rw [← St.cells_setR T k v hk]; exact Yf (h.v (b, .cells T.cells 28 (0, 0)) (by simp)) k _
  ·exact u.get (h.v _ (by simp [hp])) (hn _ (.inr (.inr (.inr hp))))
 ·simp only [List.pairwise_cons]
  refine ⟨fun q hq => ?_, fun q hq => ?_, fun q hq => ?_, hs.2.2.2.1, hs.2.2.2.2⟩
  all_goals
   simp only [List.mem_cons] at hq
  ·rcases hq with rfl | rfl | rfl | hq
   ·exact hs.1 _ (by simp)
   ·exact hs.1 _ (by simp)
   ·exact hs.1 (b, .cells T.cells 28 (0, 0)) (by simp)
   ·exact hs.1 _ (by simp [hq])
  ·rcases hq with rfl | rfl | hq
   ·exact hs.2.1 _ (by simp)
   ·exact hs.2.1 (b, .cells T.cells 28 (0, 0)) (by simp)
   ·exact hs.2.1 _ (by simp [hq])
  ·rcases hq with rfl | hq
   ·exact hs.2.2.1 (b, .cells T.cells 28 (0, 0)) (by simp)
   ·exact hs.2.2.1 _ (by simp [hq])
 ·simp only [List.mem_cons] at hp
  rcases hp with rfl | rfl | rfl | rfl | hp
  ·exact ⟨Nat.lt_of_lt_of_le (h.t _ (by simp)).1 u.size, (h.t _ (by simp)).2⟩
  ·exact ⟨Nat.lt_of_lt_of_le (h.t _ (by simp)).1 u.size, (h.t _ (by simp)).2⟩
  ·exact ⟨Nat.lt_of_lt_of_le (h.t _ (by simp)).1 u.size, (h.t _ (by simp)).2⟩
  ·exact ⟨Nat.lt_of_lt_of_le hb.1 u.size, hb.2⟩
  ·exact ⟨Nat.lt_of_lt_of_le (h.t _ (by simp [hp])).1 u.size, (h.t _ (by simp [hp])).2⟩
 ·simp only [List.mem_cons] at hp
  rcases hp with rfl | rfl | rfl | rfl | hp
  ·exact h.w _ (by simp)
  ·exact h.w _ (by simp)
  ·exact h.w _ (by simp)
  ·exact h.w (b, .cells T.cells 28 (0, 0)) (by simp)
  ·exact h.w _ (by simp [hp])
theorem Kn.two (h : Kn w a pb M L w1) (h2 : w2.heap[w1.heap.size]? = some (.cells T.cells 28 (0, 0)) ∧ w2.heap[w1.heap.size + 1]? = some (.cells #[.int .i64 0, .int .u32 0, .int .u32 0, .int .i64 0] 37 (0, 0)) ∧ Upd [] w1 w2) :
  Kn w a pb M ((w1.heap.size + 1, .cells (Yj F) 37 (0, 0)) :: (w1.heap.size, .cells T.cells 28 (0, 0)) :: L) ((((w2.setCell ⟨w1.heap.size + 1, 0, none⟩ (.int .i64 F.k)).setCell ⟨w1.heap.size + 1, 1, none⟩ (.int .u32 F.pc)).setCell ⟨w1.heap.size + 1, 2, none⟩ (.int .u32 F.a)).setCell ⟨w1.heap.size + 1, 3, none⟩ (.int .i64 F.wt)) := by
 have hpb : pb < w1.heap.size := by obtain ⟨C, _, hc⟩ := h.m.pg; exact Yr hc
 have hab : a < w1.heap.size := by obtain ⟨C, _, hc⟩ := h.m.hd; exact Yr hc
 have hs := h.u.size
 have u4 := Ybw (S := [w1.heap.size + 1]) (b := w1.heap.size + 1) (Upd.refl _ w2) (.inl (by simp)) (.int .i64 F.k) (.int .u32 F.pc) (.int .u32 F.a) (.int .i64 F.wt)
 have hf := Yft h2.2.1 (.int .i64 F.k) (.int .u32 F.pc) (.int .u32 F.a) (.int .i64 F.wt)
 have hl := Yr hf
 have u5 := h2.2.2.also (S' := [w1.heap.size + 1]) u4 (by simp)
 refine ⟨h.m.keep u5 (by simp) (by simp), h.u.also u5 (by simp), fun p hp => ?_, ?_, fun p hp => ?_, h.l, fun p hp => ?_⟩
 ·simp only [List.mem_cons] at hp
  rcases hp with rfl | rfl | hp
  ·exact hf
  ·exact u4.get h2.1 (by simp)
  ·exact u5.get (h.v p hp) (by simp)
 ·refine List.pairwise_cons.2 ⟨fun q hq => ?_, List.pairwise_cons.2 ⟨fun q hq => (h.t q hq).1, h.s⟩⟩
  simp only [List.mem_cons] at hq
  rcases hq with rfl | hq
  ·exact Nat.lt_succ_self _
  ·exact Nat.lt_succ_of_lt (h.t q hq).1
 ·simp only [List.mem_cons] at hp
  rcases hp with rfl | rfl | hp
  ·exact ⟨Nat.lt_of_lt_of_le (Yr h2.2.1) u4.size, by dsimp only; omega, by dsimp only; omega⟩
  ·exact ⟨Nat.lt_of_lt_of_le (Yr h2.1) u4.size, by dsimp only; omega, by dsimp only; omega⟩
  ·exact ⟨Nat.lt_of_lt_of_le (h.t p hp).1 u5.size, (h.t p hp).2⟩
 ·simp only [List.mem_cons] at hp
  rcases hp with rfl | rfl | hp
  ·exact Nat.le_succ_of_le hs
  ·exact hs
  ·exact h.w p hp
end
end
def k1 : Mem := Mem.zero.mapN (0 : Int).toNat (1 : Int).toNat 3
def k2 : Mem := k1.putN 0 16909060 (Yap 4).toNat
theorem Yc5 {n : Int} (h : (Lit.int .u32 n).wf = true) : 0 ≤ n ∧ n < 4294967296 := by
 simp [Lit.wf, IntKind.min, IntKind.max, IntKind.signed, IntKind.bits] at h; omega
section
section
variable {w w1 w2 : World} {a pb : Nat} {M M2 : Mem} {L : List (Nat × Obj)}
theorem Kn.get (h : Kn w a pb M L w1) (n : Nat) {b : Nat} {o : Obj} (hn : L[n]? = some (b, o)) : w1.heap[b]? = some o :=
 h.v (b, o) (List.mem_of_getElem? hn)
theorem Kn.put (h : Kn w a pb M L w1) (n : Nat) {b : Nat} {o o' : Obj} (hn : L[n]? = some (b, o)) (u : Upd [b] w1 w2) (ho : w2.heap[b]? = some o') : Kn w a pb M (L.set n (b, o')) w2 := by
 have hb := h.t (b, o) (List.mem_of_getElem? hn)
 have hw := h.w (b, o) (List.mem_of_getElem? hn)
 obtain ⟨hl, he⟩ := List.getElem?_eq_some_iff.1 hn
 have hs := List.pairwise_iff_getElem.1 h.s
 have hc : ∀ p, p ∈ L.set n (b, o') → p = (b, o') ∨ (p ∈ L ∧ p.1 ≠ b) := by
  intro p hp
  obtain ⟨j, hj⟩ := List.mem_iff_getElem?.1 hp
  rw [List.getElem?_set] at hj
  by_cases e : n = j
  ·subst e
   simp only [if_true, hl] at hj
   exact .inl (Option.some.inj hj).symm
  ·simp only [e, if_false] at hj
   obtain ⟨hl2, he2⟩ := List.getElem?_eq_some_iff.1 hj
   refine .inr ⟨List.mem_of_getElem? hj, fun hh => ?_⟩
   rcases Nat.lt_or_gt_of_ne e with h1 | h1
   ·have := hs n j hl hl2 h1; rw [he, he2, hh] at this; exact Nat.lt_irrefl _ this
   ·have := hs j n hl2 hl h1; rw [he, he2, hh] at this; exact Nat.lt_irrefl _ this
 refine ⟨h.m.keep u (by simpa using fun e => hb.2.2 e.symm) (by simpa using fun e => hb.2.1 e.symm), h.u.also u (fun x hx => .inr (by rw [List.mem_singleton.1 hx]; exact hw)), fun p hp => ?_, ?_, fun p hp => ?_, h.l, fun p hp => ?_⟩
 ·rcases hc p hp with rfl | ⟨h1, h2⟩
  ·exact ho
  ·exact u.get (h.v p h1) (by simpa using h2)
 ·refine List.pairwise_iff_getElem.2 fun i j hi hj hij => ?_
  rw [List.length_set] at hi hj
  have h1 : ∀ q (hq : q < L.length) (hq2 : q < (L.set n (b, o')).length), ((L.set n (b, o'))[q]).1 = (L[q]).1 := by
   intro q hq hq2
   rw [List.getElem_set]
   split
   ·rename_i e; subst e; rw [he]
   ·rfl
  rw [h1 i hi (by rw [List.length_set]; exact hi), h1 j hj (by rw [List.length_set]; exact hj)]
  exact hs i j hi hj hij
 ·rcases hc p hp with rfl | ⟨h1, h2⟩
  ·exact ⟨Nat.lt_of_lt_of_le hb.1 u.size, hb.2⟩
  ·exact ⟨Nat.lt_of_lt_of_le (h.t p h1).1 u.size, (h.t p h1).2⟩
 ·rcases hc p hp with rfl | ⟨h1, h2⟩
  ·exact hw
  ·exact h.w p h1
theorem Kn.add (h : Kn w a pb M L w1) (u : Upd [] w1 w2) {b : Nat} {o : Obj} (hb : w1.heap.size ≤ b) (ho : w2.heap[b]? = some o) : Kn w a pb M ((b, o) :: L) w2 := by
 have hpb : pb < w1.heap.size := by obtain ⟨C, _, hc⟩ := h.m.pg; exact Yr hc
 have hab : a < w1.heap.size := by obtain ⟨C, _, hc⟩ := h.m.hd; exact Yr hc
 have hs := h.u.size
 refine ⟨h.m.keep u (by simp) (by simp), h.u.also u (by simp), fun p hp => ?_, List.pairwise_cons.2 ⟨fun q hq => Nat.lt_of_lt_of_le (h.t q hq).1 hb, h.s⟩, fun p hp => ?_, h.l, fun p hp => ?_⟩
 ·rcases List.mem_cons.1 hp with rfl | hp
  ·exact ho
  ·exact u.get (h.v p hp) (by simp)
 ·rcases List.mem_cons.1 hp with rfl | hp
  ·exact ⟨Yr ho, by dsimp only; omega, by dsimp only; omega⟩
  ·exact ⟨Nat.lt_of_lt_of_le (h.t p hp).1 u.size, (h.t p hp).2⟩
 ·rcases List.mem_cons.1 hp with rfl | hp
  ·exact Nat.le_trans hs hb
  ·exact h.w p hp
end
section
variable {w : World} {a pb : Nat} {M : Mem} {s : St}
end
end
section
def cS (s : St) (z p : Bool) (b1 b2 : Bool) : St := { s with zf := cond b1 z s.zf, pf := cond b2 p s.pf }
section
variable {w w1 w2 : World} {d a pb n0 : Nat} {s : St} {i : Ins} {M M2 : Mem} {z p : Bool} {V : Array Value} {dn : Nat → Bool} {r : Nat → Value}
end
end
section
open Go.WideShapes Go.ChangeShapes
theorem wf_u64 {n : Int} (h : (Lit.int .u64 n).wf = true) : 0 ≤ n ∧ n < 18446744073709551616 := by
 simp [Lit.wf, IntKind.min, IntKind.max, IntKind.signed, IntKind.bits] at h; omega
theorem Ykq {H : Type} {enc : TypeId × Value → H} {w : World} {base : Nat} {spare : Nat → Bool} {held : Bool} {r : Reach} {b0 : Nat} {v : Value} {d : DataW H} {p : List MemPlace}
  (hv : Value.okWide Tryd.prog w r b0 28 v) (h : DataW.Trod enc Tryd.prog w base spare held 28 v d p) : ∃ s : St, v = .agg s.cells ∧ s.Ok := by
 obtain ⟨cs, rfl, hs, hc⟩ := Yj4 (t := 28) (by kernel_rfl) hv h
 have hs : cs.size = 17 := hs.trans (by kernel_rfl)
 obtain ⟨_, e0, z0, rfl, w0⟩ := hc 8 0 (.int .u32) (by kernel_rfl)
 obtain ⟨_, e1, z1, rfl, w1⟩ := hc 8 1 (.int .u32) (by kernel_rfl)
 obtain ⟨_, e2, z2, rfl, w2⟩ := hc 8 2 (.int .u32) (by kernel_rfl)
 obtain ⟨_, e3, z3, rfl, w3⟩ := hc 8 3 (.int .u32) (by kernel_rfl)
 obtain ⟨_, e4, z4, rfl, w4⟩ := hc 8 4 (.int .u32) (by kernel_rfl)
 obtain ⟨_, e5, z5, rfl, w5⟩ := hc 8 5 (.int .u32) (by kernel_rfl)
 obtain ⟨_, e6, z6, rfl, w6⟩ := hc 8 6 (.int .u32) (by kernel_rfl)
 obtain ⟨_, e7, z7, rfl, w7⟩ := hc 8 7 (.int .u32) (by kernel_rfl)
 obtain ⟨_, e8, z8, rfl, w8⟩ := hc 8 8 (.int .u32) (by kernel_rfl)
 obtain ⟨_, e9, z9, rfl⟩ := hc 8 9 .bool (by kernel_rfl)
 obtain ⟨_, e10, z10, rfl⟩ := hc 8 10 .bool (by kernel_rfl)
 obtain ⟨_, e11, z11, rfl⟩ := hc 8 11 .bool (by kernel_rfl)
 obtain ⟨_, e12, z12, rfl⟩ := hc 8 12 .bool (by kernel_rfl)
 obtain ⟨_, e13, z13, rfl⟩ := hc 8 13 .bool (by kernel_rfl)
 obtain ⟨_, e14, z14, rfl⟩ := hc 8 14 .bool (by kernel_rfl)
 obtain ⟨_, e15, z15, rfl⟩ := hc 8 15 .bool (by kernel_rfl)
 obtain ⟨_, e16, z16, rfl, w16⟩ := hc 8 16 (.int .u64) (by kernel_rfl)
 have w0 := Yc5 w0
 have w1 := Yc5 w1
 have w2 := Yc5 w2
 have w3 := Yc5 w3
 have w4 := Yc5 w4
 have w5 := Yc5 w5
 have w6 := Yc5 w6
 have w7 := Yc5 w7
 have w8 := Yc5 w8
 have w16 := wf_u64 w16
 refine ⟨⟨fun i => if i = 0 then z0 else if i = 1 then z1 else if i = 2 then z2 else if i = 3 then z3 else if i = 4 then z4 else if i = 5 then z5 else if i = 6 then z6 else if i = 7 then z7 else 0, z8, z9, z10, z11, z12, z13, z14, z15, z16⟩, ?_, ?_, ?_, ?_⟩
 ·congr 1
  apply Array.ext_getElem?
  intro j
  by_cases hj : j < 17
  ·match j, hj with
   |0, _ => exact e0
   |1, _ => exact e1
   |2, _ => exact e2
   |3, _ => exact e3
   |4, _ => exact e4
   |5, _ => exact e5
   |6, _ => exact e6
   |7, _ => exact e7
   |8, _ => exact e8
   |9, _ => exact e9
   |10, _ => exact e10
   |11, _ => exact e11
   |12, _ => exact e12
   |13, _ => exact e13
   |14, _ => exact e14
   |15, _ => exact e15
   |16, _ => exact e16
   |j + 17, h => omega
  ·rw [Array.getElem?_eq_none (by omega), Array.getElem?_eq_none (by rw [St.size]; omega)]
 ·intro i
  simp only
  repeat' split
  all_goals omega
 ·exact w8
 ·exact w16
end
section
section
variable {w w0 w1 w2 : World} {a pb : Nat} {M M2 : Mem} {L : List (Nat × Obj)} {T s' : St} {b : Nat}
theorem Kn.start0 (hu0 : Upd [] w w0) (ha : w0.heap.size ≤ a) (hp : w0.heap.size ≤ pb) (hM : Yi w1 a pb M) (hu1 : Upd [] w0 w1) : Kn w a pb M [] w1 :=
 ⟨hM, hu0.also hu1 (by simp), by simp, List.Pairwise.nil, by simp, Nat.le_trans hu0.size hp, by simp⟩
end
end
end Go.Proofs.YtjkolegknpflfaaDoor
