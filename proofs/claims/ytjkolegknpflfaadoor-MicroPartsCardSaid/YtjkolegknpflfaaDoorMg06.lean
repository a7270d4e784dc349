/-
  Parts of the proof (their names shortened by a program). No condition.
-/
import Derived.Test.YtjkolegknpflfaaDoorMg01
import Derived.Test.YtjkolegknpflfaaDoorMg05
import Derived.Outline
import Derived.Test.YtjkolegknpflfaaDoorMg04
import Derived.BigQuiet
import Derived.Deep.QuietTactic
import Derived.Deep.Cut
import Derived.Recover
import Derived.Test.YtjkolegknpflfaaDoorMg03
namespace Go.Proofs.YtjkolegknpflfaaDoor
open Go Go.RowKit
set_option linter.unusedVariables false
set_option linter.unusedSimpArgs false
set_option maxRecDepth 100000
set_option maxHeartbeats 16000000
theorem Yge (fb kb : Nat) (y0 y1 y2 y3 k0 : Value) (x0 x1 x2 x3 : Int) (older : List PanicEntry) (w : World)
  (hf : w.heap[fb]? = some (.cells #[y0, y1, y2, y3] 37 (0, 0))) (hk : w.heap[kb]? = some (.cells #[k0] 4 (0, 0))) (hne : fb ≠ kb) :
  CallsD Tryd.prog 78 #[.pointer (some ⟨fb, 0, none⟩), .pointer (some ⟨kb, 0, none⟩)] (.panicking ({ v := .iface 37 (.agg #[.int .i64 x0, .int .u32 x1, .int .u32 x2, .int .i64 x3]), recovered := false } :: older)) w fun e u' w' =>
   e = .returned (.tuple #[]) ∧ u' = .panicking ({ v := .iface 37 (.agg #[.int .i64 x0, .int .u32 x1, .int .u32 x2, .int .i64 x3]), recovered := true } :: older) ∧
    w'.heap[fb]? = some (.cells #[.int .i64 x0, .int .u32 x1, .int .u32 x2, .int .i64 x3] 37 (0, 0)) ∧ w'.heap[kb]? = some (.cells #[.bool false] 4 (0, 0)) ∧ Upd [fb, kb] w w' := by
 refine callsD_of_wpS Tryd.func78 rfl fun c₀ cs hu => ?_
 simp only [Tryd.ntmps78, List.size_toArray, List.length_cons, List.length_nil, Nat.reduceAdd, Nat.reduceSub, Array.replicate_succ, Array.replicate_zero, List.push_toArray, List.append_toArray, List.nil_append, List.cons_append]
 apply wpS_seq
 apply wpS_region
 simp [wpOpsS, go_sem, recoverD, hu, Tryd.ntmps78, Exit.thenS]
 refine wpS_of_wp ?_
 clear hu
 have hfl := Yr hf
 have hkl := Yr hk
 have hcf : ∀ o, w.cell? ⟨fb, o, none⟩ = #[y0, y1, y2, y3][o]? := Ya hf
 have hck : ∀ o, w.cell? ⟨kb, o, none⟩ = #[k0][o]? := Ya hk
 have hff : ∀ o, w.frozen? ⟨fb, o, none⟩ = false := Yc hf
 have hfk : ∀ o, w.frozen? ⟨kb, o, none⟩ = false := Yc hk
 have HF := Yh_ hf
 have HK := Yh_ hk
 clear hf hk
 have hta := Yea
 go_wp2_with fail
 refine ⟨rfl, _, rfl, _, results_none rfl _ _ _, rfl, rfl, ?_, ?_, ?_⟩
 ·refine Ym _ (Yd _ hne ?_)
  have h := Yf (Yf (Yf (Yf HF.out 0 (.int .i64 x0)) 1 (.int .u32 x1)) 2 (.int .u32 x2)) 3 (.int .i64 x3)
  exact h
 ·refine Ym _ ?_
  have h := Yd (a := ⟨fb, 3, none⟩) (.int .i64 x3) hne.symm (Yd (a := ⟨fb, 2, none⟩) (.int .u32 x2) hne.symm (Yd (a := ⟨fb, 1, none⟩) (.int .u32 x1) hne.symm (Yd (a := ⟨fb, 0, none⟩) (.int .i64 x0) hne.symm HK.out)))
  exact Yf h 0 (.bool false)
 ·exact ((((((Upd.refl _ _).setCell (by simp) _).setCell (by simp) _).setCell (by simp) _).setCell (by simp) _).setCell (by simp) _).alloc _
theorem Yjj (fb kb : Nat) (w : World) :
  CallsD Tryd.prog 78 #[.pointer (some ⟨fb, 0, none⟩), .pointer (some ⟨kb, 0, none⟩)] .returning w fun e u' w' => e = .returned (.tuple #[]) ∧ u' = .returning ∧ w = w' := by
 refine callsD_of_wpS Tryd.func78 rfl fun c₀ cs hu => ?_
 simp only [Tryd.ntmps78, List.size_toArray, List.length_cons, List.length_nil, Nat.reduceAdd, Nat.reduceSub, Array.replicate_succ, Array.replicate_zero, List.push_toArray, List.append_toArray, List.nil_append, List.cons_append]
 apply wpS_seq
 apply wpS_region
 simp [wpOpsS, go_sem, recoverD, hu, Tryd.ntmps78, Exit.thenS]
 refine wpS_of_wp ?_
 have HU := Yh_ hu
 clear hu
 go_wp2_with fail
 refine ⟨rfl, .returning, ?_, _, results_none rfl _ _ _, rfl, rfl, rfl⟩
 rw [← HU.out]
def Yj9 (fb kb : Nat) : List Deferred :=
 [{ target := .fn (.func 78) #[], args := #[.pointer (some ⟨fb, 0, none⟩), .pointer (some ⟨kb, 0, none⟩)] }]
theorem Ydl {fn : Func} {tmps : Array Value} {R : Ending → World → Prop} {w1 : World} {fb kb : Nat} {y0 y1 y2 y3 k0 : Value} (F : Flt) (V : Value)
  (hres : ∀ w2, w2.heap[fb]? = some (.cells #[.int .i64 F.k, .int .u32 F.pc, .int .u32 F.a, .int .i64 F.wt] 37 (0, 0)) → w2.heap[kb]? = some (.cells #[.bool false] 4 (0, 0)) → Upd [fb, kb] w1 w2 → (results fn tmps).run Tryd.prog w2 = .ok V w2)
  (hf : w1.heap[fb]? = some (.cells #[y0, y1, y2, y3] 37 (0, 0))) (hk : w1.heap[kb]? = some (.cells #[k0] 4 (0, 0))) (hne : fb ≠ kb)
  (hR : ∀ w2, Upd [fb, kb] w1 w2 → R (.returned V) w2) :
  Leaves Tryd.prog fn tmps R (Yj9 fb kb) (.panicking [{ v := .iface 37 F.val, recovered := false }]) w1 := by
 refine leaves_cons (f := 78) (args := #[.pointer (some ⟨fb, 0, none⟩), .pointer (some ⟨kb, 0, none⟩)]) (by simp) (by simp [go_sem]) ?_
 refine (Yge fb kb _ _ _ _ _ _ _ _ _ [] w1 hf hk hne).mono ?_
 rintro e u' w2 ⟨rfl, rfl, hf, hk, hU⟩
 simp only [settle, List.dropWhile_nil]
 exact ⟨_, hres w2 hf hk hU, hR _ hU⟩
theorem Yfk {fn : Func} {tmps : Array Value} {R : Ending → World → Prop} {w1 : World} {fb kb : Nat} (V : Value) (hres : (results fn tmps).run Tryd.prog w1 = .ok V w1) (hR : R (.returned V) w1) :
  Leaves Tryd.prog fn tmps R (Yj9 fb kb) .returning w1 := by
 refine leaves_cons (f := 78) (args := #[.pointer (some ⟨fb, 0, none⟩), .pointer (some ⟨kb, 0, none⟩)]) (by simp) (by simp [go_sem]) ?_
 refine (Yjj _ _ w1).mono ?_
 rintro e u' w2 ⟨rfl, rfl, rfl⟩
 simp only [settle]
 exact ⟨_, hres, hR⟩
theorem Ygh (M : Mem) (a pb : Nat) (x r : Int) (w : World) (hM : Yi w a pb M) (h0 : 0 ≤ x) :
  Calls Tryd.prog 87 #[.pointer (some ⟨a, 0, none⟩), .int .u32 x, .int .i64 r] w fun e w' => e = .returned (.int .i64 (M.lack x r)) ∧ w = w' := by
 by_cases h : x < 16384
 ·have HR := Yh_ (show M.rights (x / 256) = M.R (x / 256).toNat by rw [Mem.rights, if_neg (by omega)])
  have HV := Yh_ (show M.lack x r = lowI (bits .andNot .i64 r (M.R (x / 256).toNat)) by rw [Mem.lack, Mem.rightAt, if_pos h])
  go_enter Tryd.func87, Tryd.ntmps87
  go_wp2_with (go_at_call 90; refine (Ykt a pb _ _ M hM).mono ?_; rintro e w' ⟨rfl, rfl⟩; rw [HR.out])
  go_ret
  rw [HV.out]
  exact ⟨rfl, rfl⟩
 ·have HV := Yh_ (show M.lack x r = lowI (bits .andNot .i64 r 0) by rw [Mem.lack, Mem.rightAt, if_neg h])
  go_enter Tryd.func87, Tryd.ntmps87
  go_wp2_with fail
  go_ret
  rw [HV.out]
  exact ⟨rfl, rfl⟩
theorem Yd4 (F : Flt) (w : World) : Calls Tryd.prog 79 #[F.val, .bool true] w fun e w' => e = .returned (.tuple #[]) ∧ Upd [] w w' := by
 unfold Flt.val
 go_enter Tryd.func79, Tryd.ntmps79
 go_wp2
 go_end0
 exact ⟨rfl, (Upd.refl _ _).alloc _⟩
theorem Yg2 (F : Flt) (w : World) : Calls Tryd.prog 79 #[F.val, .bool false] w fun e w' => e = .panicked [{ v := .iface 37 F.val, recovered := false }] ∧ Upd [] w w' := by
 unfold Flt.val
 go_enter Tryd.func79, Tryd.ntmps79
 go_wp2
 exact ⟨rfl, rfl, (Upd.refl _ _).alloc _⟩
structure CanB (w w1 : World) : Prop where
 f : w1.heap[w.heap.size]? = some (.cells #[.int .i64 0, .int .u32 0, .int .u32 0, .int .i64 0] 37 (0, 0))
 k : w1.heap[w.heap.size + 1]? = some (.cells #[.bool false] 4 (0, 0))
 u : Upd [] w w1
theorem CanB.start (w : World) : CanB w ((w.alloc (.cells #[.int .i64 0, .int .u32 0, .int .u32 0, .int .i64 0] 37)).alloc (.cells #[.bool false] 4)) :=
 ⟨heap_alloc2_old _ _ _, heap_alloc2_new _ _ _, ((Upd.refl _ _).alloc _).alloc _⟩
theorem Yke (M : Mem) (a pb n : Nat) (x r : Int) (w : World) (hM : Yi w a pb M) (h0 : 0 ≤ x) (h1 : x < 4294967296) (hn : n ≤ 16) :
  Calls Tryd.prog 80 #[.pointer (some ⟨a, 0, none⟩), .int .u32 x, .int .i64 n, .int .i64 r] w fun e w' => e = .returned (.tuple #[(M.canF x n r).val, .bool (M.canK x n r)]) ∧ Upd [] w w' := by
 have HS := Yh_ (CanB.start w)
 have HM := Yh_ hM
 clear hM
 go_enter_defers Tryd.func80, Tryd.ntmps80
 go_wp2
 go_loopw [14] (fun i wr => ∃ j : Nat, j ≤ n ∧ i = .int .i64 j ∧ (∀ t, t < j → M.lack (Yn x t) r = 0) ∧ CanB w wr) (fun i _ => n - (intOf i).toNat)
 case atStart => exact ⟨0, Nat.zero_le _, rfl, by simp, HS.out⟩
 case round =>
  obtain ⟨j, hj, rfl, hcan, hB⟩ := hrel
  have HC := Yh_ hcan
  have HB := Yh_ hB
  clear hcan hB
  by_cases hlt : j < n
  ·have hd : decide ((j : Int) < n) = true := by simp; omega
   have q1 : (j : Int) % 4294967296 = j := by omega
   have q2 : (x + j) % 4294967296 = Yn x j := rfl
   by_cases hb : M.lack (Yn x j) r = 0
   ·have HG := Yh_ hb
    clear hb
    go_wp2_with (go_at_call 87; refine (Ygh M a pb (Yn x j) r _ (HM.out.keep HB.out.u (by simp) (by simp)) (Yat x j)).mono ?_; rintro e w2 ⟨rfl, rfl⟩; rw [HG.out])
    go_roundw
    case rel => exact ⟨j + 1, by omega, by go_num, fun t ht => by
      by_cases e : t = j
      ·subst e; exact HG.out
      ·exact HC.out t (by omega), HB.out⟩
    case measure => simp [intOf]; omega
   ·have hb2 : (M.lack (Yn x j) r == 0) = false := by simpa using hb
    have HG := Yh_ hb
    clear hb
    go_wp2_with (go_at_call 87; refine (Ygh M a pb (Yn x j) r _ (HM.out.keep HB.out.u (by simp) (by simp)) (Yat x j)).mono ?_; rintro e w2 ⟨rfl, rfl⟩)
    have hbad := Yj6 M x n r j hlt HC.out HG.out
    refine Ydl (fb := w.heap.size) (kb := w.heap.size + 1) ⟨1, 0, Yn x j, M.lack (Yn x j) r⟩ (.tuple #[(M.canF x n r).val, .bool (M.canK x n r)]) (fun w2 hf hk hU => ?_) HB.out.f HB.out.k (by omega) (fun w2 hU => ⟨rfl, HB.out.u.also hU (by simp <;> omega)⟩)
    rw [Mem.canF, Mem.canK, hbad]
    exact Yp rfl (Ybm 8 w.heap.size _ rfl hf) (Yaw 9 (w.heap.size + 1) _ rfl hk)
  ·obtain rfl : n = j := by omega
   have cf := Ya HB.out.f
   have ff := Yc HB.out.f
   have ck := Ya HB.out.k
   have fk := Yc HB.out.k
   have hbad := Yh_ (Yjz M x n r HC.out)
   go_wp2_with fail
   have hF := Yd (a := ⟨w.heap.size + 1, 0, none⟩) (.bool true) (by simp) (Yft HB.out.f (.int .i64 0) (.int .u32 0) (.int .u32 0) (.int .i64 0))
   have UK := Ybw (S := [w.heap.size]) (b := w.heap.size) (Upd.refl _ wr) (.inl (by simp)) (.int .i64 0) (.int .u32 0) (.int .u32 0) (.int .i64 0)
   have hK := Yf (UK.get HB.out.k (by simp)) 0 (.bool true)
   refine Yfk (.tuple #[(M.canF x n r).val, .bool (M.canK x n r)]) ?_ ⟨rfl, (Ybw (b := w.heap.size) HB.out.u (.inr (Nat.le_refl _)) _ _ _ _).setCell (.inr (by simp)) _⟩
   rw [Mem.canF, Mem.canK, hbad.out]
   exact Yp rfl (Ybm 8 w.heap.size Flt.zero rfl hF) (Yaw 9 (w.heap.size + 1) true rfl hK)
structure FkB (S : List Nat) (w : World) (F : Flt) (K : Bool) (w1 : World) : Prop where
 f : w1.heap[w.heap.size]? = some (.cells #[.int .i64 F.k, .int .u32 F.pc, .int .u32 F.a, .int .i64 F.wt] 37 (0, 0))
 k : w1.heap[w.heap.size + 1]? = some (.cells #[.bool K] 4 (0, 0))
 u : Upd S w w1
theorem FkB.start (w : World) : FkB [] w Flt.zero false ((w.alloc (.cells #[.int .i64 0, .int .u32 0, .int .u32 0, .int .i64 0] 37)).alloc (.cells #[.bool false] 4)) :=
 ⟨heap_alloc2_old _ _ _, heap_alloc2_new _ _ _, ((Upd.refl _ _).alloc _).alloc _⟩
theorem FkB.step {S S' T : List Nat} {w w1 w2 : World} {F : Flt} {K : Bool} (h : FkB T w F K w1) (u : Upd S w1 w2) (hS : ∀ x, x ∈ S → x < w.heap.size) (hu : Upd S' w w2) : FkB S' w F K w2 :=
 ⟨u.get h.f (fun hh => by have := hS _ hh; omega), u.get h.k (fun hh => by have := hS _ hh; omega), hu⟩
theorem FkB.st {S : List Nat} {w w1 : World} {F : Flt} {K : Bool} (h : FkB S w F K w1) (F' : Flt) (K' : Bool) :
  FkB S w F' K' (((((w1.setCell ⟨w.heap.size, 0, none⟩ (.int .i64 F'.k)).setCell ⟨w.heap.size, 0 + 1, none⟩ (.int .u32 F'.pc)).setCell ⟨w.heap.size, 0 + 2, none⟩ (.int .u32 F'.a)).setCell ⟨w.heap.size, 0 + 3, none⟩ (.int .i64 F'.wt)).setCell ⟨w.heap.size + 1, 0, none⟩ (.bool K')) := by
 have UK := Ybw (S := [w.heap.size]) (b := w.heap.size) (Upd.refl _ w1) (.inl (by simp)) (.int .i64 F'.k) (.int .u32 F'.pc) (.int .u32 F'.a) (.int .i64 F'.wt)
 exact ⟨Yd (a := ⟨w.heap.size + 1, 0, none⟩) _ (by simp) (Yft h.f _ _ _ _), Yf (UK.get h.k (by simp)) 0 _, (Ybw (b := w.heap.size) h.u (.inr (Nat.le_refl _)) _ _ _ _).setCell (.inr (by simp)) _⟩
def Mem.rd8K (M : Mem) (x : Int) : Bool := M.readK x 4 1 && M.readK (Yn x 4) 4 1
def Mem.rd8F (M : Mem) (x : Int) : Flt := if M.readK x 4 1 then M.rdF (Yn x 4) 4 1 else M.rdF x 4 1
def Mem.rd8V (M : Mem) (x : Int) : Int := if M.rd8K x then M.readV x 4 1 + M.readV (Yn x 4) 4 1 * 4294967296 else 0
theorem Ygg {w : World} {a pb : Nat} {M : Mem} (h : Yi w a pb M) (x b r : Int) : 0 ≤ M.readV x b r ∧ M.readV x b r < 4294967296 := by
 unfold Mem.readV
 have hw := Yel b
 split
 ·have := Yev h x (Yap b).toNat
  rcases hw with hw | hw | hw
  ·rw [hw] at this ⊢
   exact ⟨this.1, Int.lt_of_lt_of_le this.2 (by decide)⟩
  ·rw [hw] at this ⊢
   exact ⟨this.1, Int.lt_of_lt_of_le this.2 (by decide)⟩
  ·rw [hw] at this ⊢
   exact ⟨this.1, this.2⟩
 ·omega
theorem join64 (a b : Int) (a0 : 0 ≤ a) (a1 : a < 4294967296) (b0 : 0 ≤ b) (b1 : b < 4294967296) : bits .or .u64 a (b * 4294967296) = a + b * 4294967296 := by
 obtain ⟨a, rfl⟩ := Int.eq_ofNat_of_zero_le a0
 obtain ⟨b, rfl⟩ := Int.eq_ofNat_of_zero_le b0
 have h := u64_or_nat a (b * 4294967296) (by omega) (by omega)
 rw [Nat.or_comm, nat_join 32 _ _ (by omega) (by omega)] at h
 have e : (b : Int) * 4294967296 = ((b * 4294967296 : Nat) : Int) := by omega
 rw [e, h]
 omega
theorem Yli (M : Mem) (a pb : Nat) (x : Int) (w : World) (hM : Yi w a pb M) (h0 : 0 ≤ x) (h1 : x < 4294967296) :
  Calls Tryd.prog 62 #[.pointer (some ⟨a, 0, none⟩), .int .u32 x] w fun e w' => e = .returned (.tuple #[.int .u64 (M.rd8V x), (M.rd8F x).val, .bool (M.rd8K x)]) ∧ Upd [] w w' := by
 have HS := Yh_ (FkB.start w)
 have HM := Yh_ hM
 clear hM
 have hp4 : 0 ≤ Yn x 4 ∧ Yn x 4 < 4294967296 := by unfold Yn; omega
 have hq : (x + 4) % 4294967296 = Yn x 4 := rfl
 cases hk1 : M.readK x 4 1
 ·have HV := Yh_ (show M.rd8V x = 0 ∧ M.rd8F x = M.rdF x 4 1 ∧ M.rd8K x = false by
   refine ⟨?_, ?_, ?_⟩ <;> simp [Mem.rd8V, Mem.rd8F, Mem.rd8K, hk1])
  go_enter_defers Tryd.func62, Tryd.ntmps62
  have HK1 := Yh_ hk1
  clear hk1
  go_wp2_with (first | (go_at_call 36; refine (Ydd M a pb x 4 1 _ (HM.out.keep HS.out.u (by simp) (by simp)) h0 h1).mono ?_; rintro e w2 ⟨rfl, hu⟩; rw [Mem.readF_val, HK1.out]; unfold Flt.val; have H2 := Yh_ (HS.out.step hu (by simp) (HS.out.u.also hu (by simp))); clear hu; have cf := Ya H2.out.f; have ff := Yc H2.out.f; have ck := Ya H2.out.k; have fk := Yc H2.out.k) | (go_at_call 79; refine (Yg2 (M.rdF x 4 1) _).mono ?_; rintro e w3 ⟨rfl, hu⟩; have H3 := Yh_ ((H2.out.st (M.rdF x 4 1) false).step hu (by simp) ((H2.out.st (M.rdF x 4 1) false).u.also hu (by simp))); clear hu))
  refine Ydl (fb := w.heap.size) (kb := w.heap.size + 1) (M.rdF x 4 1) (.tuple #[.int .u64 (M.rd8V x), (M.rd8F x).val, .bool (M.rd8K x)]) (fun w9 hf hk hU => ?_) H3.out.f H3.out.k (by omega) (fun w9 hU => ⟨rfl, H3.out.u.also hU (by simp <;> omega)⟩)
  rw [HV.out.1, HV.out.2.1, HV.out.2.2]
  exact Yai rfl (Yk 4 rfl) (Ybm 5 w.heap.size _ rfl hf) (Yaw 6 (w.heap.size + 1) _ rfl hk)
 ·have tok1 : True := trivial
  cases hk2 : M.readK (Yn x 4) 4 1
  ·have HV := Yh_ (show M.rd8V x = 0 ∧ M.rd8F x = M.rdF (Yn x 4) 4 1 ∧ M.rd8K x = false by
    refine ⟨?_, ?_, ?_⟩ <;> simp [Mem.rd8V, Mem.rd8F, Mem.rd8K, hk1, hk2])
   have HK1 := Yh_ hk1
   have HK2 := Yh_ hk2
   clear hk1 hk2
   go_enter_defers Tryd.func62, Tryd.ntmps62
   go_wp2_with (first | (go_at_call 36; have _t := tok1; refine (Ydd M a pb x 4 1 _ (HM.out.keep HS.out.u (by simp) (by simp)) h0 h1).mono ?_; rintro e w2 ⟨rfl, hu⟩; rw [Mem.readF_val, HK1.out]; unfold Flt.val; have H2 := Yh_ (HS.out.step hu (by simp) (HS.out.u.also hu (by simp))); clear hu; have cf := Ya H2.out.f; have ff := Yc H2.out.f; have ck := Ya H2.out.k; have fk := Yc H2.out.k) | (go_at_call 79; have _t := tok1; refine (Yd4 (M.rdF x 4 1) _).mono ?_; rintro e w3 ⟨rfl, hu⟩; have H3 := Yh_ ((H2.out.st (M.rdF x 4 1) true).step hu (by simp) ((H2.out.st (M.rdF x 4 1) true).u.also hu (by simp))); clear hu tok1 _t cf ff ck fk) | (go_at_call 36; refine (Ydd M a pb (Yn x 4) 4 1 _ (HM.out.keep H3.out.u (by simp) (by simp)) hp4.1 hp4.2).mono ?_; rintro e w4 ⟨rfl, hu⟩; rw [Mem.readF_val, HK2.out]; unfold Flt.val; have H4 := Yh_ (H3.out.step hu (by simp) (H3.out.u.also hu (by simp))); clear hu; have cf := Ya H4.out.f; have ff := Yc H4.out.f; have ck := Ya H4.out.k; have fk := Yc H4.out.k) | (go_at_call 79; refine (Yg2 (M.rdF (Yn x 4) 4 1) _).mono ?_; rintro e w5 ⟨rfl, hu⟩; have H5 := Yh_ ((H4.out.st (M.rdF (Yn x 4) 4 1) false).step hu (by simp) ((H4.out.st (M.rdF (Yn x 4) 4 1) false).u.also hu (by simp))); clear hu))
   refine Ydl (fb := w.heap.size) (kb := w.heap.size + 1) (M.rdF (Yn x 4) 4 1) (.tuple #[.int .u64 (M.rd8V x), (M.rd8F x).val, .bool (M.rd8K x)]) (fun w9 hf hk hU => ?_) H5.out.f H5.out.k (by omega) (fun w9 hU => ⟨rfl, H5.out.u.also hU (by simp <;> omega)⟩)
   rw [HV.out.1, HV.out.2.1, HV.out.2.2]
   exact Yai rfl (Yk 4 rfl) (Ybm 5 w.heap.size _ rfl hf) (Yaw 6 (w.heap.size + 1) _ rfl hk)
  ·have hr1 := Ygg HM.out x 4 1
   have hr2 := Ygg HM.out (Yn x 4) 4 1
   have hj := join64 _ _ hr1.1 hr1.2 hr2.1 hr2.2
   have HV := Yh_ (show M.rd8V x = M.readV x 4 1 + M.readV (Yn x 4) 4 1 * 4294967296 ∧ M.rd8F x = Flt.zero ∧ M.rd8K x = true by
    refine ⟨?_, ?_, ?_⟩
    ·simp [Mem.rd8V, Mem.rd8K, hk1, hk2]
    ·rw [Mem.rd8F, if_pos hk1]
     revert hk2
     unfold Mem.readK Mem.rdF
     cases M.bad (Yn x 4) (Yav 1) (Yap 4).toNat <;> simp
    ·simp [Mem.rd8K, hk1, hk2])
   have HK1 := Yh_ hk1
   have HK2 := Yh_ hk2
   clear hk1 hk2
   go_enter_defers Tryd.func62, Tryd.ntmps62
   go_wp2_with (first | (go_at_call 36; have _t := tok1; refine (Ydd M a pb x 4 1 _ (HM.out.keep HS.out.u (by simp) (by simp)) h0 h1).mono ?_; rintro e w2 ⟨rfl, hu⟩; rw [Mem.readF_val, HK1.out]; unfold Flt.val; have H2 := Yh_ (HS.out.step hu (by simp) (HS.out.u.also hu (by simp))); clear hu; have cf := Ya H2.out.f; have ff := Yc H2.out.f; have ck := Ya H2.out.k; have fk := Yc H2.out.k) | (go_at_call 79; have _t := tok1; refine (Yd4 (M.rdF x 4 1) _).mono ?_; rintro e w3 ⟨rfl, hu⟩; have H3 := Yh_ ((H2.out.st (M.rdF x 4 1) true).step hu (by simp) ((H2.out.st (M.rdF x 4 1) true).u.also hu (by simp))); clear hu tok1 _t cf ff ck fk) | (go_at_call 36; refine (Ydd M a pb (Yn x 4) 4 1 _ (HM.out.keep H3.out.u (by simp) (by simp)) hp4.1 hp4.2).mono ?_; rintro e w4 ⟨rfl, hu⟩; rw [Mem.readF_val, HK2.out]; unfold Flt.val; have H4 := Yh_ (H3.out.step hu (by simp) (H3.out.u.also hu (by simp))); clear hu; have cf := Ya H4.out.f; have ff := Yc H4.out.f; have ck := Ya H4.out.k; have fk := Yc H4.out.k) | (go_at_call 79; refine (Yd4 (M.rdF (Yn x 4) 4 1) _).mono ?_; rintro e w5 ⟨rfl, hu⟩; have H5 := Yh_ ((H4.out.st (M.rdF (Yn x 4) 4 1) true).step hu (by simp) ((H4.out.st (M.rdF (Yn x 4) 4 1) true).u.also hu (by simp))); clear hu cf ff ck fk; have cf := Ya H5.out.f; have ff := Yc H5.out.f; have ck := Ya H5.out.k; have fk := Yc H5.out.k))
   have HE := H5.out.st Flt.zero true
   refine Yfk (.tuple #[.int .u64 (M.rd8V x), (M.rd8F x).val, .bool (M.rd8K x)]) ?_ ⟨rfl, HE.u⟩
   rw [HV.out.1, HV.out.2.1, HV.out.2.2]
   exact Yai rfl (Yk 4 rfl) (Ybm 5 w.heap.size Flt.zero rfl HE.f) (Yaw 6 (w.heap.size + 1) true rfl HE.k)
def Mem.wr8M (M : Mem) (x v : Int) : Mem := if M.canK x 8 2 then (M.putN x (v % 4294967296) 4).putN (Yn x 4) (v / 4294967296) 4 else M
theorem Ykw {M : Mem} (hM : M.Ok) (x v : Int) (hv0 : 0 ≤ v) (hv1 : v < 18446744073709551616) (h : M.canK x 8 2 = true) :
  (M.wrF x 4 = Flt.zero ∧ M.writeK x 4 = true ∧ ∀ u, M.writeM x 4 u = M.putN x u 4) ∧
  (∀ N : Mem, N.R = M.R → N.wrF (Yn x 4) 4 = Flt.zero ∧ N.writeK (Yn x 4) 4 = true ∧ ∀ u, N.writeM (Yn x 4) 4 u = N.putN (Yn x 4) u 4) := by
 have hl := (canK_iff M x 8 2).1 h
 have hc : ∀ t, t < 8 → M.can (Yn x t) 2 = true := fun t ht => (lack_can hM _ (Yat _ _) 2 (by simp)).1 (hl t ht)
 have w4 : (Yap 4).toNat = 4 := by decide
 have b1 : M.bad x 2 (Yap 4).toNat = none := (Yhb M x _ 2).2 (fun t ht => hc t (by omega))
 refine ⟨⟨by rw [Mem.wrF, b1], by rw [Mem.writeK, b1]; rfl, fun u => by rw [Mem.writeM, b1, w4]⟩, fun N hN => ?_⟩
 have b2 : N.bad (Yn x 4) 2 (Yap 4).toNat = none := (Yhb N _ _ 2).2 (fun t ht => by
  rw [Ylj]
  have : N.can (Yn x (4 + t)) 2 = M.can (Yn x (4 + t)) 2 := by simp only [Mem.can, hN]
  rw [this]
  exact hc _ (by omega))
 exact ⟨by rw [Mem.wrF, b2], by rw [Mem.writeK, b2]; rfl, fun u => by rw [Mem.writeM, b2, w4]⟩
theorem Yky (M : Mem) (a pb : Nat) (x v : Int) (w : World) (hM : Yi w a pb M) (h0 : 0 ≤ x) (h1 : x < 4294967296) (hv0 : 0 ≤ v) (hv1 : v < 18446744073709551616) :
  Calls Tryd.prog 59 #[.pointer (some ⟨a, 0, none⟩), .int .u32 x, .int .u64 v] w fun e w' => e = .returned (.tuple #[(M.canF x 8 2).val, .bool (M.canK x 8 2)]) ∧ Yi w' a pb (M.wr8M x v) ∧ Upd [pb] w w' := by
 have HS := Yh_ (FkB.start w)
 have HM := Yh_ hM
 have hp4 : 0 ≤ Yn x 4 ∧ Yn x 4 < 4294967296 := by unfold Yn; omega
 have hq : (x + 4) % 4294967296 = Yn x 4 := rfl
 cases hk : M.canK x 8 2
 ·have HK := Yh_ hk
  have HW := Yh_ (show M.wr8M x v = M by rw [Mem.wr8M, if_neg (by rw [hk]; simp)])
  clear hk hM
  go_enter_defers Tryd.func59, Tryd.ntmps59
  go_wp2_with (first | (go_at_call 80; refine (Yke M a pb 8 x 2 _ (HM.out.keep HS.out.u (by simp) (by simp)) h0 h1 (by decide)).mono ?_; rintro e w2 ⟨rfl, hu⟩; rw [HK.out]; have H2 := Yh_ (HS.out.step hu (by simp) (HS.out.u.also hu (by simp))); clear hu) | (go_at_call 79; refine (Yg2 (M.canF x 8 2) _).mono ?_; rintro e w3 ⟨rfl, hu⟩; have H3 := Yh_ (H2.out.step hu (by simp) (H2.out.u.also hu (by simp))); clear hu))
  refine Ydl (fb := w.heap.size) (kb := w.heap.size + 1) (M.canF x 8 2) (.tuple #[(M.canF x 8 2).val, .bool false]) (fun w9 hf hk hU => ?_) H3.out.f H3.out.k (by omega) (fun w9 hU => ?_)
  ·exact Yp rfl (Ybm 6 w.heap.size _ rfl hf) (Yaw 7 (w.heap.size + 1) _ rfl hk)
  ·have U9 := H3.out.u.also hU (by simp <;> omega)
   exact ⟨rfl, by rw [HW.out]; exact HM.out.keep U9 (by simp) (by simp), U9.mono (by simp)⟩
 ·have hF : M.canF x 8 2 = Flt.zero := by
   revert hk
   unfold Mem.canK Mem.canF
   cases M.canBad x 8 2 <;> simp
  obtain ⟨⟨f1, k1, m1⟩, hN⟩ := Ykw hM.ok x v hv0 hv1 hk
  obtain ⟨f2, k2, m2⟩ := hN (M.putN x (v % 4294967296) 4) (Mem.putN_R _ _ _ _)
  have HK := Yh_ hk
  have HW := Yh_ (show M.wr8M x v = (M.putN x (v % 4294967296) 4).putN (Yn x 4) (v / 4294967296) 4 by rw [Mem.wr8M, if_pos hk])
  have H1 := Yh_ (And.intro f1 (And.intro k1 (m1 (v % 4294967296))))
  have H2' := Yh_ (And.intro f2 (And.intro k2 (m2 (v / 4294967296))))
  have HF := Yh_ hF
  have hv2 : 0 ≤ v % 4294967296 := by omega
  have hv3 : v % 4294967296 < 4294967296 := by omega
  have hv4 : 0 ≤ v / 4294967296 := by omega
  have hv5 : v / 4294967296 < 4294967296 := by omega
  have hv6 : v / 4294967296 % 4294967296 = v / 4294967296 := by omega
  have hal := hM.al
  have hpl := hM.pl
  clear hk hM hF f1 k1 m1 f2 k2 m2 hN
  have tok1 : True := trivial
  have tok2 : True := trivial
  go_enter_defers Tryd.func59, Tryd.ntmps59
  go_wp2_with (first | (go_at_call 80; refine (Yke M a pb 8 x 2 _ (HM.out.keep HS.out.u (by simp) (by simp)) h0 h1 (by decide)).mono ?_; rintro e w2 ⟨rfl, hu⟩; rw [HK.out, HF.out]; have H2 := Yh_ (HS.out.step hu (by simp) (HS.out.u.also hu (by simp))); clear hu) | (go_at_call 79; have _t := tok1; refine (Yd4 Flt.zero _).mono ?_; rintro e w3 ⟨rfl, hu⟩; have H3 := Yh_ (H2.out.step hu (by simp) (H2.out.u.also hu (by simp))); clear hu tok1 _t H2) | (go_at_call 38; have _t := tok2; refine (Yfw M a pb x 4 (v % 4294967296) _ (HM.out.keep H3.out.u (by simp) (by simp)) h0 h1 hv2 hv3).mono ?_; rintro e w4 ⟨rfl, hM4, hu⟩; rw [Mem.writeF_val, H1.out.1, H1.out.2.1]; rw [H1.out.2.2] at hM4; have HM4 := Yh_ hM4; have H4 := Yh_ (H3.out.step (S' := [pb]) hu (by simp; omega) ((H3.out.u.mono (by simp)).also hu (by simp))); clear hu hM4 tok2 _t) | (go_at_call 79; have _t := H4; refine (Yd4 Flt.zero _).mono ?_; rintro e w5 ⟨rfl, hu⟩; have H5 := Yh_ (H4.out.step hu (by simp) (H4.out.u.also hu (by simp))); have HM5 := Yh_ (HM4.out.keep hu (by simp) (by simp)); clear hu H4 _t) | (go_at_call 38; refine (Yfw (M.putN x (v % 4294967296) 4) a pb (Yn x 4) 4 (v / 4294967296) _ HM5.out hp4.1 hp4.2 hv4 hv5).mono ?_; rintro e w6 ⟨rfl, hM6, hu⟩; rw [Mem.writeF_val, H2'.out.1, H2'.out.2.1]; rw [H2'.out.2.2] at hM6; have HM6 := Yh_ hM6; have H6 := Yh_ (H5.out.step (S' := [pb]) hu (by simp; omega) (H5.out.u.also hu (by simp))); clear hu hM6) | (go_at_call 79; refine (Yd4 Flt.zero _).mono ?_; rintro e w7 ⟨rfl, hu⟩; have H7 := Yh_ (H6.out.step hu (by simp) (H6.out.u.also hu (by simp))); have HM7 := Yh_ (HM6.out.keep hu (by simp) (by simp)); clear hu H6; have cf := Ya H7.out.f; have ff := Yc H7.out.f; have ck := Ya H7.out.k; have fk := Yc H7.out.k))
  have HE := H7.out.st Flt.zero true
  have hE : Upd [w.heap.size, w.heap.size + 1] w7 (((((w7.setCell ⟨w.heap.size, 0, none⟩ (.int .i64 Flt.zero.k)).setCell ⟨w.heap.size, 0 + 1, none⟩ (.int .u32 Flt.zero.pc)).setCell ⟨w.heap.size, 0 + 2, none⟩ (.int .u32 Flt.zero.a)).setCell ⟨w.heap.size, 0 + 3, none⟩ (.int .i64 Flt.zero.wt)).setCell ⟨w.heap.size + 1, 0, none⟩ (.bool true)) :=
   (Ybw (b := w.heap.size) (Upd.refl _ w7) (.inl (by simp)) _ _ _ _).setCell (.inl (by simp)) _
  refine Yfk (.tuple #[(M.canF x 8 2).val, .bool true]) ?_ ⟨by rw [HF.out], by rw [HW.out]; exact HM7.out.keep hE (by simp; omega) (by simp; omega), HE.u⟩
  rw [HF.out]
  exact Yp rfl (Ybm 6 w.heap.size Flt.zero rfl HE.f) (Yaw 7 (w.heap.size + 1) true rfl HE.k)
section
theorem Yz {S : List Nat} {a b : World} (h : Upd S a b) (n : Nat) : Upd S a (b.drewN n) := ⟨h.os, h.tape, h.output, h.size, h.block⟩
structure Rn where
 s : St
 p : St
 T : Nat → Int
def Yhj (T : Nat → Int) : List Value := (List.range 64).map fun i => .int .u32 (T i)
def Yfs (a : Nat) (r : Rn) : List Value := [.pointer (some ⟨a, 0, none⟩)] ++ (r.s.cells.toList ++ (r.p.cells.toList ++ Yhj r.T))
def Ye (a : Nat) (r : Rn) : Array Value := (Yfs a r).toArray
theorem St.len (s : St) : s.cells.toList.length = 17 := rfl
theorem Ykm (T : Nat → Int) : (Yhj T).length = 64 := by simp [Yhj]
theorem Yb4 (a : Nat) (r : Rn) : (Ye a r).size = 99 := by simp [Ye, Yfs, St.size, Ykm]
theorem Ycl (a : Nat) (r : Rn) (j : Nat) (hj : j < 17) : (Ye a r)[1 + j]? = r.s.cells[j]? := by
 unfold Ye
 rw [List.getElem?_toArray]
 unfold Yfs
 rw [List.getElem?_append_right (by simp), List.getElem?_append_left (by rw [St.len]; simp; omega), Array.getElem?_toList]
 congr 1
 simp
theorem rn_p (a : Nat) (r : Rn) (j : Nat) (hj : j < 17) : (Ye a r)[18 + j]? = r.p.cells[j]? := by
 unfold Ye
 rw [List.getElem?_toArray]
 unfold Yfs
 rw [List.getElem?_append_right (by simp; omega), List.getElem?_append_right (by rw [St.len]; simp), List.getElem?_append_left (by rw [St.len, St.len]; simp; omega), Array.getElem?_toList]
 congr 1
 rw [St.len]; simp
theorem Yah (a : Nat) (r : Rn) (j : Nat) (hj : j < 64) : (Ye a r)[35 + j]? = some (.int .u32 (r.T j)) := by
 unfold Ye
 rw [List.getElem?_toArray]
 unfold Yfs
 rw [List.getElem?_append_right (by simp; omega), List.getElem?_append_right (by rw [St.len]; simp; omega), List.getElem?_append_right (by rw [St.len, St.len]; simp; omega), St.len, St.len]
 have e : 35 + j - [Value.pointer (some ⟨a, 0, none⟩)].length - 17 - 17 = j := by simp; omega
 rw [e, Yhj, List.getElem?_map, List.getElem?_range hj]
 rfl
theorem rn_a (a : Nat) (r : Rn) : (Ye a r)[0]? = some (.pointer (some ⟨a, 0, none⟩)) := rfl
def Rn.setT (r : Rn) (j : Nat) (v : Int) : Rn := { r with T := fun i => if i = j then v else r.T i }
theorem Yg9 {C : Array Value} {a : Nat} {r : Rn} (hs : C.size = 99) (h0 : C[0]? = some (.pointer (some ⟨a, 0, none⟩))) (h1 : ∀ j, j < 17 → C[1 + j]? = r.s.cells[j]?) (h2 : ∀ j, j < 17 → C[18 + j]? = r.p.cells[j]?) (h3 : ∀ j, j < 64 → C[35 + j]? = some (.int .u32 (r.T j))) : C = Ye a r := by
 apply Array.ext_getElem?
 intro k
 by_cases k0 : k = 0
 ·rw [k0, h0, rn_a]
 by_cases k1 : k < 18
 ·have := h1 (k - 1) (by omega)
  rw [show 1 + (k - 1) = k by omega] at this
  rw [this, ← Ycl a r (k - 1) (by omega), show 1 + (k - 1) = k by omega]
 by_cases k2 : k < 35
 ·have := h2 (k - 18) (by omega)
  rw [show 18 + (k - 18) = k by omega] at this
  rw [this, ← rn_p a r (k - 18) (by omega), show 18 + (k - 18) = k by omega]
 by_cases k3 : k < 99
 ·have := h3 (k - 35) (by omega)
  rw [show 35 + (k - 35) = k by omega] at this
  rw [this, ← Yah a r (k - 35) (by omega), show 35 + (k - 35) = k by omega]
 ·rw [Array.getElem?_eq_none (by omega), Array.getElem?_eq_none (by rw [Yb4]; omega)]
theorem Ybl (a : Nat) (r : Rn) (j : Nat) (v : Int) (hj : j < 64) : (Ye a r).setIfInBounds (35 + j) (.int .u32 v) = Ye a (r.setT j v) := by
 refine Yg9 (by rw [Array.size_setIfInBounds, Yb4]) ?_ (fun i hi => ?_) (fun i hi => ?_) (fun i hi => ?_)
 ·rw [Array.getElem?_setIfInBounds, if_neg (by omega), rn_a]
 ·rw [Array.getElem?_setIfInBounds, if_neg (by omega), Ycl a r i hi]; rfl
 ·rw [Array.getElem?_setIfInBounds, if_neg (by omega), rn_p a r i hi]; rfl
 ·rw [Array.getElem?_setIfInBounds]
  by_cases e : i = j
  ·rw [if_pos (by omega), Yb4, if_pos (by omega)]; simp [Rn.setT, e]
  ·rw [if_neg (by omega), Yah a r i hi]; simp [Rn.setT, e]
theorem Yh3 (a : Nat) (r : Rn) (s' : St) (j : Nat) (v : Value) (hj : j < 17) (h : r.s.cells.setIfInBounds j v = s'.cells) : (Ye a r).setIfInBounds (1 + j) v = Ye a { r with s := s' } := by
 refine Yg9 (by rw [Array.size_setIfInBounds, Yb4]) ?_ (fun i hi => ?_) (fun i hi => ?_) (fun i hi => ?_)
 ·rw [Array.getElem?_setIfInBounds, if_neg (by omega), rn_a]
 ·rw [Array.getElem?_setIfInBounds, ← h, Array.getElem?_setIfInBounds, St.size]
  by_cases e : j = i
  ·rw [if_pos (by omega), if_pos e, if_pos hj, if_pos (by rw [Yb4]; omega)]
  ·rw [if_neg (by omega), if_neg e, Ycl a r i hi]
 ·rw [Array.getElem?_setIfInBounds, if_neg (by omega), rn_p a r i hi]
 ·rw [Array.getElem?_setIfInBounds, if_neg (by omega), Yah a r i hi]
structure Rn.Ok (r : Rn) : Prop where
 s : r.s.Ok
 p : r.p.Ok
 T : ∀ j, 0 ≤ r.T j ∧ r.T j < 4294967296
structure Ys (w : World) (d a : Nat) (r : Rn) : Prop where
 h : w.heap[d]? = some (.cells (Ye a r) 54 (0, 0))
 ok : r.Ok
section
variable {w w' : World} {d a : Nat} {r : Rn}
theorem Ys.keep {S : List Nat} (h : Ys w d a r) (u : Upd S w w') (hd : d ∉ S) : Ys w' d a r := ⟨u.get h.h hd, h.ok⟩
theorem Ys.lt (h : Ys w d a r) : d < w.heap.size := Yr h.h
theorem Ys.cell (h : Ys w d a r) (o : Nat) : w.cell? ⟨d, o, none⟩ = (Ye a r)[o]? := Ya h.h o
theorem Rn.setT_ok (h : r.Ok) (j : Nat) {v : Int} (hv : 0 ≤ v ∧ v < 4294967296) : (r.setT j v).Ok :=
 ⟨h.s, h.p, fun i => by unfold Rn.setT; dsimp only; split; exact hv; exact h.T i⟩
theorem Ys.setT (h : Ys w d a r) (j : Nat) (hj : j < 64) {v : Int} (hv : 0 ≤ v ∧ v < 4294967296) : Ys (w.setCell ⟨d, 35 + j, none⟩ (.int .u32 v)) d a (r.setT j v) :=
 ⟨by rw [← Ybl a r j v hj]; exact Yf h.h _ _, Rn.setT_ok h.ok j hv⟩
theorem Ys.setS (h : Ys w d a r) (s' : St) (j : Nat) (v : Value) (hj : j < 17) (hs : r.s.cells.setIfInBounds j v = s'.cells) (ho : s'.Ok) : Ys (w.setCell ⟨d, 1 + j, none⟩ v) d a { r with s := s' } :=
 ⟨by rw [← Yh3 a r s' j v hj hs]; exact Yf h.h _ _, ho, h.ok.p, h.ok.T⟩
end
end
section
structure Mrm.Ok (m : Mrm) : Prop where
 mod : 0 ≤ m.mod ∧ m.mod ≤ 3
 reg : 0 ≤ m.reg ∧ m.reg < 8
 rm : 0 ≤ m.rm ∧ m.rm < 8
section
variable {w w2 w3 : World} {d : Nat} {v : Value} {L : List Int} {g k k' : Nat} {m : Mrm} {o o' : Opd}
end
end
structure BArg (w : World) (v : Value) (L : List Int) (g : Nat) : Prop where
 b : BySl w v L g
 n : L.length ≤ maxLen
 r : BOk L
 c : ∀ b n c, v = .slice b n c → n ≤ c
 g : g ≤ w.heap.size
section
structure Ins.Ok (i : Ins) : Prop where
 a : i.a.Ok
 b : i.b.Ok
section
variable {w w' : World} {d a pb : Nat} {s : St} {i : Ins} {M : Mem}
end
end
section
def Yj (F : Flt) : Array Value := #[.int .i64 F.k, .int .u32 F.pc, .int .u32 F.a, .int .i64 F.wt]
theorem Yb {d : Nat → Bool} {m i : Nat} (h : i ≠ m) : Yw d m i = d i := by simp [Yw, h]
theorem Ya6 {d : Nat → Bool} {m : Nat} : Yw d m m = true := by simp [Yw]
theorem Yba {r : Nat → Value} {m i : Nat} {v : Value} (h : i ≠ m) : Ybp r m v i = r i := by simp [Ybp, h]
theorem Ycz {r : Nat → Value} {m : Nat} {v : Value} : Ybp r m v m = v := by simp [Ybp]
theorem Ybu {op : Oper} {A : Act} {w : World} {K : Act → World → Prop} {Q : Exit → Act → World → Prop} (F Z : Flt) (g : Nat) (x y : Operand) (ho : op.op = .store 37 x y) (hx : A.eval x = .pointer (some ⟨g, 0, none⟩)) (hy : A.eval y = F.val)
  (hb : w.heap[g]? = some (.cells (Yj Z) 37 (0, 0))) (hK : K (A.put op.dst undef) (w.setCells g 0 (Yj F).toList)) : op.wp Tryd.prog A w K Q :=
 wp_store_mid 37 x y ho g 0 (Yj F) hx hy (Ycu hb 0 4 (by simp [Yj])) Yg4 (by simp [Yj, Value.oneCell']) hK
section
variable {w w1 w2 : World} {d a pb ob : Nat} {s : St} {i : Ins} {M M' : Mem} {o : Opd} {S : St} {F : Flt} {c e f p q : Nat} {T : List Nat} {dn : Nat → Bool} {r : Nat → Value}
end
end
def bI (c : Bool) : Int := if c = true then 1 else 0
def sI (x : Int) : Int := if x < 2147483648 then x else x - 4294967296
def Yg8 (n : Int) : Bool := !(decide (-2147483648 ≤ n) && decide (n < 2147483648))
def Yc0 (a b : Int) (c : Bool) : Int := (a + b + bI c) % 4294967296
def addC (a b : Int) (c : Bool) : Bool := decide (4294967296 ≤ a + b + bI c)
def addO (a b : Int) (c : Bool) : Bool := Yg8 (sI a + sI b + bI c)
def Yc2 (a b : Int) (c : Bool) : Int := (a - b - bI c) % 4294967296
def subC (a b : Int) (c : Bool) : Bool := decide (a - b - bI c < 0)
def subO (a b : Int) (c : Bool) : Bool := Yg8 (sI a - sI b - bI c)
theorem Yi3 (c : Bool) : 0 ≤ bI c ∧ bI c ≤ 1 := by cases c <;> simp [bI]
theorem Ydf (x : Int) (h : 0 ≤ x ∧ x < 4294967296) : wrap32 x = sI x := by unfold wrap32 sI; split <;> omega
theorem Ycr (x : Int) (h : 0 ≤ x ∧ x < 4294967296) : -2147483648 ≤ sI x ∧ sI x < 2147483648 := by unfold sI; split <;> omega
theorem Yh9 (c : Bool) (w : World) : Calls Tryd.prog 85 #[.bool c] w fun e w' => e = .returned (.int .u64 (bI c)) ∧ w = w' := by
 cases c
 all_goals
  go_enter Tryd.func85, Tryd.ntmps85
  go_wp2
  go_ret
  exact ⟨rfl, rfl⟩
theorem Yiz (n : Int) (w : World) : Calls Tryd.prog 86 #[.int .i64 n] w fun e w' => e = .returned (.bool (Yg8 n)) ∧ w = w' := by
 have q : wrap64 (wrap32 n) = wrap32 n := by unfold wrap64 wrap32; omega
 have e : (n != wrap32 n) = Yg8 n := by
  unfold Yg8 wrap32
  rw [Bool.eq_iff_iff]
  simp only [bne_iff_ne, ne_eq, Bool.not_eq_true', Bool.and_eq_false_iff, decide_eq_false_iff_not]
  omega
 go_enter Tryd.func86, Tryd.ntmps86
 go_wp2
 go_ret
 exact ⟨rfl, rfl⟩
theorem Yb0 (x : Int) : IntKind.u64.wrap x = x % 18446744073709551616 := by
 simp [IntKind.wrap, IntKind.bits, IntKind.signed]
theorem Yje (a b : Int) (c : Bool) (w : World) (ha : 0 ≤ a ∧ a < 4294967296) (hb : 0 ≤ b ∧ b < 4294967296) : Calls Tryd.prog 76 #[.int .u32 a, .int .u32 b, .bool c] w fun e w' => e = .returned (.tuple #[.int .u32 (Yc0 a b c), .bool (addC a b c), .bool (addO a b c)]) ∧ w = w' := by
 have hc := Yi3 c
 have sa := Ycr a ha
 have sb := Ycr b hb
 have q0 : IntKind.u64.wrap a = a := by rw [Yb0]; omega
 have q00 : IntKind.u64.wrap b = b := by rw [Yb0]; omega
 have q1 : IntKind.u64.wrap (a + b) = a + b := by rw [Yb0]; omega
 have q2 : IntKind.u64.wrap (a + b + bI c) = a + b + bI c := by rw [Yb0]; omega
 have q3 := Ydf a ha
 have q4 := Ydf b hb
 have q5 : wrap64 (sI a) = sI a := by unfold wrap64; omega
 have q6 : wrap64 (sI b) = sI b := by unfold wrap64; omega
 have q7 : wrap64 (sI a + sI b) = sI a + sI b := by unfold wrap64; omega
 have q8 : wrap64 (bI c) = bI c := by unfold wrap64; omega
 have q9 : wrap64 (sI a + sI b + bI c) = sI a + sI b + bI c := by unfold wrap64; omega
 have hK : ((a + b + bI c) / 4294967296 != 0) = addC a b c := by
  rw [Bool.eq_iff_iff]
  simp only [bne_iff_ne, ne_eq, addC, decide_eq_true_eq]
  omega
 clear ha hb hc sa sb
 go_enter Tryd.func76, Tryd.ntmps76
 go_wp2_with (first | (go_at_call 85; refine (Yh9 c _).mono ?_; rintro e w' ⟨rfl, rfl⟩) | (go_at_call 86; refine (Yiz _ _).mono ?_; rintro e w' ⟨rfl, rfl⟩))
 exact bodyPost_ret (Yai rfl (Yk 6 rfl) (Yk 7 rfl) (Yk 8 rfl)) rfl ⟨rfl, rfl⟩
theorem Yjd (a b : Int) (c : Bool) (w : World) (ha : 0 ≤ a ∧ a < 4294967296) (hb : 0 ≤ b ∧ b < 4294967296) : Calls Tryd.prog 77 #[.int .u32 a, .int .u32 b, .bool c] w fun e w' => e = .returned (.tuple #[.int .u32 (Yc2 a b c), .bool (subC a b c), .bool (subO a b c)]) ∧ w = w' := by
 have hc := Yi3 c
 have sa := Ycr a ha
 have sb := Ycr b hb
 obtain ⟨x, hx⟩ : ∃ x, (a - b - bI c) % 18446744073709551616 = x := ⟨_, rfl⟩
 have q0 : IntKind.u64.wrap a = a := by rw [Yb0]; omega
 have q00 : IntKind.u64.wrap b = b := by rw [Yb0]; omega
 obtain ⟨y, hy⟩ : ∃ y, (a - b) % 18446744073709551616 = y := ⟨_, rfl⟩
 have q1 : IntKind.u64.wrap (a - b) = y := by rw [Yb0]; exact hy
 have q2 : IntKind.u64.wrap (y - bI c) = x := by rw [Yb0]; omega
 have q3 := Ydf a ha
 have q4 := Ydf b hb
 have q5 : wrap64 (sI a) = sI a := by unfold wrap64; omega
 have q6 : wrap64 (sI b) = sI b := by unfold wrap64; omega
 have q7 : wrap64 (sI a - sI b) = sI a - sI b := by unfold wrap64; omega
 have q8 : wrap64 (bI c) = bI c := by unfold wrap64; omega
 have q9 : wrap64 (sI a - sI b - bI c) = sI a - sI b - bI c := by unfold wrap64; omega
 have qv : x % 4294967296 = Yc2 a b c := by unfold Yc2; omega
 have hK : (x / 4294967296 != 0) = subC a b c := by
  rw [Bool.eq_iff_iff]
  simp only [bne_iff_ne, ne_eq, subC, decide_eq_true_eq]
  omega
 clear ha hb hc sa sb hy hx
 go_enter Tryd.func77, Tryd.ntmps77
 go_wp2_with (first | (go_at_call 85; refine (Yh9 c _).mono ?_; rintro e w' ⟨rfl, rfl⟩) | (go_at_call 86; refine (Yiz _ _).mono ?_; rintro e w' ⟨rfl, rfl⟩))
 exact bodyPost_ret (Yai rfl (Yk 6 rfl) (Yk 7 rfl) (Yk 8 rfl)) rfl ⟨rfl, rfl⟩
theorem Yj8 (v : Int) (h0 : 0 ≤ v) (h1 : v < 4294967296) : bits .and .u32 v 1 = v % 2 := by
 obtain ⟨v, rfl⟩ := Int.eq_ofNat_of_zero_le h0
 have := u32_and_nat v 1 (by omega) (by decide)
 rw [Nat.and_one_is_mod] at this
 exact this
def oddB (x : Int) : Nat → Bool
 |0 => false
 |k + 1 => oddB x k != (x / 2 ^ k % 2 == 1)
def Ybd (x : Int) : Bool := !oddB x 8
theorem Ykl (x : Int) (w : World) (hx : 0 ≤ x ∧ x < 4294967296) : Calls Tryd.prog 75 #[.int .u32 x] w fun e w' => e = .returned (.bool (Ybd x)) ∧ w = w' := by
 go_enter Tryd.func75, Tryd.ntmps75
 go_wp2_with fail
 go_loopw [3, 5] (fun o i wr => ∃ k : Nat, k ≤ 8 ∧ o = .bool (oddB x k) ∧ i = .int .i64 k ∧ w = wr) (fun _ i _ => 8 - (intOf i).toNat)
 case atStart => exact ⟨0, Nat.zero_le _, rfl, rfl, rfl⟩
 case round =>
  obtain ⟨k, hk, rfl, rfl, rfl⟩ := hrel
  by_cases hlt : k < 8
  ·have d1 : decide ((k : Int) < 8) = true := by simp; omega
   have hd := Int.ediv_nonneg hx.1 (show (0 : Int) ≤ 2 ^ k from Int.le_of_lt (Int.pow_pos (by decide)))
   have hd2 : x / 2 ^ k ≤ x := Int.ediv_le_self _ hx.1
   have qa := Yj8 (x / 2 ^ k) hd (by omega)
   have HX := Yh_ hx
   clear hd hd2 hx
   go_wp2_with fail
   exact ⟨⟨k + 1, by omega, by rw [oddB]; cases oddB x k <;> cases (x / 2 ^ k % 2 == 1) <;> rfl, rfl, trivial⟩, by simp [intOf]; omega⟩
  ·obtain rfl : k = 8 := by omega
   go_wp2_with fail
   go_ret
   exact ⟨rfl, rfl⟩
structure Fl where
 cf : Bool
 pf : Bool
 af : Bool
 zf : Bool
 sf : Bool
 of_ : Bool
def Fl.cells (f : Fl) : Array Value := #[.bool f.cf, .bool f.pf, .bool f.af, .bool f.zf, .bool f.sf, .bool f.of_]
def Fl.zero : Fl := ⟨false, false, false, false, false, false⟩
def St.fl (s : St) : Fl := ⟨s.cf, s.pf, s.af, s.zf, s.sf, s.of_⟩
def St.setFl (s : St) (f : Fl) : St := { s with cf := f.cf, pf := f.pf, af := f.af, zf := f.zf, sf := f.sf, of_ := f.of_ }
def Fl.by (f : Fl) (r : Int) : Fl := { f with zf := r == 0, sf := decide (2147483648 ≤ r), pf := Ybd r }
def addF (a b : Int) (c : Bool) : Fl := Fl.by ⟨addC a b c, false, decide (15 < Yc0 (a % 16) (b % 16) c), false, false, addO a b c⟩ (Yc0 a b c)
def Ydz (a b : Int) (c : Bool) : Fl := Fl.by ⟨subC a b c, false, subC (a % 16) (b % 16) c, false, false, subO a b c⟩ (Yc2 a b c)
def Ya0 (op a b : Int) (f : Fl) : Int :=
 if op = 3 then Yc0 a b false else if op = 5 then Yc0 a b f.cf else if op = 8 then Yc2 a b false else if op = 6 then Yc2 a b f.cf
 else if op = 7 then bits .and .u32 a b else if op = 4 then bits .or .u32 a b else if op = 9 then bits .xor .u32 a b
 else if op = 12 then Yc0 a 1 false else if op = 13 then Yc2 a 1 false else if op = 15 then Yc2 0 a false else if op = 14 then bits .xor .u32 IntKind.u32.max a else a
def Yar (op a b : Int) (f : Fl) : Fl :=
 if op = 3 then addF a b false else if op = 5 then addF a b f.cf else if op = 8 ∨ op = 10 then Ydz a b false else if op = 6 then Ydz a b f.cf
 else if op = 7 ∨ op = 11 then Fl.by Fl.zero (bits .and .u32 a b) else if op = 4 then Fl.by Fl.zero (bits .or .u32 a b) else if op = 9 then Fl.by Fl.zero (bits .xor .u32 a b)
 else if op = 12 then { addF a 1 false with cf := f.cf } else if op = 13 then { Ydz a 1 false with cf := f.cf } else if op = 15 then Ydz 0 a false else f
theorem Yao : (Tryd.prog.info? 25).map (·.size) = some 6 := by kernel_rfl
theorem Yan {tmps : Array Value} {w : World} (a : Tmp) (b : Nat) (f : Fl) (ha : tmps.getD a undef = .pointer (some ⟨b, 0, none⟩)) (hb : w.heap[b]? = some (.cells f.cells 25 (0, 0))) :
  (Ya9 tmps (.cell a 25)).run Tryd.prog w = .ok (.agg f.cells) w :=
 Yh2 a 25 b _ _ ha hb Tryd.underlying25 rfl Yao
theorem Yca (f : Fl) (r : Int) (w : World) (hr : 0 ≤ r ∧ r < 4294967296) : Calls Tryd.prog 49 #[.agg f.cells, .int .u32 r] w fun e w' => e = .returned (.agg (f.by r).cells) ∧ Upd [] w w' := by
 have qs : (r / 2147483648 == 1) = decide (2147483648 ≤ r) := by
  rw [Bool.eq_iff_iff]
  simp only [beq_iff_eq, decide_eq_true_eq]
  omega
 have HR := Yh_ hr
 obtain ⟨p, hp⟩ : ∃ p, Ybd r = p := ⟨_, rfl⟩
 have HP := Yh_ hp
 obtain ⟨c, d, e, z, n, o⟩ := f
 clear hr hp
 unfold Fl.cells
 go_enter Tryd.func49, Tryd.ntmps49
 go_wp2_with (go_at_call 75; refine (Ykl r _ HR.out).mono ?_; rintro e w' ⟨rfl, rfl⟩; rw [HP.out])
 refine bodyPost_ret (Yjs rfl (Yan 4 (w.heap.size + 1) (Fl.by ⟨c, d, e, z, n, o⟩ r) rfl ?_)) rfl ⟨rfl, ((Upd.refl [] w).alloc _).alloc _⟩
 rw [Fl.by, HP.out]
 exact heap_alloc2_new _ _ _
theorem Yhr (v : Int) (h0 : 0 ≤ v) (h1 : v < 4294967296) : bits .and .u32 v 15 = v % 16 := by
 obtain ⟨v, rfl⟩ := Int.eq_ofNat_of_zero_le h0
 have := u32_and_nat v 15 (by omega) (by decide)
 rw [show (15 : Nat) = 2 ^ 4 - 1 from rfl, Nat.and_two_pow_sub_one_eq_mod] at this
 exact this
theorem Yam {w : World} {b : Nat} {t : TypeId} {a0 a1 a2 a3 a4 a5 : Value} (h : w.heap[b]? = some (.cells #[a0, a1, a2, a3, a4, a5] t (0, 0))) (u0 u1 u2 u3 u4 u5 : Value) :
  ((((((w.setCell ⟨b, 0, none⟩ u0).setCell ⟨b, 1, none⟩ u1).setCell ⟨b, 2, none⟩ u2).setCell ⟨b, 3, none⟩ u3).setCell ⟨b, 4, none⟩ u4).setCell ⟨b, 5, none⟩ u5).heap[b]? = some (.cells #[u0, u1, u2, u3, u4, u5] t (0, 0)) :=
 Yf (Yf (Yf (Yf (Yf (Yf h 0 u0) 1 u1) 2 u2) 3 u3) 4 u4) 5 u5
theorem Yt {S : List Nat} {w0 w : World} {b : Nat} (h : Upd S w0 w) (hb : b ∈ S ∨ w0.heap.size ≤ b) (u0 u1 u2 u3 u4 u5 : Value) :
  Upd S w0 ((((((w.setCell ⟨b, 0, none⟩ u0).setCell ⟨b, 1, none⟩ u1).setCell ⟨b, 2, none⟩ u2).setCell ⟨b, 3, none⟩ u3).setCell ⟨b, 4, none⟩ u4).setCell ⟨b, 5, none⟩ u5) :=
 (((((h.setCell (p := ⟨b, 0, none⟩) hb _).setCell (p := ⟨b, 1, none⟩) hb _).setCell (p := ⟨b, 2, none⟩) hb _).setCell (p := ⟨b, 3, none⟩) hb _).setCell (p := ⟨b, 4, none⟩) hb _).setCell (p := ⟨b, 5, none⟩) hb _
theorem Yhd (a b : Int) (c : Bool) : 0 ≤ Yc0 a b c ∧ Yc0 a b c < 4294967296 := by unfold Yc0; omega
theorem Yhk (a b : Int) (c : Bool) : 0 ≤ Yc2 a b c ∧ Yc2 a b c < 4294967296 := by unfold Yc2; omega
theorem Ygx (a b : Int) (c : Bool) (w : World) (ha : 0 ≤ a ∧ a < 4294967296) (hb : 0 ≤ b ∧ b < 4294967296) : Calls Tryd.prog 52 #[.int .u32 a, .int .u32 b, .bool c] w fun e w' => e = .returned (.tuple #[.int .u32 (Yc0 a b c), .agg (addF a b c).cells]) ∧ Upd [] w w' := by
 have q1 := Yhr a ha.1 ha.2
 have q2 := Yhr b hb.1 hb.2
 have HA := Yh_ (And.intro ha hb)
 obtain ⟨⟨x0, x1, x2, x3, x4, x5⟩, hF⟩ : ∃ F, addF a b c = F := ⟨_, rfl⟩
 have HF := Yh_ hF
 have tok1 : True := trivial
 have tok2 : True := trivial
 have tok3 : True := trivial
 clear ha hb
 rw [hF]
 clear hF
 unfold Fl.cells
 go_enter Tryd.func52, Tryd.ntmps52
 go_wp2_with (first | (have _t := tok1; clear _t; go_at_call 76; refine (Yje a b c _ HA.out.1 HA.out.2).mono ?_; rintro e w' ⟨rfl, rfl⟩; clear tok1) | (have _t := tok2; clear _t; go_at_call 76; refine (Yje (a % 16) (b % 16) c _ (by omega) (by omega)).mono ?_; rintro e w' ⟨rfl, rfl⟩; clear tok2) | (have _t := tok3; clear _t; go_at_call 49; refine (Yca ⟨addC a b c, false, decide (15 < Yc0 (a % 16) (b % 16) c), false, false, addO a b c⟩ (Yc0 a b c) _ (Yhd a b c)).mono ?_; rintro e w1 ⟨rfl, hu⟩; rw [show Fl.by ⟨addC a b c, false, decide (15 < Yc0 (a % 16) (b % 16) c), false, false, addO a b c⟩ (Yc0 a b c) = addF a b c from rfl, HF.out]; unfold Fl.cells; have hg := hu.get (heap_alloc_new w _) (by simp); have ch := Ya hg; have fh := Yc hg; have U1 := Yh_ (And.intro hg (((Upd.refl [] w).alloc _).also hu (by simp))); clear hg hu tok3))
 exact bodyPost_ret (Yp rfl (Yk 6 rfl) (Yan 7 w.heap.size ⟨x0, x1, x2, x3, x4, x5⟩ rfl (Yam U1.out.1 _ _ _ _ _ _))) rfl ⟨rfl, Yt U1.out.2 (.inr (Nat.le_refl _)) _ _ _ _ _ _⟩
theorem Ydq (a b : Int) (c : Bool) (w : World) (ha : 0 ≤ a ∧ a < 4294967296) (hb : 0 ≤ b ∧ b < 4294967296) : Calls Tryd.prog 53 #[.int .u32 a, .int .u32 b, .bool c] w fun e w' => e = .returned (.tuple #[.int .u32 (Yc2 a b c), .agg (Ydz a b c).cells]) ∧ Upd [] w w' := by
 have q1 := Yhr a ha.1 ha.2
 have q2 := Yhr b hb.1 hb.2
 have HA := Yh_ (And.intro ha hb)
 obtain ⟨⟨x0, x1, x2, x3, x4, x5⟩, hF⟩ : ∃ F, Ydz a b c = F := ⟨_, rfl⟩
 have HF := Yh_ hF
 have tok1 : True := trivial
 have tok2 : True := trivial
 have tok3 : True := trivial
 clear ha hb
 rw [hF]
 clear hF
 unfold Fl.cells
 go_enter Tryd.func53, Tryd.ntmps53
 go_wp2_with (first | (have _t := tok1; clear _t; go_at_call 77; refine (Yjd a b c _ HA.out.1 HA.out.2).mono ?_; rintro e w' ⟨rfl, rfl⟩; clear tok1) | (have _t := tok2; clear _t; go_at_call 77; refine (Yjd (a % 16) (b % 16) c _ (by omega) (by omega)).mono ?_; rintro e w' ⟨rfl, rfl⟩; clear tok2) | (have _t := tok3; clear _t; go_at_call 49; refine (Yca ⟨subC a b c, false, subC (a % 16) (b % 16) c, false, false, subO a b c⟩ (Yc2 a b c) _ (Yhk a b c)).mono ?_; rintro e w1 ⟨rfl, hu⟩; rw [show Fl.by ⟨subC a b c, false, subC (a % 16) (b % 16) c, false, false, subO a b c⟩ (Yc2 a b c) = Ydz a b c from rfl, HF.out]; unfold Fl.cells; have hg := hu.get (heap_alloc_new w _) (by simp); have ch := Ya hg; have fh := Yc hg; have U1 := Yh_ (And.intro hg (((Upd.refl [] w).alloc _).also hu (by simp))); clear hg hu tok3))
 exact bodyPost_ret (Yp rfl (Yk 6 rfl) (Yan 7 w.heap.size ⟨x0, x1, x2, x3, x4, x5⟩ rfl (Yam U1.out.1 _ _ _ _ _ _))) rfl ⟨rfl, Yt U1.out.2 (.inr (Nat.le_refl _)) _ _ _ _ _ _⟩
end Go.Proofs.YtjkolegknpflfaaDoor
