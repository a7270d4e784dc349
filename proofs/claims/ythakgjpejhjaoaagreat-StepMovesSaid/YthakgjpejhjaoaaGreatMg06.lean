/-
  Parts of the proof (their names shortened by a program). No condition.
-/
import Derived.Test.YthakgjpejhjaoaaGreatMg01
import Derived.Test.YthakgjpejhjaoaaGreatMg05
import Derived.Test.YthakgjpejhjaoaaGreatMg03
import Derived.Laws.IdiomCopy
import Derived.Test.YthakgjpejhjaoaaGreatMg02
import Derived.StillTailTactics
import Derived.Outline
namespace Go.Proofs.YthakgjpejhjaoaaGreat
open Go Go.RowKit
set_option linter.unusedVariables false
set_option linter.unusedSimpArgs false
set_option maxRecDepth 100000
set_option maxHeartbeats 16000000
def Yd5 (M : Mem) (s : St) (o : Opd) (b r : Int) : Flt := if o.k = 3 then M.canF (s.place o) (wd b).toNat r else Flt.zero
def Ycm (M : Mem) (s : St) (o : Opd) (b r : Int) : Bool := if o.k = 3 then M.canK (s.place o) (wd b).toNat r else true
theorem Yjr (M : Mem) (a pb : Nat) (s : St) (o : Opd) (b r : Int) (w : World) (hM : Yk w a pb M) :
  Calls Tryz.prog 60 #[.pointer (some ⟨a, 0, none⟩), .agg s.cells, o.val, .int .i64 b, .int .i64 r] w fun e w' => e = .returned (.tuple #[(Yd5 M s o b r).val, .bool (Ycm M s o b r)]) ∧ Upd [] w w' := by
 have HB := Yh_ (RdB.start s o w)
 have HM := Yh_ hM
 clear hM
 unfold Opd.val
 by_cases h3 : o.k = 3
 ·have e3 : (o.k == 3) = true := by simpa using h3
  have e3' : (o.k != 3) = false := by simpa using h3
  have hp := Ydd s o
  have hq : (b = 1 ∧ (wd b).toNat = 1) ∨ (b ≠ 1 ∧ (wd b).toNat = 4) := by unfold wd; split <;> simp_all
  have HF := Yh_ (show Yd5 M s o b r = M.canF (s.place o) (wd b).toNat r by rw [Yd5, if_pos h3])
  have HK := Yh_ (show Ycm M s o b r = M.canK (s.place o) (wd b).toNat r by rw [Ycm, if_pos h3])
  clear h3
  rcases hq with ⟨hb, hw⟩ | ⟨hb, hw⟩
  ·rw [hw] at HF HK
   have hb1 : (b == 1) = true := by simpa using hb
   have hb2 : (b != 1) = false := by simpa using hb
   subst hb
   clear hw
   go_enter Tryz.func60, Tryz.ntmps60
   go_wp2_with (first | (refine Yae s w.heap.size rfl _ rfl rfl HB.out.s ?_) | (go_at_call 71; refine (Ydh s o _).mono ?_; rintro e w2 ⟨rfl, hu⟩; have H2 := Yh_ (HB.out.step hu); clear hu) | (go_at_call 97; refine (Yn5 M a pb 1 (s.place o) r _ (HM.out.keep H2.out.u (by simp) (by simp)) hp.1 hp.2 (by decide)).mono ?_; rintro e w3 ⟨rfl, hu⟩; unfold Flt.val; have H3 := Yh_ (H2.out.step hu); clear hu H2; have ff := Yn H3.out.f; have cf := Ya H3.out.f))
   refine bodyPost_ret (Yaz rfl (Ydf 10 (w.heap.size + 1 + 1) _ rfl (Ycu H3.out.f _ _ _ _)) (Yal _ rfl)) rfl ⟨?_, Ya0 H3.out.u (.inr (by omega)) _ _ _ _⟩
   rw [HF.out, HK.out]
   rfl
  ·rw [hw] at HF HK
   have hb1 : (b == 1) = false := by simpa using hb
   have hb2 : (b != 1) = true := by simpa using hb
   clear hb hw
   go_enter Tryz.func60, Tryz.ntmps60
   go_wp2_with (first | (refine Yae s w.heap.size rfl _ rfl rfl HB.out.s ?_) | (go_at_call 71; refine (Ydh s o _).mono ?_; rintro e w2 ⟨rfl, hu⟩; have H2 := Yh_ (HB.out.step hu); clear hu) | (go_at_call 97; refine (Yn5 M a pb 4 (s.place o) r _ (HM.out.keep H2.out.u (by simp) (by simp)) hp.1 hp.2 (by decide)).mono ?_; rintro e w3 ⟨rfl, hu⟩; unfold Flt.val; have H3 := Yh_ (H2.out.step hu); clear hu H2; have ff := Yn H3.out.f; have cf := Ya H3.out.f))
   refine bodyPost_ret (Yaz rfl (Ydf 10 (w.heap.size + 1 + 1) _ rfl (Ycu H3.out.f _ _ _ _)) (Yal _ rfl)) rfl ⟨?_, Ya0 H3.out.u (.inr (by omega)) _ _ _ _⟩
   rw [HF.out, HK.out]
   rfl
 ·have e3 : (o.k == 3) = false := by simpa using h3
  have e3' : (o.k != 3) = true := by simpa using h3
  have HF := Yh_ (show Yd5 M s o b r = Flt.zero by rw [Yd5, if_neg h3])
  have HK := Yh_ (show Ycm M s o b r = true by rw [Ycm, if_neg h3])
  clear h3
  go_enter Tryz.func60, Tryz.ntmps60
  go_wp2_with fail
  refine bodyPost_ret (Yaz rfl (Ydf 10 (w.heap.size + 1 + 1) Flt.zero rfl HB.out.f) (Yal _ rfl)) rfl ⟨?_, HB.out.u⟩
  rw [HF.out, HK.out]
  rfl
structure FkB (S : List Nat) (w : World) (F : Flt) (K : Bool) (w1 : World) : Prop where
 f : w1.heap[w.heap.size]? = some (.cells #[.int .i64 F.k, .int .u32 F.pc, .int .u32 F.a, .int .i64 F.wt] 35 (0, 0))
 k : w1.heap[w.heap.size + 1]? = some (.cells #[.bool K] 4 (0, 0))
 u : Upd S w w1
theorem FkB.start (w : World) : FkB [] w Flt.zero false ((w.alloc (.cells #[.int .i64 0, .int .u32 0, .int .u32 0, .int .i64 0] 35)).alloc (.cells #[.bool false] 4)) :=
 ⟨heap_alloc2_old _ _ _, heap_alloc2_new _ _ _, ((Upd.refl _ _).alloc _).alloc _⟩
theorem FkB.step {S S' T : List Nat} {w w1 w2 : World} {F : Flt} {K : Bool} (h : FkB T w F K w1) (u : Upd S w1 w2) (hS : ∀ x, x ∈ S → x < w.heap.size) (hu : Upd S' w w2) : FkB S' w F K w2 :=
 ⟨u.get h.f (fun hh => by have := hS _ hh; omega), u.get h.k (fun hh => by have := hS _ hh; omega), hu⟩
theorem FkB.st {S : List Nat} {w w1 : World} {F : Flt} {K : Bool} (h : FkB S w F K w1) (F' : Flt) (K' : Bool) :
  FkB S w F' K' (((((w1.setCell ⟨w.heap.size, 0, none⟩ (.int .i64 F'.k)).setCell ⟨w.heap.size, 0 + 1, none⟩ (.int .u32 F'.pc)).setCell ⟨w.heap.size, 0 + 2, none⟩ (.int .u32 F'.a)).setCell ⟨w.heap.size, 0 + 3, none⟩ (.int .i64 F'.wt)).setCell ⟨w.heap.size + 1, 0, none⟩ (.bool K')) := by
 have UK := Ya0 (S := [w.heap.size]) (b := w.heap.size) (Upd.refl _ w1) (.inl (by simp)) (.int .i64 F'.k) (.int .u32 F'.pc) (.int .u32 F'.a) (.int .i64 F'.wt)
 exact ⟨Yg (a := ⟨w.heap.size + 1, 0, none⟩) _ (by simp) (Ycu h.f _ _ _ _), Yh (UK.get h.k (by simp)) 0 _, (Ya0 (b := w.heap.size) h.u (.inr (Nat.le_refl _)) _ _ _ _).setCell (.inr (by simp)) _⟩
theorem Ynn {w : World} {a pb : Nat} {M : Mem} (h : Yk w a pb M) (x b r : Int) : 0 ≤ M.readV x b r ∧ M.readV x b r < 4294967296 := by
 unfold Mem.readV
 have hw := Ygb b
 split
 ·have := Yfz h x (Yau b).toNat
  rcases hw with hw | hw | hw
  ·rw [hw] at this ⊢
   exact ⟨this.1, Int.lt_of_lt_of_le this.2 (by decide)⟩
  ·rw [hw] at this ⊢
   exact ⟨this.1, Int.lt_of_lt_of_le this.2 (by decide)⟩
  ·rw [hw] at this ⊢
   exact ⟨this.1, this.2⟩
 ·omega
theorem Yfe (pc : Int) (fb kb : Nat) (y0 y1 y2 y3 k0 : Value) (x0 x1 x2 x3 : Int) (older : List PanicEntry) (w : World)
  (hf : w.heap[fb]? = some (.cells #[y0, y1, y2, y3] 35 (0, 0))) (hk : w.heap[kb]? = some (.cells #[k0] 4 (0, 0))) (hne : fb ≠ kb) :
  CallsD Tryz.prog 31 #[.int .u32 pc, .pointer (some ⟨fb, 0, none⟩), .pointer (some ⟨kb, 0, none⟩)] (.panicking ({ v := .iface 35 (.agg #[.int .i64 x0, .int .u32 x1, .int .u32 x2, .int .i64 x3]), recovered := false } :: older)) w fun e u' w' =>
   e = .returned (.tuple #[]) ∧ u' = .panicking ({ v := .iface 35 (.agg #[.int .i64 x0, .int .u32 x1, .int .u32 x2, .int .i64 x3]), recovered := true } :: older) ∧
    w'.heap[fb]? = some (.cells #[.int .i64 x0, .int .u32 pc, .int .u32 x2, .int .i64 x3] 35 (0, 0)) ∧ w'.heap[kb]? = some (.cells #[.bool false] 4 (0, 0)) ∧ Upd [fb, kb] w w' := by
 refine callsD_of_wpS Tryz.func31 rfl fun c₀ cs hu => ?_
 simp only [Tryz.ntmps31, List.size_toArray, List.length_cons, List.length_nil, Nat.reduceAdd, Nat.reduceSub, Array.replicate_succ, Array.replicate_zero, List.push_toArray, List.append_toArray, List.nil_append, List.cons_append]
 apply wpS_seq
 apply wpS_region
 simp [wpOpsS, go_sem, recoverD, hu, Tryz.ntmps31, Exit.thenS]
 refine wpS_of_wp ?_
 clear hu
 have hfl := Yj hf
 have hkl := Yj hk
 have hcf : ∀ o, w.cell? ⟨fb, o, none⟩ = #[y0, y1, y2, y3][o]? := Ya hf
 have hck : ∀ o, w.cell? ⟨kb, o, none⟩ = #[k0][o]? := Ya hk
 have hff : ∀ o, w.frozen? ⟨fb, o, none⟩ = false := Yn hf
 have hfk : ∀ o, w.frozen? ⟨kb, o, none⟩ = false := Yn hk
 have HF := Yh_ hf
 have HK := Yh_ hk
 clear hf hk
 have hta := Yfu
 go_wp2_with fail
 refine ⟨rfl, _, rfl, _, results_none rfl _ _ _, rfl, rfl, ?_, ?_, ?_⟩
 ·refine Ym _ (Yg _ hne ?_)
  have h := Yh (Yh (Yh (Yh HF.out 0 (.int .i64 x0)) 1 (.int .u32 pc)) 2 (.int .u32 x2)) 3 (.int .i64 x3)
  exact h
 ·refine Ym _ ?_
  have h := Yg (a := ⟨fb, 3, none⟩) (.int .i64 x3) hne.symm (Yg (a := ⟨fb, 2, none⟩) (.int .u32 x2) hne.symm (Yg (a := ⟨fb, 1, none⟩) (.int .u32 pc) hne.symm (Yg (a := ⟨fb, 0, none⟩) (.int .i64 x0) hne.symm HK.out)))
  exact Yh h 0 (.bool false)
 ·exact ((((((Upd.refl _ _).setCell (by simp) _).setCell (by simp) _).setCell (by simp) _).setCell (by simp) _).setCell (by simp) _).alloc _
theorem Yhk (pc : Int) (fb kb : Nat) (w : World) :
  CallsD Tryz.prog 31 #[.int .u32 pc, .pointer (some ⟨fb, 0, none⟩), .pointer (some ⟨kb, 0, none⟩)] .returning w fun e u' w' => e = .returned (.tuple #[]) ∧ u' = .returning ∧ w = w' := by
 refine callsD_of_wpS Tryz.func31 rfl fun c₀ cs hu => ?_
 simp only [Tryz.ntmps31, List.size_toArray, List.length_cons, List.length_nil, Nat.reduceAdd, Nat.reduceSub, Array.replicate_succ, Array.replicate_zero, List.push_toArray, List.append_toArray, List.nil_append, List.cons_append]
 apply wpS_seq
 apply wpS_region
 simp [wpOpsS, go_sem, recoverD, hu, Tryz.ntmps31, Exit.thenS]
 refine wpS_of_wp ?_
 have HU := Yh_ hu
 clear hu
 go_wp2_with fail
 refine ⟨rfl, .returning, ?_, _, results_none rfl _ _ _, rfl, rfl, rfl⟩
 rw [← HU.out]
def Yi3 (pc : Int) (fb kb : Nat) : List Deferred :=
 [{ target := .fn (.func 31) #[], args := #[.int .u32 pc, .pointer (some ⟨fb, 0, none⟩), .pointer (some ⟨kb, 0, none⟩)] }]
theorem Yl4 {fn : Func} {tmps : Array Value} {R : Ending → World → Prop} {w1 : World} {pc : Int} {fb kb : Nat} {y0 y1 y2 y3 k0 : Value} (F : Flt) (V : Value)
  (hres : ∀ w2, w2.heap[fb]? = some (.cells #[.int .i64 F.k, .int .u32 pc, .int .u32 F.a, .int .i64 F.wt] 35 (0, 0)) → w2.heap[kb]? = some (.cells #[.bool false] 4 (0, 0)) → Upd [fb, kb] w1 w2 → (results fn tmps).run Tryz.prog w2 = .ok V w2)
  (hf : w1.heap[fb]? = some (.cells #[y0, y1, y2, y3] 35 (0, 0))) (hk : w1.heap[kb]? = some (.cells #[k0] 4 (0, 0))) (hne : fb ≠ kb)
  (hR : ∀ w2, Upd [fb, kb] w1 w2 → R (.returned V) w2) :
  Leaves Tryz.prog fn tmps R (Yi3 pc fb kb) (.panicking [{ v := .iface 35 F.val, recovered := false }]) w1 := by
 refine leaves_cons (f := 31) (args := #[.int .u32 pc, .pointer (some ⟨fb, 0, none⟩), .pointer (some ⟨kb, 0, none⟩)]) (by simp) (by simp [go_sem]) ?_
 refine (Yfe pc fb kb _ _ _ _ _ _ _ _ _ [] w1 hf hk hne).mono ?_
 rintro e u' w2 ⟨rfl, rfl, hf, hk, hU⟩
 simp only [settle, List.dropWhile_nil]
 exact ⟨_, hres w2 hf hk hU, hR _ hU⟩
theorem Ypn {fn : Func} {tmps : Array Value} {R : Ending → World → Prop} {w1 : World} {pc : Int} {fb kb : Nat} (V : Value) (hres : (results fn tmps).run Tryz.prog w1 = .ok V w1) (hR : R (.returned V) w1) :
  Leaves Tryz.prog fn tmps R (Yi3 pc fb kb) .returning w1 := by
 refine leaves_cons (f := 31) (args := #[.int .u32 pc, .pointer (some ⟨fb, 0, none⟩), .pointer (some ⟨kb, 0, none⟩)]) (by simp) (by simp [go_sem]) ?_
 refine (Yhk _ _ _ w1).mono ?_
 rintro e u' w2 ⟨rfl, rfl, rfl⟩
 simp only [settle]
 exact ⟨_, hres, hR⟩
theorem Ynj (x : Int) (w : World) (h0 : 0 ≤ x) (h1 : x < 4294967296) :
  Calls Tryz.prog 133 #[.int .u32 x, .int .i64 8] w fun e w' => e = .returned (.int .i32 (if x % 256 < 128 then x % 256 else x % 256 - 256)) ∧ w = w' := by
 obtain ⟨r, hr⟩ : ∃ r : Int, (if x % 256 < 128 then x % 256 else x % 256 - 256) = r := ⟨_, rfl⟩
 have e1 : wrap32 (x * 16777216 % 4294967296) / 16777216 = r := by
  rw [← hr]
  unfold wrap32
  split <;> omega
 rw [hr]
 clear hr h0 h1
 go_enter Tryz.func133, Tryz.ntmps133
 go_wp2
 go_ret
 exact ⟨rfl, rfl⟩
def Ydr (x : Int) : Int := if x % 256 < 128 then x % 256 else x % 256 + 4294967040
theorem Ye7 (x : Int) (w : World) (h0 : 0 ≤ x) (h1 : x < 4294967296) :
  Calls Tryz.prog 117 #[.int .u32 x] w fun e w' => e = .returned (.int .u32 (Ydr x)) ∧ w = w' := by
 obtain ⟨r, hr⟩ : ∃ r : Int, (if x % 256 < 128 then x % 256 else x % 256 - 256) = r := ⟨_, rfl⟩
 have e1 : r % 4294967296 = Ydr x := by
  rw [← hr]
  unfold Ydr
  split <;> omega
 have HX := Yh_ (And.intro h0 h1)
 have HR := Yh_ hr
 clear h0 h1 hr
 go_enter Tryz.func117, Tryz.ntmps117
 go_wp2_with (go_at_call 133; refine (Ynj x _ HX.out.1 HX.out.2).mono ?_; rintro e w' ⟨rfl, rfl⟩; rw [HR.out])
 go_ret
 exact ⟨Yem (congrArg (Value.int .u32) (by first | rfl | exact e1)), rfl⟩
theorem Yi1 {w : World} {p : Addr} {v : Value} (o : Obj) (h : w.cell? p = some v) (hp : p.block < w.heap.size) : (w.alloc o).cell? p = some v := by
 rw [World.cell?, heap_alloc_old _ _ hp]
 exact h
theorem Ypl (a b c d : Int) (ha : 0 ≤ a ∧ a ≤ 255) (hb : 0 ≤ b ∧ b ≤ 255) (hc : 0 ≤ c ∧ c ≤ 255) (hd : 0 ≤ d ∧ d ≤ 255) :
  bits .or .u32 (bits .or .u32 (bits .or .u32 a (b * 256)) (c * 65536)) (d * 16777216) = a + b * 256 + c * 65536 + d * 16777216 := by
 obtain ⟨a, rfl⟩ := Int.eq_ofNat_of_zero_le ha.1
 obtain ⟨b, rfl⟩ := Int.eq_ofNat_of_zero_le hb.1
 obtain ⟨c, rfl⟩ := Int.eq_ofNat_of_zero_le hc.1
 obtain ⟨d, rfl⟩ := Int.eq_ofNat_of_zero_le hd.1
 have q1 := u32_or_nat a (b * 256) (by omega) (by omega)
 have q2 := u32_or_nat (b * 256 + a) (c * 65536) (by omega) (by omega)
 have q3 := u32_or_nat (c * 65536 + (b * 256 + a)) (d * 16777216) (by omega) (by omega)
 rw [Nat.or_comm, nat_join 8 _ _ (by omega) (by omega)] at q1
 rw [Nat.or_comm, nat_join 16 _ _ (by omega) (by omega)] at q2
 rw [Nat.or_comm, nat_join 24 _ _ (by omega) (by omega)] at q3
 have e1 : (b : Int) * 256 = ((b * 256 : Nat) : Int) := by omega
 have e2 : (c : Int) * 65536 = ((c * 65536 : Nat) : Int) := by omega
 have e3 : (d : Int) * 16777216 = ((d * 16777216 : Nat) : Int) := by omega
 rw [e1, q1, e2, q2, e3, q3]
 omega
theorem Word_any (g o c : Nat) (f : Nat → Int) (w : World) (hf : ∀ i, i < 4 → w.cell? ⟨g, o + i, none⟩ = some (.int .u8 (f i))) (hr : ∀ i, 0 ≤ f i ∧ f i ≤ 255) (hg : g < w.heap.size) :
  Calls Tryz.prog 124 #[.slice (some ⟨g, o, none⟩) 4 c] w fun e w' => e = .returned (.int .u32 (f 0 + f 1 * 256 + f 2 * 65536 + f 3 * 16777216)) ∧ Upd [] w w' := by
 have hn := heap_alloc_new w (.cells #[Value.int .u8 0, .int .u8 0, .int .u8 0, .int .u8 0] 180)
 have hcp := run_copy_cells (P := Tryz.prog) (w.alloc (.cells #[Value.int .u8 0, .int .u8 0, .int .u8 0, .int .u8 0] 180)) 57 57 3 5 w.heap.size 0 4 4 ⟨g, o, none⟩ 4 c [.int .u8 (f 0), .int .u8 (f 1), .int .u8 (f 2), .int .u8 (f 3)]
  Tryz.underlying57 (by kernel_rfl) (by rfl) (by
   intro j v hv
   rw [Addr.add_mid]
   refine Yi1 _ ?_ hg
   rcases j with _ | _ | _ | _ | j
   ·rw [List.getElem?_cons_zero, Option.some.injEq] at hv; subst hv; exact hf 0 (by decide)
   ·rw [List.getElem?_cons_succ, List.getElem?_cons_zero, Option.some.injEq] at hv; subst hv; exact hf 1 (by decide)
   ·rw [List.getElem?_cons_succ, List.getElem?_cons_succ, List.getElem?_cons_zero, Option.some.injEq] at hv; subst hv; exact hf 2 (by decide)
   ·rw [List.getElem?_cons_succ, List.getElem?_cons_succ, List.getElem?_cons_succ, List.getElem?_cons_zero, Option.some.injEq] at hv; subst hv; exact hf 3 (by decide)
   ·simp at hv) (by intro j hj; rw [Ya hn]; simp at hj ⊢; omega) (by intro j hj; rw [Yn hn]) (by simp [Value.oneCell'])
 obtain ⟨w2, hw2⟩ : ∃ w2, (w.alloc (.cells #[Value.int .u8 0, .int .u8 0, .int .u8 0, .int .u8 0] 180)).setCells w.heap.size 0 [.int .u8 (f 0), .int .u8 (f 1), .int .u8 (f 2), .int .u8 (f 3)] = w2 := ⟨_, rfl⟩
 rw [hw2] at hcp
 have h2 : w2.heap[w.heap.size]? = some (.cells #[.int .u8 (f 0), .int .u8 (f 1), .int .u8 (f 2), .int .u8 (f 3)] 180 (0, 0)) := by
  rw [← hw2, Yag _ _ _ _ hn]
  rfl
 have HU := Yh_ (show Upd [] w w2 by rw [← hw2]; exact ((Upd.refl [] w).alloc _).setCells (.inr (Nat.le_refl _)) _ _)
 have hc2 := Ya h2
 have hj := Ypl (f 0) (f 1) (f 2) (f 3) (hr 0) (hr 1) (hr 2) (hr 3)
 have r0 := hr 0
 have r1 := hr 1
 have r2 := hr 2
 have r3 := hr 3
 have s0 : f 0 % 4294967296 = f 0 := by omega
 have s1 : f 1 * 256 % 4294967296 = f 1 * 256 := by omega
 have s2 : f 2 * 65536 % 4294967296 = f 2 * 65536 := by omega
 have s3 : f 3 * 16777216 % 4294967296 = f 3 * 16777216 := by omega
 clear hf hr hn hg r0 r1 r2 r3 hw2 h2
 go_enter Tryz.func124, Tryz.ntmps124
 go_wp2_with fail
 go_ret
 exact ⟨Yem (congrArg (Value.int .u32) (by first | rfl | exact hj)), HU.out⟩
inductive DR (α : Type) where
 |ok (v : α) (k : Nat)
 |err (c : Int)
def DR.bind {α β : Type} (r : DR α) (f : α → Nat → DR β) : DR β :=
 match r with
 |.ok v k => f v k
 |.err c => .err c
theorem DR.bind_ok {α β : Type} (v : α) (k : Nat) (f : α → Nat → DR β) : (DR.ok v k).bind f = f v k := rfl
theorem DR.bind_err {α β : Type} (c : Int) (f : α → Nat → DR β) : (DR.err c : DR α).bind f = .err c := rfl
def Yw (L : List Int) (k : Nat) : DR Int := if k < L.length then .ok (L.getD k 0) (k + 1) else .err 10
def Ybr (L : List Int) (k : Nat) : Int := L.getD k 0 + L.getD (k + 1) 0 * 256 + L.getD (k + 2) 0 * 65536 + L.getD (k + 3) 0 * 16777216
def Ycn (L : List Int) (k : Nat) : DR Int := if k + 4 ≤ L.length then .ok (Ybr L k) (k + 4) else .err 10
def sx8 (b : Int) : Int := if b < 128 then b else b + 4294967040
def Yb5 (L : List Int) (k : Nat) : DR Opd := (Yw L k).bind fun b k => .ok (Yfs (sx8 b)) k
def Ybz (L : List Int) (k : Nat) : DR Opd := (Yw L k).bind fun b k => .ok (Yfs b) k
def Yak (L : List Int) (k : Nat) : DR Opd := (Ycn L k).bind fun v k => .ok (Yfs v) k
structure Mrm where
 mod : Int
 reg : Int
 rm : Int
def Mrm.cells (m : Mrm) : Array Value := #[.int .i64 m.mod, .int .i64 m.reg, .int .i64 m.rm]
def Ye1 (b : Int) : Mrm := ⟨b / 64, b / 8 % 8, b % 8⟩
def Yab (L : List Int) (k : Nat) : DR Mrm := (Yw L k).bind fun b k => .ok (Ye1 b) k
def Yaa (L : List Int) (mod base x sc : Int) (k : Nat) : DR Opd :=
 if mod = 1 then (Yw L k).bind fun b k => .ok ⟨3, 0, sx8 b, base, x, sc⟩ k
 else if mod = 2 then (Ycn L k).bind fun v k => .ok ⟨3, 0, v, base, x, sc⟩ k
 else if base = 5 then (Ycn L k).bind fun v k => .ok ⟨3, 0, v, -1, x, sc⟩ k
 else .ok ⟨3, 0, 0, base, x, sc⟩ k
def Ybb (L : List Int) (m : Mrm) (k : Nat) : DR Opd :=
 if m.mod = 3 then .ok (Yam m.rm) k
 else if m.rm = 4 then (Yw L k).bind fun s k => Yaa L m.mod (s % 8) (if s / 8 % 8 = 4 then -1 else s / 8 % 8) (if s / 8 % 8 = 4 then 1 else 2 ^ (s / 64).toNat) k
 else Yaa L m.mod m.rm (-1) 1 k
def Yap (n : Int) : Int := n + 3
def Ycp (n : Int) : Int := if n = 0 then 21 else if n = 1 then 22 else if n = 4 then 23 else if n = 5 then 24 else if n = 7 then 25 else 0
def Yc0 (n : Int) : Int := if n = 2 then 14 else if n = 3 then 15 else if n = 4 then 16 else if n = 5 then 17 else if n = 6 then 19 else if n = 7 then 20 else 0
def Ydz (n : Int) : Int := if n = 0 then 47 else if n = 1 then 48 else if n = 2 then 53 else if n = 4 then 49 else if n = 6 then 50 else 0
def fldI (n : Int) : Int := if n = 0 then 45 else if n = 3 then 46 else 0
def Yfk (n : Int) : Int := if n = 0 then 12 else if n = 1 then 13 else if n = 2 then 30 else if n = 4 then 32 else if n = 6 then 28 else 0
def Yat (L : List Int) (op : Int) (toReg : Bool) (k : Nat) : DR Ins :=
 (Yab L k).bind fun m k => (Ybb L m k).bind fun o k => .ok (if toReg = true then ⟨op, 0, Yam m.reg, o, false, 0⟩ else ⟨op, 0, o, Yam m.reg, false, 0⟩) k
def Yba (L : List Int) (op : Int) (m : Mrm) (k : Nat) : DR Ins := (Ybb L m k).bind fun o k => .ok ⟨op, 0, o, Opd.none, false, 0⟩ k
def Yhp (L : List Int) (c : Int) (k : Nat) : DR Ins :=
 if c % 8 = 1 then Yat L (Yap (c / 8)) false k
 else if c % 8 = 3 then Yat L (Yap (c / 8)) true k
 else if c % 8 = 5 then (Yak L k).bind fun o k => .ok ⟨Yap (c / 8), 0, Yam 0, o, false, 0⟩ k
 else .err 12
def Ygp (L : List Int) (k : Nat) : DR Ins :=
 (Yab L k).bind fun m k => if m.mod = 3 then .err 90 else (Ybb L m k).bind fun o k => .ok ⟨26, 0, Yam m.reg, o, false, 0⟩ k
def Ydu (L : List Int) (c : Int) (k : Nat) : DR Ins :=
 (Yab L k).bind fun m k => if m.reg ≠ 0 then .err 90 else (Ybb L m k).bind fun o k =>
  if c = 199 then (Yak L k).bind fun i k => .ok ⟨1, 0, o, i, false, 0⟩ k
  else (Ybz L k).bind fun i k => .ok ⟨2, 0, o, i, false, 0⟩ k
def Ycf (L : List Int) (c : Int) (k : Nat) : DR Ins :=
 (Yab L k).bind fun m k => if Ycp m.reg = 0 then .err 12 else (Ybb L m k).bind fun o k =>
  if c = 193 then (Ybz L k).bind fun i k => .ok ⟨Ycp m.reg, 0, o, i, false, 0⟩ k
  else if c = 209 then .ok ⟨Ycp m.reg, 0, o, Yfs 1, false, 0⟩ k
  else .ok ⟨Ycp m.reg, 0, o, Yam 1, false, 0⟩ k
def Ye2 (c : Int) (m : Mrm) : Int := if c = 221 then fldI m.reg else Ydz m.reg
def Ycr (L : List Int) (c : Int) (k : Nat) : DR Ins :=
 (Yab L k).bind fun m k => if Ye2 c m = 0 ∨ m.mod = 3 then .err 12 else Yba L (Ye2 c m) m k
def Yeu (L : List Int) (k : Nat) : DR Ins :=
 (Yab L k).bind fun m k =>
  if m.reg = 0 then (Ybb L m k).bind fun o k => (Yak L k).bind fun i k => .ok ⟨11, 0, o, i, false, 0⟩ k
  else if Yc0 m.reg ≠ 0 then Yba L (Yc0 m.reg) m k
  else .err 12
def Yft (L : List Int) (k : Nat) : DR Ins :=
 (Yab L k).bind fun m k => if Yfk m.reg ≠ 0 then Yba L (Yfk m.reg) m k else if m.reg = 7 then .err 90 else .err 12
def Ybj (op : Int) : Ins := ⟨op, 0, Opd.none, Opd.none, false, 0⟩
def Ybw (L : List Int) (c : Int) (k : Nat) : DR Ins :=
 if c = 193 ∨ c = 209 ∨ c = 211 then Ycf L c k
 else if c = 205 then (Ybz L k).bind fun o k => if o.imm = 128 then .ok ⟨43, 0, o, Opd.none, false, 0⟩ k else .err 12
 else if c = 217 then (Yw L k).bind fun x k => if x = 224 then .ok (Ybj 51) k else if x = 225 then .ok (Ybj 52) k else .err 12
 else if c = 220 ∨ c = 221 then Ycr L c k
 else if c = 243 then (Yw L k).bind fun x k => if x = 165 then .ok ⟨41, 0, Opd.none, Opd.none, true, 0⟩ k else if x = 171 then .ok ⟨42, 0, Opd.none, Opd.none, true, 0⟩ k else .err 12
 else if c = 247 then Yeu L k
 else if c = 255 then Yft L k
 else .err 12
def Yb4 (L : List Int) (c : Int) (k : Nat) : DR Ins :=
 if c = 144 then .ok (Ybj 44) k
 else if c = 153 then .ok (Ybj 38) k
 else if c = 165 then .ok (Ybj 41) k
 else if c = 171 then .ok (Ybj 42) k
 else if c = 195 then .ok (Ybj 31) k
 else if c = 252 then .ok (Ybj 39) k
 else if c = 253 then .ok (Ybj 40) k
 else if c = 232 then (Yak L k).bind fun o k => .ok ⟨30, 0, o, Opd.none, false, 0⟩ k
 else if c = 233 then (Yak L k).bind fun o k => .ok ⟨32, 0, o, Opd.none, false, 0⟩ k
 else if c = 235 then (Yb5 L k).bind fun o k => .ok ⟨32, 0, o, Opd.none, false, 0⟩ k
 else Ybw L c k
def Ya3 (L : List Int) (c : Int) (k : Nat) : DR Ins :=
 if c = 104 then (Yak L k).bind fun o k => .ok ⟨28, 0, o, Opd.none, false, 0⟩ k
 else if c = 106 then (Yb5 L k).bind fun o k => .ok ⟨28, 0, o, Opd.none, false, 0⟩ k
 else if c = 129 then (Yab L k).bind fun m k => (Ybb L m k).bind fun o k => (Yak L k).bind fun i k => .ok ⟨Yap m.reg, 0, o, i, false, 0⟩ k
 else if c = 131 then (Yab L k).bind fun m k => (Ybb L m k).bind fun o k => (Yb5 L k).bind fun i k => .ok ⟨Yap m.reg, 0, o, i, false, 0⟩ k
 else if c = 133 then Yat L 11 false k
 else if c = 135 then Yat L 27 false k
 else if c = 136 then Yat L 2 false k
 else if c = 138 then Yat L 2 true k
 else if c = 137 then Yat L 1 false k
 else if c = 139 then Yat L 1 true k
 else if c = 141 then Ygp L k
 else if c = 169 then (Yak L k).bind fun o k => .ok ⟨11, 0, Yam 0, o, false, 0⟩ k
 else if c = 198 ∨ c = 199 then Ydu L c k
 else Yb4 L c k
def Yew (L : List Int) (k : Nat) : DR Ins :=
 (Yw L k).bind fun c k =>
  if c = 11 then .err 90
  else if 64 ≤ c ∧ c < 80 then (Yat L 35 true k).bind fun i k => .ok { i with cond := c % 16 } k
  else if 128 ≤ c ∧ c < 144 then (Yak L k).bind fun o k => .ok ⟨33, c % 16, o, Opd.none, false, 0⟩ k
  else if 144 ≤ c ∧ c < 160 then (Yab L k).bind fun m k => if m.reg ≠ 0 then .err 12 else (Ybb L m k).bind fun o k => .ok ⟨34, c % 16, o, Opd.none, false, 0⟩ k
  else if c = 175 then Yat L 18 true k
  else if c = 182 then Yat L 36 true k
  else if c = 190 then Yat L 37 true k
  else .err 12
def dcRest (L : List Int) (c : Int) (k : Nat) : DR Ins :=
 if c = 15 then Yew L k
 else if c < 64 then Yhp L c k
 else if c < 72 then .ok ⟨12, 0, Yam (c % 8), Opd.none, false, 0⟩ k
 else if c < 80 then .ok ⟨13, 0, Yam (c % 8), Opd.none, false, 0⟩ k
 else if c < 88 then .ok ⟨28, 0, Yam (c % 8), Opd.none, false, 0⟩ k
 else if c < 96 then .ok ⟨29, 0, Yam (c % 8), Opd.none, false, 0⟩ k
 else if 112 ≤ c ∧ c < 128 then (Yb5 L k).bind fun o k => .ok ⟨33, c % 16, o, Opd.none, false, 0⟩ k
 else if 176 ≤ c ∧ c < 184 then (Ybz L k).bind fun o k => .ok ⟨2, 0, Yam (c % 8), o, false, 0⟩ k
 else if 184 ≤ c ∧ c < 192 then (Yak L k).bind fun o k => .ok ⟨1, 0, Yam (c % 8), o, false, 0⟩ k
 else Ya3 L c k
def Ye4 (L : List Int) (k : Nat) : DR Ins := (Yw L k).bind fun c k => dcRest L c k
def decI (L : List Int) : Ins := match Ye4 L 0 with | .ok i k => { i with len := k } | .err _ => Ins.zero
def decN (L : List Int) : Int := match Ye4 L 0 with | .ok _ k => k | .err _ => 0
def Yet (L : List Int) : Int := match Ye4 L 0 with | .ok _ _ => 0 | .err c => c
def BOk (L : List Int) : Prop := ∀ i, 0 ≤ L.getD i 0 ∧ L.getD i 0 ≤ 255
structure Yc (w : World) (d : Nat) (v : Value) (L : List Int) (g k : Nat) : Prop where
 h : w.heap[d]? = some (.cells #[v, .int .i64 k] 116 (0, 0))
 b : Yes w v L g
 k : k ≤ L.length
 n : L.length ≤ maxLen
 gd : g ≠ d
 r : BOk L
 c : ∀ b n c, v = .slice b n c → n ≤ c
theorem Yc.step {w w' : World} {d : Nat} {v : Value} {L : List Int} {g k : Nat} (h : Yc w d v L g k) (u : Upd [] w w') : Yc w' d v L g k :=
 ⟨u.get h.h (by simp), h.b.keep u (by simp), h.k, h.n, h.gd, h.r, h.c⟩
def Yl {α : Type} (d : Nat) (v : Value) (L : List Int) (g : Nat) (w : World) (r : DR α) (val : α → Value) (e : Ending) (w' : World) : Prop :=
 match r with
 |.ok x k => e = .returned (val x) ∧ Yc w' d v L g k ∧ Upd [d] w w'
 |.err c => e = .panicked [{ v := .iface 32 (.int .i64 c), recovered := false }] ∧ Upd [d] w w'
structure DecB (w : World) (d : Nat) (v : Value) (L : List Int) (g k : Nat) (w1 : World) : Prop where
 d : Yc w1 d v L g k
 u : Upd [] w w1
theorem DecB.cells {w w1 : World} {d : Nat} {v : Value} {L : List Int} {g k : Nat} (h : DecB w d v L g k w1) : w1.cell? ⟨d, 0, none⟩ = some v ∧ w1.cell? ⟨d, 1, none⟩ = some (.int .i64 k) := by
 rw [Ya h.d.h, Ya h.d.h]; exact ⟨rfl, rfl⟩
theorem Yea (d g k n : Nat) (v : Value) (L : List Int) (w : World) (hD : Yc w d v L g k) (hn : n ≤ 4) (h : L.length < k + n) :
  Calls Tryz.prog 119 #[.pointer (some ⟨d, 0, none⟩), .int .i64 n] w fun e w' => e = .panicked [{ v := .iface 32 (.int .i64 10), recovered := false }] ∧ Upd [d] w w' := by
 have hmo : Tryz.prog.follows .mixedOrders = true := by kernel_rfl
 obtain ⟨sb, sc, rfl⟩ := hD.b.form
 have hk := hD.k
 have hl := hD.n
 unfold maxLen at hl
 have e1 : wrap64 ((L.length : Int) - k) = L.length - k := by unfold wrap64; omega
 have e2 : decide ((L.length : Int) - k < n) = true := by simp; omega
 have HD := Yh_ hD
 clear hD hk hl h
 go_enter Tryz.func119, Tryz.ntmps119
 go_wp2_with fail
 refine Yan 12 (DecB w d (.slice sb L.length sc) L g k) (fun _ _ => False) (by kernel_rfl) (by kernel_rfl) ⟨HD.out.step (Upd.refl [] w).drew, (Upd.refl [] w).drew⟩ (fun _ _ _ h => h.elim) ?_
 simp only [List.take_succ_cons, List.take_zero, List.drop_succ_cons, List.drop_zero]
 repeat
  apply Yu rfl rfl
  ·intro K hK w1 hB1
   obtain ⟨c0, c1⟩ := hB1.cells
   have HB := Yh_ hB1
   clear hB1
   go_wp2_with fail
   first
   |exact hK _ HB.out
   |exact HB.out
  ·exact ⟨_, rfl⟩
 refine Yaf (fun _ w1 hB1 => ?_)
 have HB := Yh_ hB1
 clear hB1
 go_wp2_with fail
 exact ⟨rfl, rfl, HB.out.u.mono (by simp)⟩
def Cut (w : World) (u : Value) (L : List Int) (g k n : Nat) : Prop :=
 ∃ o c, u = .slice (some ⟨g, o, none⟩) n c ∧ n ≤ c ∧ (∀ i, i < n → w.cell? ⟨g, o + i, none⟩ = some (.int .u8 (L.getD (k + i) 0)))
theorem Yc.set {w : World} {d : Nat} {v : Value} {L : List Int} {g k : Nat} (h : Yc w d v L g k) (j : Nat) (hj : j ≤ L.length) : Yc (w.setCell ⟨d, 1, none⟩ (.int .i64 j)) d v L g j := by
 have h1 := Yh h.h 1 (.int .i64 j)
 exact ⟨h1, h.b.keep ((Upd.refl [d] w).setCell (by simp) _) (by simpa using h.gd), hj, h.n, h.gd, h.r, h.c⟩
theorem Yj6 (d g k n : Nat) (v : Value) (L : List Int) (w : World) (hD : Yc w d v L g k) (hn : 1 ≤ n ∧ n ≤ 4) (h : k + n ≤ L.length) :
  Calls Tryz.prog 119 #[.pointer (some ⟨d, 0, none⟩), .int .i64 n] w fun e w' => ∃ u, e = .returned u ∧ Cut w' u L g k n ∧ Yc w' d v L g (k + n) ∧ Upd [d] w w' := by
 have hmo : Tryz.prog.follows .mixedOrders = true := by kernel_rfl
 obtain ⟨o, sc, rfl, hsc⟩ : ∃ o c, v = .slice (some ⟨g, o, none⟩) L.length c ∧ L.length ≤ c := by
  rcases hD.b with ⟨_, h1⟩ | ⟨o, c, _, _, _, h1, _⟩
  ·rw [h1] at h; simp at h; omega
  ·exact ⟨o, c, h1, hD.c _ _ _ h1⟩
 have hk := hD.k
 have hl := hD.n
 unfold maxLen at hl
 have e1 : wrap64 ((L.length : Int) - k) = L.length - k := by unfold wrap64; omega
 have e2 : decide ((L.length : Int) - k < n) = false := by simp; omega
 obtain ⟨z, hz⟩ : ∃ z : Int, ((k + n : Nat) : Int) = z := ⟨_, rfl⟩
 have e3 : wrap64 ((k : Int) + n) = z := by unfold wrap64; omega
 have e6 : wrap64 (z - n) = k := by unfold wrap64; omega
 have e7 : z.toNat = k + n := by omega
 have q1 : 0 ≤ z := by omega
 have q2 : z ≤ (sc : Int) := by omega
 have q3 : ¬ sc = k := by omega
 have q4 : k ≤ k + n := by omega
 have q5 : k + n - k = n := by omega
 have HZ := Yh_ hz
 clear hz
 have HD := Yh_ hD
 have HN := Yh_ (And.intro hn (And.intro h hsc))
 clear hD hk hl h hn hsc
 go_enter Tryz.func119, Tryz.ntmps119
 go_wp2_with fail
 refine Yan 12 (DecB w d (.slice (some ⟨g, o, none⟩) L.length sc) L g k) (fun _ _ => False) (by kernel_rfl) (by kernel_rfl) ⟨HD.out.step (Upd.refl [] w).drew, (Upd.refl [] w).drew⟩ (fun _ _ _ h => h.elim) ?_
 simp only [List.take_succ_cons, List.take_zero, List.drop_succ_cons, List.drop_zero]
 repeat
  apply Yu rfl rfl
  ·intro K hK w1 hB1
   obtain ⟨c0, c1⟩ := hB1.cells
   have HB := Yh_ hB1
   clear hB1
   go_wp2_with fail
   first
   |exact hK _ HB.out
   |exact HB.out
  ·exact ⟨_, rfl⟩
 refine Yaf (fun _ w1 hB1 => ?_)
 obtain ⟨c0, c1⟩ := hB1.cells
 have f1 := Yn hB1.d.h
 have HB := Yh_ hB1
 clear hB1
 go_wp2_with fail
 have hS := HB.out.d.set (k + n) HN.out.2.1
 rw [HZ.out] at hS
 have hU : Upd [d] w (w1.setCell ⟨d, 1, none⟩ (.int .i64 z)) := (HB.out.u.mono (by simp)).setCell (by simp) _
 generalize w1.setCell ⟨d, 1, none⟩ (.int .i64 z) = w2 at hS hU
 have HU := Yh_ hU
 have HS := Yh_ hS
 clear hU hS c0 c1 f1
 refine Yan 15 (DecB w2 d (.slice (some ⟨g, o, none⟩) L.length sc) L g (k + n)) (fun _ _ => False) (by kernel_rfl) (by kernel_rfl) ⟨HS.out.step (Upd.refl [] w2).drew, (Upd.refl [] w2).drew⟩ (fun _ _ _ h => h.elim) ?_
 simp only [List.take_succ_cons, List.take_zero, List.drop_succ_cons, List.drop_zero]
 iterate 14
  apply Yu rfl rfl
  ·intro K hK w3 hB1
   obtain ⟨c0, c1⟩ := hB1.cells
   rw [HZ.out] at c1
   have HB := Yh_ hB1
   clear hB1
   go_wp2_with fail
   first
   |exact hK _ HB.out
   |exact HB.out
  ·exact ⟨_, rfl⟩
 apply Yu rfl rfl
 ·intro K hK w3 hB1
  have HB := Yh_ hB1
  clear hB1
  go_wp2_with fail
  first
  |exact hK _ HB.out
  |exact HB.out
 ·exact ⟨_, rfl⟩
 refine Yaf (fun _ w3 hB1 => ?_)
 have HB := Yh_ hB1
 clear hB1
 go_wp2_with fail
 go_ret
 have hb := HB.out.d.b
 refine ⟨_, rfl, ⟨o + k, sc - k, rfl, by have := HN.out; omega, fun i hi => ?_⟩, HB.out.d, HU.out.also (HB.out.u) (by simp)⟩
 rcases hb with ⟨h1, _⟩ | ⟨o', c', C, T, f, h1, h2, h3⟩
 ·cases h1
 ·injection h1 with h1 h4 h5
  injection h1 with h1
  injection h1 with h1 h6
  subst h6
  rw [Ya h2, Nat.add_assoc]
  exact h3 (k + i) (by have := HN.out; omega)
theorem Yc.frame {w w' : World} {d : Nat} {v : Value} {L : List Int} {g k : Nat} (h : Yc w d v L g k) (hd : w'.heap[d]? = w.heap[d]?) (u : Upd [d] w w') : Yc w' d v L g k :=
 ⟨by rw [hd]; exact h.h, h.b.keep u (by simpa using h.gd), h.k, h.n, h.gd, h.r, h.c⟩
theorem Yx (d g k : Nat) (v : Value) (L : List Int) (w : World) (hD : Yc w d v L g k) :
  Calls Tryz.prog 86 #[.pointer (some ⟨d, 0, none⟩)] w (Yl d v L g w (Yw L k) (.int .u8 ·)) := by
 unfold Yw
 have HD := Yh_ hD
 by_cases h : k < L.length
 ·rw [if_pos h]
  clear hD
  have HL := Yh_ h
  clear h
  go_enter Tryz.func86, Tryz.ntmps86
  go_wp2_with (go_at_call 119; refine (Yj6 d g k 1 v L _ HD.out (by decide) HL.out).mono ?_; rintro e w2 ⟨u, rfl, ⟨o, c, rfl, hc, hcell⟩, hD2, hu⟩; have h0 := hcell 0 (by decide); simp only [Nat.add_zero] at h0; have H2 := Yh_ (And.intro hD2 hu); clear hcell hD2 hu)
  go_ret
  exact ⟨rfl, H2.out.1, H2.out.2⟩
 ·rw [if_neg h]
  clear hD
  have HL := Yh_ (show L.length < k + 1 by omega)
  clear h
  go_enter Tryz.func86, Tryz.ntmps86
  go_wp2_with (go_at_call 119; refine (Yea d g k 1 v L _ HD.out (by decide) HL.out).mono ?_; rintro e w2 ⟨rfl, hu⟩)
  exact ⟨rfl, rfl, hu⟩
def Opd.cells (o : Opd) : Array Value := #[.int .i64 o.k, .int .i64 o.r, .int .u32 o.imm, .int .i64 o.b, .int .i64 o.x, .int .u32 o.sc]
theorem Opd.size (o : Opd) : o.cells.size = 6 := rfl
theorem Opd.one (o : Opd) : o.cells.all (·.oneCell') = true := by simp [Opd.cells, Value.oneCell']
def Ins.val (i : Ins) : Value := .agg i.cells
theorem Yls : (Tryz.prog.info? 39).map (·.size) = some 6 := by kernel_rfl
theorem Ya1 : (Tryz.prog.info? 41).map (·.size) = some 16 := by kernel_rfl
theorem Yb8 {tmps : Array Value} {w : World} (a : Tmp) (b : Nat) (o : Opd) (ha : tmps.getD a undef = .pointer (some ⟨b, 0, none⟩)) (hb : w.heap[b]? = some (.cells o.cells 39 (0, 0))) :
  (Ybt tmps (.cell a 39)).run Tryz.prog w = .ok o.val w :=
 Ybe a 39 b _ _ ha hb Tryz.underlying39 rfl Yls
theorem Ys {tmps : Array Value} {w : World} (a : Tmp) (b : Nat) (i : Ins) (ha : tmps.getD a undef = .pointer (some ⟨b, 0, none⟩)) (hb : w.heap[b]? = some (.cells i.cells 41 (0, 0))) :
  (Ybt tmps (.cell a 41)).run Tryz.prog w = .ok i.val w :=
 Ybe a 41 b _ _ ha hb Tryz.underlying41 rfl Ya1
theorem Yd {ops : Array Oper} {rest : List Oper} {op : Oper} {a : Act} {w : World} {Q : Exit → Act → World → Prop} (i : Ins) (b : Nat) (hgd : op.guard = none) (x y : Operand) (ho : op.op = .store 41 x y) (hx : a.eval x = .pointer (some ⟨b, 0, none⟩)) (hy : a.eval y = .agg i.cells)
  {c : Array Value} (hb : w.heap[b]? = some (.cells c 41 (0, 0))) (hc : c.size = 16) (h : ∀ w', w.setCells b 0 i.cells.toList = w' → wpList Tryz.prog ops Q rest (a.put op.dst undef) w') : wpList Tryz.prog ops Q (op :: rest) a w :=
 Ycq hgd 41 x y ho b 0 i.cells hx hy hb (by rw [hc, Ins.size]; exact Nat.le_refl _) (by rw [Ins.size]; exact Ya1) i.one (h _ rfl)
theorem Yc8 (c : Array Value) (s : Ins) (hc : c.size = 16) : wr c 0 s.cells.toList = s.cells := by
 apply Array.ext_getElem?
 intro k
 have hl : s.cells.toList.length = 16 := rfl
 rw [Yfv _ _ _ _ (by rw [hl, hc]; exact Nat.le_refl _), hl]
 by_cases h : k < 16
 ·rw [if_pos (by omega), Nat.sub_zero, Array.getElem?_toList]
 ·rw [if_neg (by omega), Array.getElem?_eq_none (by omega), Array.getElem?_eq_none (by rw [Ins.size]; omega)]
theorem Ya7 {S : List Nat} {w0 w w' : World} {b : Nat} {i : Ins} {c : Array Value} (hw : w.setCells b 0 i.cells.toList = w') (hb : w.heap[b]? = some (.cells c 41 (0, 0))) (hc : c.size = 16) (hu : Upd S w0 w) (hs : b ∈ S ∨ w0.heap.size ≤ b) :
  w'.heap[b]? = some (.cells i.cells 41 (0, 0)) ∧ Upd S w0 w' := by
 subst hw
 exact ⟨by rw [Yag _ _ _ _ hb, Yc8 c i hc], hu.setCells hs _ _⟩
theorem Ybv (r : Int) (w : World) : Calls Tryz.prog 89 #[.int .i64 r] w fun e w' => e = .returned (Yam r).val ∧ Upd [] w w' := by
 go_enter Tryz.func89, Tryz.ntmps89
 go_wp2
 exact bodyPost_ret (Yf rfl (Yb8 2 w.heap.size (Yam r) rfl (heap_alloc_new _ _))) rfl ⟨rfl, (Upd.refl _ _).alloc _⟩
theorem Yix {b : Int} (h0 : 0 ≤ b) (h1 : b ≤ 255) : Ydr b = sx8 b := by
 unfold Ydr sx8
 rw [show b % 256 = b by omega]
theorem Yz {L : List Int} {k k1 : Nat} {c : Int} (hL : BOk L) (h : Yw L k = .ok c k1) : 0 ≤ c ∧ c ≤ 255 ∧ k1 = k + 1 := by
 unfold Yw at h
 by_cases hk : k < L.length
 ·rw [if_pos hk] at h
  injection h with h1 h2
  subst h1
  exact ⟨(hL k).1, (hL k).2, h2.symm⟩
 ·rw [if_neg hk] at h
  cases h
theorem Yy {ops : Array Oper} {rest : List Oper} {op : Oper} {a : Act} {w : World} {Q : Exit → Act → World → Prop} (o : Opd) (b off : Nat) (hgd : op.guard = none) (x y : Operand) (ho : op.op = .store 39 x y) (hx : a.eval x = .pointer (some ⟨b, off, none⟩)) (hy : a.eval y = .agg o.cells)
  {c : Array Value} {t : TypeId} (hb : w.heap[b]? = some (.cells c t (0, 0))) (hc : off + 6 ≤ c.size) (h : ∀ w', w.setCells b off o.cells.toList = w' → wpList Tryz.prog ops Q rest (a.put op.dst undef) w') : wpList Tryz.prog ops Q (op :: rest) a w :=
 Ycq hgd 39 x y ho b off o.cells hx hy hb (by rw [Opd.size]; exact hc) (by rw [Opd.size]; exact Yls) o.one (h _ rfl)
theorem wr_opd (c : Array Value) (o : Opd) (hc : c.size = 6) : wr c 0 o.cells.toList = o.cells := by
 apply Array.ext_getElem?
 intro k
 have hl : o.cells.toList.length = 6 := rfl
 rw [Yfv _ _ _ _ (by rw [hl, hc]; exact Nat.le_refl _), hl]
 by_cases h : k < 6
 ·rw [if_pos (by omega), Nat.sub_zero, Array.getElem?_toList]
 ·rw [if_neg (by omega), Array.getElem?_eq_none (by omega), Array.getElem?_eq_none (by rw [Opd.size]; omega)]
theorem Yca {w w' : World} {b : Nat} {o : Opd} {c : Array Value} (hw : w.setCells b 0 o.cells.toList = w') (hb : w.heap[b]? = some (.cells c 39 (0, 0))) (hc : c.size = 6) :
  w'.heap[b]? = some (.cells o.cells 39 (0, 0)) ∧ Upd [b] w w' := by
 subst hw
 exact ⟨by rw [Yag _ _ _ _ hb, wr_opd c o hc], (Upd.refl [b] w).setCells (.inl (by simp)) _ _⟩
theorem Yd0 {d g k k1 : Nat} {v : Value} {L : List Int} {w w2 w3 : World} {S : List Nat} (hD0 : Yc w d v L g k) (hD : Yc w2 d v L g k1) (hu : Upd [d] w w2) (u : Upd S w2 w3) (hS : ∀ x, x ∈ S → w.heap.size ≤ x) :
  Yc w3 d v L g k1 ∧ Upd [d] w w3 := by
 have hd := Yj hD0.h
 have h2 : Upd [d] w w3 := hu.also u (fun x hx => .inr (hS x hx))
 exact ⟨⟨u.get hD.h (fun hh => by have := hS _ hh; omega), hD0.b.keep h2 (by simpa using hD0.gd), hD.k, hD.n, hD.gd, hD.r, hD.c⟩, h2⟩
theorem Ygt {w w2 : World} {d : Nat} {o : Obj} (hd : d < w.heap.size) (hu : Upd [d] (w.alloc o) w2) : w2.heap[w.heap.size]? = some o := hu.get (heap_alloc_new w o) (by simp; omega)
theorem Ydw {w w2 : World} {d : Nat} {o : Obj} (hu : Upd [d] (w.alloc o) w2) : Upd [d] w w2 := ((Upd.refl [d] w).alloc o).also hu (by simp)
theorem Ydx (d g k : Nat) (v : Value) (L : List Int) (w : World) (hD : Yc w d v L g k) :
  Calls Tryz.prog 90 #[.pointer (some ⟨d, 0, none⟩)] w (Yl d v L g w (Yb5 L k) Opd.val) := by
 have hb := Yx d g k v L (w.alloc (.cells Opd.none.cells 39)) (hD.step ((Upd.refl [] w).alloc _))
 have HD := Yh_ hD
 have HLt := Yh_ (Yj hD.h)
 unfold Yb5
 cases h : Yw L k with
 |ok c k1 =>
  obtain ⟨c0, c1, _⟩ := Yz hD.r h
  rw [h] at hb
  rw [DR.bind_ok]
  have HB := Yh_ hb
  have HR := Yh_ (And.intro c0 c1)
  have q1 : c % 4294967296 = c := by omega
  have q2 := Yix c0 c1
  clear hb hD h c0 c1
  go_enter Tryz.func90, Tryz.ntmps90
  go_wp2_with (first | (go_at_call 86; refine HB.out.mono ?_; rintro e w2 ⟨rfl, hD2, hu⟩; have H2 := Yh_ (And.intro hD2 (And.intro (Ydw hu) (Ygt HLt.out hu))); clear hD2 hu) | (go_at_call 117; refine (Ye7 c _ HR.out.1 (by have := HR.out; omega)).mono ?_; rintro e w3 ⟨rfl, rfl⟩; rw [q2]) | (refine Yy (Yfs (sx8 c)) w.heap.size 0 rfl _ _ rfl rfl rfl H2.out.2.2 (by decide) ?_; intro w3 hw3; have H3 := Yh_ (And.intro H2.out.1 (And.intro H2.out.2.1 (Yca hw3 H2.out.2.2 rfl))); clear hw3 H2))
  obtain ⟨h1, h2⟩ := Yd0 HD.out H3.out.1 H3.out.2.1 H3.out.2.2.2 (by simp)
  exact bodyPost_ret (Yf rfl (Yb8 2 w.heap.size _ rfl H3.out.2.2.1)) rfl ⟨rfl, h1, h2⟩
 |err c =>
  rw [h] at hb
  rw [DR.bind_err]
  have HB := Yh_ hb
  clear hb hD h
  go_enter Tryz.func90, Tryz.ntmps90
  go_wp2_with (go_at_call 86; refine HB.out.mono ?_; rintro e w2 ⟨rfl, hu⟩)
  exact ⟨rfl, rfl, Ydw hu⟩
theorem Yc2 (d g k : Nat) (v : Value) (L : List Int) (w : World) (hD : Yc w d v L g k) :
  Calls Tryz.prog 91 #[.pointer (some ⟨d, 0, none⟩)] w (Yl d v L g w (Ybz L k) Opd.val) := by
 have hb := Yx d g k v L (w.alloc (.cells Opd.none.cells 39)) (hD.step ((Upd.refl [] w).alloc _))
 have HD := Yh_ hD
 have HLt := Yh_ (Yj hD.h)
 unfold Ybz
 cases h : Yw L k with
 |ok c k1 =>
  obtain ⟨c0, c1, _⟩ := Yz hD.r h
  rw [h] at hb
  rw [DR.bind_ok]
  have HB := Yh_ hb
  have q1 : c % 4294967296 = c := by omega
  clear hb hD h c0 c1
  go_enter Tryz.func91, Tryz.ntmps91
  go_wp2_with (first | (go_at_call 86; refine HB.out.mono ?_; rintro e w2 ⟨rfl, hD2, hu⟩; have H2 := Yh_ (And.intro hD2 (And.intro (Ydw hu) (Ygt HLt.out hu))); clear hD2 hu) | (refine Yy (Yfs c) w.heap.size 0 rfl _ _ rfl rfl rfl H2.out.2.2 (by decide) ?_; intro w3 hw3; have H3 := Yh_ (And.intro H2.out.1 (And.intro H2.out.2.1 (Yca hw3 H2.out.2.2 rfl))); clear hw3 H2))
  obtain ⟨h1, h2⟩ := Yd0 HD.out H3.out.1 H3.out.2.1 H3.out.2.2.2 (by simp)
  exact bodyPost_ret (Yf rfl (Yb8 2 w.heap.size _ rfl H3.out.2.2.1)) rfl ⟨rfl, h1, h2⟩
 |err c =>
  rw [h] at hb
  rw [DR.bind_err]
  have HB := Yh_ hb
  clear hb hD h
  go_enter Tryz.func91, Tryz.ntmps91
  go_wp2_with (go_at_call 86; refine HB.out.mono ?_; rintro e w2 ⟨rfl, hu⟩)
  exact ⟨rfl, rfl, Ydw hu⟩
theorem Ydt (d g k : Nat) (v : Value) (L : List Int) (w : World) (hD : Yc w d v L g k) (h : k + 4 ≤ L.length) :
  Calls Tryz.prog 119 #[.pointer (some ⟨d, 0, none⟩), .int .i64 4] w fun e w' => ∃ o c, e = .returned (.slice (some ⟨g, o, none⟩) 4 c) ∧ (∀ w3, w3 = w' → Calls Tryz.prog 124 #[.slice (some ⟨g, o, none⟩) 4 c] w3 fun e w4 => e = .returned (.int .u32 (Ybr L k)) ∧ Yc w4 d v L g (k + 4) ∧ Upd [d] w w4) := by
 refine (Yj6 d g k 4 v L w hD (by decide) h).mono ?_
 rintro e w' ⟨u, rfl, ⟨o, c, rfl, hc, hcell⟩, hD2, hu⟩
 refine ⟨o, c, rfl, ?_⟩
 rintro w3 rfl
 have hg : g < w3.heap.size := by
  have h0 := hcell 0 (by decide)
  unfold World.cell? at h0
  simp only at h0
  cases hh : w3.heap[g]? with
  |none => rw [hh] at h0; cases h0
  |some o => exact Yj hh
 refine (Word_any g o c (fun i => L.getD (k + i) 0) w3 hcell (fun i => hD.r (k + i)) hg).mono ?_
 rintro e w4 ⟨rfl, hu4⟩
 exact ⟨rfl, hD2.step hu4, hu.also hu4 (by simp)⟩
theorem Ybo (d g k : Nat) (v : Value) (L : List Int) (w : World) (hD : Yc w d v L g k) :
  Calls Tryz.prog 92 #[.pointer (some ⟨d, 0, none⟩)] w (Yl d v L g w (Yak L k) Opd.val) := by
 have HD := Yh_ hD
 have HLt := Yh_ (Yj hD.h)
 unfold Yak Ycn
 by_cases h : k + 4 ≤ L.length
 ·have HB := Yh_ (Ydt d g k v L (w.alloc (.cells Opd.none.cells 39)) (hD.step ((Upd.refl [] w).alloc _)) h)
  rw [if_pos h, DR.bind_ok]
  clear hD h
  go_enter Tryz.func92, Tryz.ntmps92
  go_wp2_with (first | (go_at_call 119; refine HB.out.mono ?_; rintro e w2 ⟨o, c, rfl, hw⟩; have HW := Yh_ (hw _ rfl); clear hw) | (go_at_call 124; refine HW.out.mono ?_; rintro e w2 ⟨rfl, hD2, hu⟩; have H2 := Yh_ (And.intro hD2 (And.intro (Ydw hu) (Ygt HLt.out hu))); clear hD2 hu) | (refine Yy (Yfs (Ybr L k)) w.heap.size 0 rfl _ _ rfl rfl rfl H2.out.2.2 (by decide) ?_; intro w3 hw3; have H3 := Yh_ (And.intro H2.out.1 (And.intro H2.out.2.1 (Yca hw3 H2.out.2.2 rfl))); clear hw3 H2))
  obtain ⟨h1, h2⟩ := Yd0 HD.out H3.out.1 H3.out.2.1 H3.out.2.2.2 (by simp)
  exact bodyPost_ret (Yf rfl (Yb8 2 w.heap.size _ rfl H3.out.2.2.1)) rfl ⟨rfl, h1, h2⟩
 ·have HB := Yh_ (Yea d g k 4 v L (w.alloc (.cells Opd.none.cells 39)) (hD.step ((Upd.refl [] w).alloc _)) (by decide) (by omega))
  rw [if_neg h, DR.bind_err]
  clear hD h
  go_enter Tryz.func92, Tryz.ntmps92
  go_wp2_with (go_at_call 119; refine HB.out.mono ?_; rintro e w2 ⟨rfl, hu⟩)
  exact ⟨rfl, rfl, Ydw hu⟩
theorem wr_all (c cs : Array Value) (h : c.size = cs.size) : wr c 0 cs.toList = cs := by
 apply Array.ext_getElem?
 intro k
 have hl : cs.toList.length = cs.size := Array.length_toList
 rw [Yfv _ _ _ _ (by rw [hl, h]; omega), hl]
 by_cases hk : k < cs.size
 ·rw [if_pos (by omega), Nat.sub_zero, Array.getElem?_toList]
 ·rw [if_neg (by omega), Array.getElem?_eq_none (by omega), Array.getElem?_eq_none (by omega)]
theorem Yff {P : Program} {ops : Array Oper} {rest : List Oper} {op : Oper} {a : Act} {w : World} {Q : Exit → Act → World → Prop} (hgd : op.guard = none) (ty : TypeId) (x y : Operand) (ho : op.op = .store ty x y)
  (b o : Nat) (cs : Array Value) (hx : a.eval x = .pointer (some ⟨b, o, none⟩)) (hy : a.eval y = .agg cs)
  {c : Array Value} {t : TypeId} (hb : w.heap[b]? = some (.cells c t (0, 0))) (hn : o + cs.size ≤ c.size) (hi : (P.info? ty).map (·.size) = some cs.size) (h1 : cs.all (·.oneCell') = true)
  (h : ∀ w', w.setCells b o cs.toList = w' → wpList P ops Q rest (a.put op.dst undef) w') : wpList P ops Q (op :: rest) a w :=
 Ycq hgd ty x y ho b o cs hx hy hb hn hi h1 (h _ rfl)
theorem arr_new {w w' : World} {b : Nat} {cs c : Array Value} {t : TypeId} (hw : w.setCells b 0 cs.toList = w') (hb : w.heap[b]? = some (.cells c t (0, 0))) (hc : c.size = cs.size) :
  w'.heap[b]? = some (.cells cs t (0, 0)) ∧ Upd [b] w w' := by
 subst hw
 exact ⟨by rw [Yag _ _ _ _ hb, wr_all c cs hc], (Upd.refl [b] w).setCells (.inl (by simp)) _ _⟩
theorem Mrm.one (m : Mrm) : m.cells.all (·.oneCell') = true := by simp [Mrm.cells, Value.oneCell']
theorem Yj1 : (Tryz.prog.info? 171).map (·.size) = some 3 := by kernel_rfl
theorem res_mrm {tmps : Array Value} {w : World} (a : Tmp) (b : Nat) (m : Mrm) (ha : tmps.getD a undef = .pointer (some ⟨b, 0, none⟩)) (hb : w.heap[b]? = some (.cells m.cells 171 (0, 0))) :
  (Ybt tmps (.cell a 171)).run Tryz.prog w = .ok (.agg m.cells) w :=
 Ybe a 171 b _ _ ha hb Tryz.underlying171 rfl Yj1
theorem Yoj (c a n : Int) (b : Nat) (w : World) (h0 : 0 ≤ c) (h1 : c < 4294967296) (ha : 0 ≤ a ∧ a < 32) (hn : 0 ≤ n ∧ n ≤ 8) (hx : w.cell? ⟨b, 0, none⟩ = some (.int .u32 c)) :
  Calls Tryz.prog 135 #[.int .i64 a, .int .i64 n, .pointer (some ⟨b, 0, none⟩)] w fun e w' => e = .returned (.int .i64 (c / 2 ^ a.toNat % 2 ^ n.toNat)) ∧ w = w' := by
 obtain ⟨a, rfl⟩ := Int.eq_ofNat_of_zero_le ha.1
 obtain ⟨n, rfl⟩ := Int.eq_ofNat_of_zero_le hn.1
 rw [Int.toNat_natCast, Int.toNat_natCast]
 have ha : a < 32 := by omega
 have hn : n ≤ 8 := by omega
 have hp : (0 : Int) < 2 ^ n := Int.pow_pos (by decide)
 have hq : (2 : Int) ^ n ≤ 256 := by
  have : (2 : Nat) ^ n ≤ 2 ^ 8 := Nat.pow_le_pow_right (by decide) hn
  have h2 : ((2 : Int) ^ n) = ((2 ^ n : Nat) : Int) := by push_cast; rfl
  rw [h2]; omega
 obtain ⟨z, hz⟩ : ∃ z : Int, c / 2 ^ a % 2 ^ n = z := ⟨_, rfl⟩
 have hz0 : 0 ≤ z := by rw [← hz]; exact Int.emod_nonneg _ (by omega)
 have hz1 : z < 256 := by rw [← hz]; have := Int.emod_lt_of_pos (c / 2 ^ a) hp; omega
 have HZ := Yh_ hz
 have HC := Yh_ (And.intro h0 (And.intro h1 (And.intro ha hn)))
 have e1 : wrap64 z = z := by unfold wrap64; omega
 clear hp hq h0 h1 ha hn hz
 go_enter Tryz.func135, Tryz.ntmps135
 go_wp2_with (go_at_call 104; refine (Yef c a n _ HC.out.1 HC.out.2.1 HC.out.2.2.1 (by have := HC.out.2.2.2; omega)).mono ?_; rintro e w' ⟨rfl, rfl⟩; rw [HZ.out])
 go_ret
 exact ⟨Yem (congrArg (Value.int .i64) (by first | rfl | exact HZ.out.symm)), rfl⟩
theorem Yv (d g k : Nat) (v : Value) (L : List Int) (w : World) (hD : Yc w d v L g k) :
  Calls Tryz.prog 121 #[.pointer (some ⟨d, 0, none⟩)] w (Yl d v L g w (Yab L k) fun m => .agg m.cells) := by
 have hb := Yx d g k v L (w.alloc (.cells #[.int .i64 0, .int .i64 0, .int .i64 0] 171)) (hD.step ((Upd.refl [] w).alloc _))
 have HD := Yh_ hD
 have HLt := Yh_ (Yj hD.h)
 unfold Yab
 cases h : Yw L k with
 |ok c k1 =>
  obtain ⟨c0, c1, _⟩ := Yz hD.r h
  rw [h] at hb
  rw [DR.bind_ok]
  have HB := Yh_ hb
  have q1 : c % 4294967296 = c := by omega
  have HM := Yh_ (show c / 2 ^ (6 : Int).toNat % 2 ^ (2 : Int).toNat = (Ye1 c).mod ∧ c / 2 ^ (3 : Int).toNat % 2 ^ (3 : Int).toNat = (Ye1 c).reg ∧ c / 2 ^ (0 : Int).toNat % 2 ^ (3 : Int).toNat = (Ye1 c).rm by
   simp only [Ye1]
   refine ⟨?_, ?_, ?_⟩
   ·show c / 64 % 4 = c / 64; omega
   ·show c / 8 % 8 = c / 8 % 8; rfl
   ·show c / 1 % 8 = c % 8; omega)
  have HC := Yh_ (And.intro c0 c1)
  clear hb hD h c0 c1
  go_enter Tryz.func121, Tryz.ntmps121
  go_wp2_with (first | (go_at_call 86; refine HB.out.mono ?_; rintro e w2 ⟨rfl, hD2, hu⟩; have H2 := Yh_ (And.intro hD2 (And.intro (Ydw hu) (Ygt HLt.out hu))); clear hD2 hu; have hx := Ya (heap_alloc_new w2 (.cells #[.int .u32 c] 22)) 0) | (go_at_call 135; refine (Yoj c _ _ w2.heap.size _ HC.out.1 (by have := HC.out; omega) (by decide) (by decide) hx).mono ?_; rintro e w3 ⟨rfl, rfl⟩; first | rw [HM.out.1] | rw [HM.out.2.1] | rw [HM.out.2.2]) | (refine Ye 171 rfl ?_; refine Yff rfl 171 _ _ rfl w.heap.size 0 (Ye1 c).cells rfl rfl (Ym _ H2.out.2.2) (by simp [Mrm.cells]) Yj1 (Mrm.one _) ?_; intro w3 hw3; have H3 := Yh_ (And.intro H2.out.1 (And.intro H2.out.2.1 (arr_new hw3 (Ym _ H2.out.2.2) rfl))); clear hw3 H2))
  obtain ⟨h1, h2⟩ := Yd0 HD.out H3.out.1 H3.out.2.1 (((Upd.refl [w.heap.size] w2).alloc _).also H3.out.2.2.2 (by simp)) (by simp)
  exact bodyPost_ret (Yf rfl (res_mrm 2 w.heap.size _ rfl H3.out.2.2.1)) rfl ⟨rfl, h1, h2⟩
 |err c =>
  rw [h] at hb
  rw [DR.bind_err]
  have HB := Yh_ hb
  clear hb hD h
  go_enter Tryz.func121, Tryz.ntmps121
  go_wp2_with (go_at_call 86; refine HB.out.mono ?_; rintro e w2 ⟨rfl, hu⟩)
  exact ⟨rfl, rfl, Ydw hu⟩
theorem Ygj {n : Int} (h0 : 0 ≤ n) (h1 : n < 8) : n = 0 ∨ n = 1 ∨ n = 2 ∨ n = 3 ∨ n = 4 ∨ n = 5 ∨ n = 6 ∨ n = 7 := by omega
theorem Yl5 {n : Int} (h0 : 0 ≤ n) (h1 : n < 8) (w : World) : (Instr.index 55 (.agg #[.int .i64 3, .int .i64 4, .int .i64 5, .int .i64 6, .int .i64 7, .int .i64 8, .int .i64 9, .int .i64 10]) (.int .i64 n)).run Tryz.prog w = .ok (.int .i64 (Yap n)) w := by
 rcases Ygj h0 h1 with rfl | rfl | rfl | rfl | rfl | rfl | rfl | rfl <;> kernel_rfl
theorem Ycb (n : Int) (w : World) (h0 : 0 ≤ n) (h1 : n < 8) : Calls Tryz.prog 123 #[.int .i64 n] w fun e w' => e = .returned (.int .i64 (Yap n)) ∧ w = w' := by
 have hx := Yl5 h0 h1 w
 clear h0 h1
 go_enter Tryz.func123, Tryz.ntmps123
 go_wp2
 go_ret
 exact ⟨rfl, rfl⟩
theorem Ylv {n : Int} (h0 : 0 ≤ n) (h1 : n < 8) (w : World) : (Instr.index 55 (.agg #[.int .i64 21, .int .i64 22, .int .i64 0, .int .i64 0, .int .i64 23, .int .i64 24, .int .i64 0, .int .i64 25]) (.int .i64 n)).run Tryz.prog w = .ok (.int .i64 (Ycp n)) w := by
 rcases Ygj h0 h1 with rfl | rfl | rfl | rfl | rfl | rfl | rfl | rfl <;> kernel_rfl
theorem Yd1 (n : Int) (w : World) (h0 : 0 ≤ n) (h1 : n < 8) : Calls Tryz.prog 143 #[.int .i64 n] w fun e w' => e = .returned (.int .i64 (Ycp n)) ∧ w = w' := by
 have hx := Ylv h0 h1 w
 clear h0 h1
 go_enter Tryz.func143, Tryz.ntmps143
 go_wp2
 go_ret
 exact ⟨rfl, rfl⟩
theorem Ylo {n : Int} (h0 : 0 ≤ n) (h1 : n < 8) (w : World) : (Instr.index 55 (.agg #[.int .i64 0, .int .i64 0, .int .i64 14, .int .i64 15, .int .i64 16, .int .i64 17, .int .i64 19, .int .i64 20]) (.int .i64 n)).run Tryz.prog w = .ok (.int .i64 (Yc0 n)) w := by
 rcases Ygj h0 h1 with rfl | rfl | rfl | rfl | rfl | rfl | rfl | rfl <;> kernel_rfl
theorem Yd2 (n : Int) (w : World) (h0 : 0 ≤ n) (h1 : n < 8) : Calls Tryz.prog 145 #[.int .i64 n] w fun e w' => e = .returned (.int .i64 (Yc0 n)) ∧ w = w' := by
 have hx := Ylo h0 h1 w
 clear h0 h1
 go_enter Tryz.func145, Tryz.ntmps145
 go_wp2
 go_ret
 exact ⟨rfl, rfl⟩
theorem Yju {n : Int} (h0 : 0 ≤ n) (h1 : n < 8) (w : World) : (Instr.index 55 (.agg #[.int .i64 47, .int .i64 48, .int .i64 53, .int .i64 0, .int .i64 49, .int .i64 0, .int .i64 50, .int .i64 0]) (.int .i64 n)).run Tryz.prog w = .ok (.int .i64 (Ydz n)) w := by
 rcases Ygj h0 h1 with rfl | rfl | rfl | rfl | rfl | rfl | rfl | rfl <;> kernel_rfl
theorem Yco (n : Int) (w : World) (h0 : 0 ≤ n) (h1 : n < 8) : Calls Tryz.prog 144 #[.int .i64 n] w fun e w' => e = .returned (.int .i64 (Ydz n)) ∧ w = w' := by
 have hx := Yju h0 h1 w
 clear h0 h1
 go_enter Tryz.func144, Tryz.ntmps144
 go_wp2
 go_ret
 exact ⟨rfl, rfl⟩
theorem Yga {n : Int} (h0 : 0 ≤ n) (h1 : n < 8) (w : World) : (Instr.index 55 (.agg #[.int .i64 45, .int .i64 0, .int .i64 0, .int .i64 46, .int .i64 0, .int .i64 0, .int .i64 0, .int .i64 0]) (.int .i64 n)).run Tryz.prog w = .ok (.int .i64 (fldI n)) w := by
 rcases Ygj h0 h1 with rfl | rfl | rfl | rfl | rfl | rfl | rfl | rfl <;> kernel_rfl
theorem Yfj {n : Int} (h0 : 0 ≤ n) (h1 : n < 8) (w : World) : (Instr.index 55 (.agg #[.int .i64 12, .int .i64 13, .int .i64 30, .int .i64 0, .int .i64 32, .int .i64 0, .int .i64 28, .int .i64 0]) (.int .i64 n)).run Tryz.prog w = .ok (.int .i64 (Yfk n)) w := by
 rcases Ygj h0 h1 with rfl | rfl | rfl | rfl | rfl | rfl | rfl | rfl <;> kernel_rfl
theorem Ydn (n : Int) (w : World) : Calls Tryz.prog 136 #[.int .i64 n] w fun e w' => e = .returned (Ybj n).val ∧ Upd [] w w' := by
 have hz := heap_alloc_new w (.cells Ins.zero.cells 41)
 have HZ := Yh_ hz
 clear hz
 go_enter Tryz.func136, Tryz.ntmps136
 go_wp2_with (refine Ye 41 rfl ?_; refine Yd (Ybj n) w.heap.size rfl _ _ rfl rfl rfl HZ.out rfl ?_; intro w2 hw; obtain ⟨h1, h2⟩ := Ya7 (w0 := w) (S := []) hw HZ.out rfl ((Upd.refl [] w).alloc _) (.inr (Nat.le_refl _)))
 exact bodyPost_ret (Yf rfl (Ys 2 w.heap.size _ rfl h1)) rfl ⟨rfl, h2⟩
end Go.Proofs.YthakgjpejhjaoaaGreat
