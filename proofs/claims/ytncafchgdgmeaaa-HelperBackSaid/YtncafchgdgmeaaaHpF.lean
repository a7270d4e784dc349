/-
  Package helper: the deferred recovery of Do; Do, by the contract of what it calls. No condition.
-/
import Derived.Test.YtncafchgdgmeaaaHpE
import Derived.Recover
namespace Go.Proofs.Ytncafchgdgmeaaa
open Go Go.RowKit
set_option linter.unusedVariables false
set_option linter.unusedSimpArgs false

set_option maxRecDepth 100000 in
set_option maxHeartbeats 1000000 in
theorem hcaught_panicking (fb kb : Nat) (y0 y1 y2 y3 k0 : Value) (x0 x1 x2 x3 : Int) (older : List PanicEntry) (w : World)
    (hf : w.heap[fb]? = some (.cells #[y0, y1, y2, y3] 32 (0, 0))) (hk : w.heap[kb]? = some (.cells #[k0] 4 (0, 0))) (hne : fb ≠ kb) :
    CallsD Try.prog 82 #[.pointer (some ⟨fb, 0, none⟩), .pointer (some ⟨kb, 0, none⟩)] (.panicking ({ v := .iface 32 (.agg #[.int .i64 x0, .int .u32 x1, .int .u32 x2, .int .i64 x3]), recovered := false } :: older)) w fun e u' w' =>
      e = .returned (.tuple #[]) ∧ u' = .panicking ({ v := .iface 32 (.agg #[.int .i64 x0, .int .u32 x1, .int .u32 x2, .int .i64 x3]), recovered := true } :: older) ∧
        w'.heap[fb]? = some (.cells #[.int .i64 x0, .int .u32 x1, .int .u32 x2, .int .i64 x3] 32 (0, 0)) ∧ w'.heap[kb]? = some (.cells #[.bool false] 4 (0, 0)) ∧ Upd [fb, kb] w w' := by
  refine callsD_of_wpS Try.func82 rfl fun c₀ cs hu => ?_
  simp only [Try.ntmps82, List.size_toArray, List.length_cons, List.length_nil, Nat.reduceAdd, Nat.reduceSub, Array.replicate_succ, Array.replicate_zero, List.push_toArray, List.append_toArray, List.nil_append, List.cons_append]
  apply wpS_seq
  apply wpS_region
  simp [wpOpsS, go_sem, recoverD, hu, Try.ntmps82, Exit.thenS]
  refine wpS_of_wp ?_
  clear hu
  have hfl := lt_of_heap hf
  have hkl := lt_of_heap hk
  have hcf : ∀ o, w.cell? ⟨fb, o, none⟩ = #[y0, y1, y2, y3][o]? := cells_of hf
  have hck : ∀ o, w.cell? ⟨kb, o, none⟩ = #[k0][o]? := cells_of hk
  have hff : ∀ o, w.frozen? ⟨fb, o, none⟩ = false := free_of hf
  have hfk : ∀ o, w.frozen? ⟨kb, o, none⟩ = false := free_of hk
  have HF := Lib.hid hf
  have HK := Lib.hid hk
  clear hf hk
  have hta := assert_fault
  go_wp2_with fail
  refine ⟨rfl, _, rfl, _, results_none rfl _ _ _, rfl, rfl, ?_, ?_, ?_⟩
  · refine heap_alloc_keep _ (heap_set_keep _ hne ?_)
    have h := heap_set_same (heap_set_same (heap_set_same (heap_set_same HF.out 0 (.int .i64 x0)) 1 (.int .u32 x1)) 2 (.int .u32 x2)) 3 (.int .i64 x3)
    exact h
  · refine heap_alloc_keep _ ?_
    have h := heap_set_keep (a := ⟨fb, 3, none⟩) (.int .i64 x3) hne.symm (heap_set_keep (a := ⟨fb, 2, none⟩) (.int .u32 x2) hne.symm (heap_set_keep (a := ⟨fb, 1, none⟩) (.int .u32 x1) hne.symm (heap_set_keep (a := ⟨fb, 0, none⟩) (.int .i64 x0) hne.symm HK.out)))
    exact heap_set_same h 0 (.bool false)
  · exact ((((((Upd.refl _ _).setCell (by simp) _).setCell (by simp) _).setCell (by simp) _).setCell (by simp) _).setCell (by simp) _).alloc _

set_option maxRecDepth 100000 in
set_option maxHeartbeats 1000000 in
theorem hcaught_idle (fb kb : Nat) (w : World) :
    CallsD Try.prog 82 #[.pointer (some ⟨fb, 0, none⟩), .pointer (some ⟨kb, 0, none⟩)] .returning w fun e u' w' => e = .returned (.tuple #[]) ∧ u' = .returning ∧ w = w' := by
  refine callsD_of_wpS Try.func82 rfl fun c₀ cs hu => ?_
  simp only [Try.ntmps82, List.size_toArray, List.length_cons, List.length_nil, Nat.reduceAdd, Nat.reduceSub, Array.replicate_succ, Array.replicate_zero, List.push_toArray, List.append_toArray, List.nil_append, List.cons_append]
  apply wpS_seq
  apply wpS_region
  simp [wpOpsS, go_sem, recoverD, hu, Try.ntmps82, Exit.thenS]
  refine wpS_of_wp ?_
  have HU := Lib.hid hu
  clear hu
  go_wp2_with fail
  refine ⟨rfl, .returning, ?_, _, results_none rfl _ _ _, rfl, rfl, rfl⟩
  rw [← HU.out]

def hDefers (fb kb : Nat) : List Deferred :=
  [{ target := .fn (.func 82) #[.pointer (some ⟨fb, 0, none⟩), .pointer (some ⟨kb, 0, none⟩)], args := #[] }]

theorem hdoor_panic {fn : Func} {tmps : Array Value} {R : Ending → World → Prop} {w1 : World} {fb kb : Nat} {y0 y1 y2 y3 k0 : Value} (F : Flt) (V : Value)
    (hres : ∀ w2, w2.heap[fb]? = some (.cells #[.int .i64 F.k, .int .u32 F.pc, .int .u32 F.a, .int .i64 F.wt] 32 (0, 0)) → w2.heap[kb]? = some (.cells #[.bool false] 4 (0, 0)) → Upd [fb, kb] w1 w2 → (results fn tmps).run Try.prog w2 = .ok V w2)
    (hf : w1.heap[fb]? = some (.cells #[y0, y1, y2, y3] 32 (0, 0))) (hk : w1.heap[kb]? = some (.cells #[k0] 4 (0, 0))) (hne : fb ≠ kb)
    (hR : ∀ w2, Upd [fb, kb] w1 w2 → R (.returned V) w2) :
    Leaves Try.prog fn tmps R (hDefers fb kb) (.panicking [{ v := .iface 32 F.val, recovered := false }]) w1 := by
  refine leaves_cons (f := 82) (args := #[.pointer (some ⟨fb, 0, none⟩), .pointer (some ⟨kb, 0, none⟩)]) (by simp) (by simp [go_sem]) ?_
  refine (hcaught_panicking fb kb _ _ _ _ _ _ _ _ _ [] w1 hf hk hne).mono ?_
  rintro e u' w2 ⟨rfl, rfl, hf, hk, hU⟩
  simp only [settle, List.dropWhile_nil]
  exact ⟨_, hres w2 hf hk hU, hR _ hU⟩

theorem hdoor_ret {fn : Func} {tmps : Array Value} {R : Ending → World → Prop} {w1 : World} {fb kb : Nat} (V : Value) (hres : (results fn tmps).run Try.prog w1 = .ok V w1) (hR : R (.returned V) w1) :
    Leaves Try.prog fn tmps R (hDefers fb kb) .returning w1 := by
  refine leaves_cons (f := 82) (args := #[.pointer (some ⟨fb, 0, none⟩), .pointer (some ⟨kb, 0, none⟩)]) (by simp) (by simp [go_sem]) ?_
  refine (hcaught_idle _ _ w1).mono ?_
  rintro e u' w2 ⟨rfl, rfl, rfl⟩
  simp only [settle]
  exact ⟨_, hres, hR⟩

/-- Where Do stands: its results' variables, the one that asks. -/
structure DoB (w : World) (hb a pb : Nat) (H : Hs) (M : Mem) (w1 : World) : Prop where
  f : w1.heap[w.heap.size]? = some (.cells #[.int .i64 0, .int .u32 0, .int .u32 0, .int .i64 0] 32 (0, 0))
  k : w1.heap[w.heap.size + 1]? = some (.cells #[.bool false] 4 (0, 0))
  s : As w1 (w.heap.size + 1 + 1) hb a pb H M
  u : Upd [] w w1

theorem DoB.start {w : World} {hb a pb : Nat} {H : Hs} {M : Mem} (h : IsHost w hb H) (hm : IsMem w a pb M) (hn : hb ≠ a ∧ hb ≠ pb) :
    DoB w hb a pb H M (((w.alloc (.cells #[.int .i64 0, .int .u32 0, .int .u32 0, .int .i64 0] 32)).alloc (.cells #[.bool false] 4)).alloc (.cells #[.pointer (some ⟨hb, 0, none⟩), .pointer (some ⟨a, 0, none⟩)] 139)) := by
  have u : Upd [] w (((w.alloc (.cells #[.int .i64 0, .int .u32 0, .int .u32 0, .int .i64 0] 32)).alloc (.cells #[.bool false] 4)).alloc (.cells #[.pointer (some ⟨hb, 0, none⟩), .pointer (some ⟨a, 0, none⟩)] 139)) := (((Upd.refl [] w).alloc _).alloc _).alloc _
  have h3 := heap_alloc2_new (w.alloc (.cells #[.int .i64 0, .int .u32 0, .int .u32 0, .int .i64 0] 32)) (.cells #[.bool false] 4) (.cells #[.pointer (some ⟨hb, 0, none⟩), .pointer (some ⟨a, 0, none⟩)] 139)
  have l2 := h.lt
  have l4 := hm.pl
  exact ⟨heap_alloc_keep _ (heap_alloc2_old _ _ _), heap_alloc_keep _ (heap_alloc2_new _ _ _), ⟨⟨by simpa using h3⟩, h.keep u (by simp), hm.keep u (by simp) (by simp), by omega, hn.1, hn.2, by omega⟩, u⟩

set_option maxRecDepth 100000 in
set_option maxHeartbeats 2000000 in
theorem Do_touch_ok (H H' : Hs) (M M' : Mem) (hb a pb : Nat) (w : World) (h : IsHost w hb H) (hm : IsMem w a pb M) (hne : hb ≠ a ∧ hb ≠ pb) (hn : H.get 17 < 9 ∧ H.get 17 ≠ 5 ∧ H.get 17 ≠ 6)
    (hc : ∀ ab w1, As w1 ab hb a pb H M → Calls Try.prog 85 #[.pointer (some ⟨ab, 0, none⟩), .int .u32 (H.get 17)] w1 fun e w' => e = .returned (.tuple #[]) ∧ IsHost w' hb H' ∧ IsMem w' a pb M' ∧ Upd [hb, pb] w1 w') :
    Calls Try.prog 50 #[.pointer (some ⟨hb, 0, none⟩), .pointer (some ⟨a, 0, none⟩)] w fun e w' => e = .returned (.tuple #[Flt.zero.val, .bool true]) ∧ IsHost w' hb H' ∧ IsMem w' a pb M' ∧ Upd [hb, pb] w w' := by
  have HB := Lib.hid (DoB.start h hm hne)
  have HL := Lib.hid (show hb < w.heap.size ∧ a < w.heap.size ∧ pb < w.heap.size from ⟨h.lt, hm.al, hm.pl⟩)
  have e1 : decide (9 ≤ H.get 17) = false := by rw [decide_eq_false_iff_not]; omega
  have e2 : (H.get 17 == 5) = false := by simpa using hn.2.1
  have e3 : (H.get 17 == 6) = false := by simpa using hn.2.2
  clear h hm hne hn
  have tok : True := trivial
  go_enter_defers Try.func50, Try.ntmps50
  go_wp2_with (first | (go_at_call 44; refine (X_any H hb 17 _ HB.out.s.h).mono ?_; rintro e w' ⟨rfl, rfl⟩) | (go_at_call 85; refine (hc (w.heap.size + 1 + 1) _ HB.out.s).mono ?_; rintro e w3 ⟨rfl, h1, h2, h3⟩; have G3 := Lib.hid (And.intro h1 (And.intro h2 (show FkB [hb, pb] w Flt.zero false w3 from ⟨h3.get HB.out.f (by have := HL.out; simp; omega), h3.get HB.out.k (by have := HL.out; simp; omega), (HB.out.u.mono (by simp)).also h3 (by simp)⟩))); clear h1 h2 h3; have cf := cells_of G3.out.2.2.f; have ff := free_of G3.out.2.2.f; have ck := cells_of G3.out.2.2.k; have fk := free_of G3.out.2.2.k))
  have HE := G3.out.2.2.st Flt.zero true
  have hE : Upd [w.heap.size, w.heap.size + 1] w3 (((((w3.setCell ⟨w.heap.size, 0, none⟩ (.int .i64 Flt.zero.k)).setCell ⟨w.heap.size, 0 + 1, none⟩ (.int .u32 Flt.zero.pc)).setCell ⟨w.heap.size, 0 + 2, none⟩ (.int .u32 Flt.zero.a)).setCell ⟨w.heap.size, 0 + 3, none⟩ (.int .i64 Flt.zero.wt)).setCell ⟨w.heap.size + 1, 0, none⟩ (.bool true)) :=
    (Upd_store4 (b := w.heap.size) (Upd.refl _ w3) (.inl (by simp)) _ _ _ _).setCell (.inl (by simp)) _
  refine hdoor_ret (.tuple #[Flt.zero.val, .bool true]) ?_ ⟨rfl, G3.out.1.keep hE (by have := HL.out; simp; omega), G3.out.2.1.keep hE (by have := HL.out; simp; omega) (by have := HL.out; simp; omega), HE.u⟩
  exact results_two' rfl (res_flt 4 w.heap.size Flt.zero rfl HE.f) (res_bool 5 (w.heap.size + 1) true rfl HE.k)

set_option maxRecDepth 100000 in
set_option maxHeartbeats 2000000 in
theorem Do_touch_bad (H : Hs) (M : Mem) (P : Flt → Prop) (S : List Nat) (hb a pb : Nat) (w : World) (h : IsHost w hb H) (hm : IsMem w a pb M) (hne : hb ≠ a ∧ hb ≠ pb) (hn : H.get 17 < 9 ∧ H.get 17 ≠ 5 ∧ H.get 17 ≠ 6) (hS : ∀ x, x ∈ S → x < w.heap.size)
    (hc : ∀ ab w1, As w1 ab hb a pb H M → Calls Try.prog 85 #[.pointer (some ⟨ab, 0, none⟩), .int .u32 (H.get 17)] w1 fun e w' => (∃ F : Flt, P F ∧ e = .panicked [{ v := .iface 32 F.val, recovered := false }]) ∧ Upd S w1 w') :
    Calls Try.prog 50 #[.pointer (some ⟨hb, 0, none⟩), .pointer (some ⟨a, 0, none⟩)] w fun e w' => (∃ F : Flt, P F ∧ e = .returned (.tuple #[F.val, .bool false])) ∧ Upd S w w' := by
  have HB := Lib.hid (DoB.start h hm hne)
  have HS := Lib.hid hS
  have e1 : decide (9 ≤ H.get 17) = false := by rw [decide_eq_false_iff_not]; omega
  have e2 : (H.get 17 == 5) = false := by simpa using hn.2.1
  have e3 : (H.get 17 == 6) = false := by simpa using hn.2.2
  clear h hm hne hn hS
  go_enter_defers Try.func50, Try.ntmps50
  go_wp2_with (first | (go_at_call 44; refine (X_any H hb 17 _ HB.out.s.h).mono ?_; rintro e w' ⟨rfl, rfl⟩) | (go_at_call 85; refine (hc (w.heap.size + 1 + 1) _ HB.out.s).mono ?_; rintro e w3 ⟨⟨F, hF, rfl⟩, h3⟩; have G3 := Lib.hid (And.intro hF (show FkB S w Flt.zero false w3 from ⟨h3.get HB.out.f (fun hx => by have := HS.out _ hx; omega), h3.get HB.out.k (fun hx => by have := HS.out _ hx; omega), (HB.out.u.mono (T := S) (by simp)).also h3 (fun x hx => .inl hx)⟩)); clear h3 hF))
  refine hdoor_panic (fb := w.heap.size) (kb := w.heap.size + 1) F (.tuple #[F.val, .bool false]) (fun w9 hf hk hU => ?_) G3.out.2.f G3.out.2.k (by omega) (fun w9 hU => ?_)
  · exact results_two' rfl (res_flt 4 w.heap.size _ rfl hf) (res_bool 5 (w.heap.size + 1) _ rfl hk)
  · exact ⟨⟨F, G3.out.1, rfl⟩, G3.out.2.u.also hU (by simp <;> omega)⟩

set_option maxRecDepth 100000 in
set_option maxHeartbeats 2000000 in
theorem Do_can_ok (H H' : Hs) (M M' : Mem) (hb a pb : Nat) (w : World) (h : IsHost w hb H) (hm : IsMem w a pb M) (hne : hb ≠ a ∧ hb ≠ pb) (hn : H.get 17 = 14)
    (hc : ∀ ab w1, As w1 ab hb a pb H M → Calls Try.prog 85 #[.pointer (some ⟨ab, 0, none⟩), .int .u32 (H.get 17)] w1 fun e w' => e = .returned (.tuple #[]) ∧ IsHost w' hb H' ∧ IsMem w' a pb M' ∧ Upd [hb, pb] w1 w') :
    Calls Try.prog 50 #[.pointer (some ⟨hb, 0, none⟩), .pointer (some ⟨a, 0, none⟩)] w fun e w' => e = .returned (.tuple #[Flt.zero.val, .bool true]) ∧ IsHost w' hb H' ∧ IsMem w' a pb M' ∧ Upd [hb, pb] w w' := by
  have HB := Lib.hid (DoB.start h hm hne)
  have HL := Lib.hid (show hb < w.heap.size ∧ a < w.heap.size ∧ pb < w.heap.size from ⟨h.lt, hm.al, hm.pl⟩)
  have e1 : decide (9 ≤ H.get 17) = true := by rw [decide_eq_true_eq]; omega
  have e2 : (H.get 17 == 5) = false := by rw [hn]; rfl
  have e3 : (H.get 17 == 6) = false := by rw [hn]; rfl
  have e4 : decide (H.get 17 ≤ 13) = false := by rw [decide_eq_false_iff_not]; omega
  clear h hm hne hn
  have tok : True := trivial
  go_enter_defers Try.func50, Try.ntmps50
  go_wp2_with (first | (go_at_call 44; refine (X_any H hb 17 _ HB.out.s.h).mono ?_; rintro e w' ⟨rfl, rfl⟩) | (go_at_call 85; refine (hc (w.heap.size + 1 + 1) _ HB.out.s).mono ?_; rintro e w3 ⟨rfl, h1, h2, h3⟩; have G3 := Lib.hid (And.intro h1 (And.intro h2 (show FkB [hb, pb] w Flt.zero false w3 from ⟨h3.get HB.out.f (by have := HL.out; simp; omega), h3.get HB.out.k (by have := HL.out; simp; omega), (HB.out.u.mono (by simp)).also h3 (by simp)⟩))); clear h1 h2 h3; have cf := cells_of G3.out.2.2.f; have ff := free_of G3.out.2.2.f; have ck := cells_of G3.out.2.2.k; have fk := free_of G3.out.2.2.k))
  have HE := G3.out.2.2.st Flt.zero true
  have hE : Upd [w.heap.size, w.heap.size + 1] w3 (((((w3.setCell ⟨w.heap.size, 0, none⟩ (.int .i64 Flt.zero.k)).setCell ⟨w.heap.size, 0 + 1, none⟩ (.int .u32 Flt.zero.pc)).setCell ⟨w.heap.size, 0 + 2, none⟩ (.int .u32 Flt.zero.a)).setCell ⟨w.heap.size, 0 + 3, none⟩ (.int .i64 Flt.zero.wt)).setCell ⟨w.heap.size + 1, 0, none⟩ (.bool true)) :=
    (Upd_store4 (b := w.heap.size) (Upd.refl _ w3) (.inl (by simp)) _ _ _ _).setCell (.inl (by simp)) _
  refine hdoor_ret (.tuple #[Flt.zero.val, .bool true]) ?_ ⟨rfl, G3.out.1.keep hE (by have := HL.out; simp; omega), G3.out.2.1.keep hE (by have := HL.out; simp; omega) (by have := HL.out; simp; omega), HE.u⟩
  exact results_two' rfl (res_flt 4 w.heap.size Flt.zero rfl HE.f) (res_bool 5 (w.heap.size + 1) true rfl HE.k)

set_option maxRecDepth 100000 in
set_option maxHeartbeats 2000000 in
theorem Do_can_bad (H : Hs) (M : Mem) (P : Flt → Prop) (S : List Nat) (hb a pb : Nat) (w : World) (h : IsHost w hb H) (hm : IsMem w a pb M) (hne : hb ≠ a ∧ hb ≠ pb) (hn : H.get 17 = 14) (hS : ∀ x, x ∈ S → x < w.heap.size)
    (hc : ∀ ab w1, As w1 ab hb a pb H M → Calls Try.prog 85 #[.pointer (some ⟨ab, 0, none⟩), .int .u32 (H.get 17)] w1 fun e w' => (∃ F : Flt, P F ∧ e = .panicked [{ v := .iface 32 F.val, recovered := false }]) ∧ Upd S w1 w') :
    Calls Try.prog 50 #[.pointer (some ⟨hb, 0, none⟩), .pointer (some ⟨a, 0, none⟩)] w fun e w' => (∃ F : Flt, P F ∧ e = .returned (.tuple #[F.val, .bool false])) ∧ Upd S w w' := by
  have HB := Lib.hid (DoB.start h hm hne)
  have HS := Lib.hid hS
  have e1 : decide (9 ≤ H.get 17) = true := by rw [decide_eq_true_eq]; omega
  have e2 : (H.get 17 == 5) = false := by rw [hn]; rfl
  have e3 : (H.get 17 == 6) = false := by rw [hn]; rfl
  have e4 : decide (H.get 17 ≤ 13) = false := by rw [decide_eq_false_iff_not]; omega
  clear h hm hne hn hS
  go_enter_defers Try.func50, Try.ntmps50
  go_wp2_with (first | (go_at_call 44; refine (X_any H hb 17 _ HB.out.s.h).mono ?_; rintro e w' ⟨rfl, rfl⟩) | (go_at_call 85; refine (hc (w.heap.size + 1 + 1) _ HB.out.s).mono ?_; rintro e w3 ⟨⟨F, hF, rfl⟩, h3⟩; have G3 := Lib.hid (And.intro hF (show FkB S w Flt.zero false w3 from ⟨h3.get HB.out.f (fun hx => by have := HS.out _ hx; omega), h3.get HB.out.k (fun hx => by have := HS.out _ hx; omega), (HB.out.u.mono (T := S) (by simp)).also h3 (fun x hx => .inl hx)⟩)); clear h3 hF))
  refine hdoor_panic (fb := w.heap.size) (kb := w.heap.size + 1) F (.tuple #[F.val, .bool false]) (fun w9 hf hk hU => ?_) G3.out.2.f G3.out.2.k (by omega) (fun w9 hU => ?_)
  · exact results_two' rfl (res_flt 4 w.heap.size _ rfl hf) (res_bool 5 (w.heap.size + 1) _ rfl hk)
  · exact ⟨⟨F, G3.out.1, rfl⟩, G3.out.2.u.also hU (by simp <;> omega)⟩

set_option maxRecDepth 100000 in
set_option maxHeartbeats 2000000 in
theorem Do_div_ok (H H' : Hs) (M M' : Mem) (hb a pb : Nat) (w : World) (h : IsHost w hb H) (hm : IsMem w a pb M) (hne : hb ≠ a ∧ hb ≠ pb) (hn : H.get 17 = 5)
    (hc : ∀ ab w1, As w1 ab hb a pb H M → Calls Try.prog 84 #[.pointer (some ⟨ab, 0, none⟩), .int .u32 (H.get 17)] w1 fun e w' => e = .returned (.tuple #[]) ∧ IsHost w' hb H' ∧ IsMem w' a pb M' ∧ Upd [hb, pb] w1 w') :
    Calls Try.prog 50 #[.pointer (some ⟨hb, 0, none⟩), .pointer (some ⟨a, 0, none⟩)] w fun e w' => e = .returned (.tuple #[Flt.zero.val, .bool true]) ∧ IsHost w' hb H' ∧ IsMem w' a pb M' ∧ Upd [hb, pb] w w' := by
  have HB := Lib.hid (DoB.start h hm hne)
  have HL := Lib.hid (show hb < w.heap.size ∧ a < w.heap.size ∧ pb < w.heap.size from ⟨h.lt, hm.al, hm.pl⟩)
  have e1 : decide (9 ≤ H.get 17) = false := by rw [decide_eq_false_iff_not]; omega
  have e2 : (H.get 17 == 5) = true := by rw [hn]; rfl
  clear h hm hne hn
  have tok : True := trivial
  go_enter_defers Try.func50, Try.ntmps50
  go_wp2_with (first | (go_at_call 44; refine (X_any H hb 17 _ HB.out.s.h).mono ?_; rintro e w' ⟨rfl, rfl⟩) | (go_at_call 84; refine (hc (w.heap.size + 1 + 1) _ HB.out.s).mono ?_; rintro e w3 ⟨rfl, h1, h2, h3⟩; have G3 := Lib.hid (And.intro h1 (And.intro h2 (show FkB [hb, pb] w Flt.zero false w3 from ⟨h3.get HB.out.f (by have := HL.out; simp; omega), h3.get HB.out.k (by have := HL.out; simp; omega), (HB.out.u.mono (by simp)).also h3 (by simp)⟩))); clear h1 h2 h3; have cf := cells_of G3.out.2.2.f; have ff := free_of G3.out.2.2.f; have ck := cells_of G3.out.2.2.k; have fk := free_of G3.out.2.2.k))
  have HE := G3.out.2.2.st Flt.zero true
  have hE : Upd [w.heap.size, w.heap.size + 1] w3 (((((w3.setCell ⟨w.heap.size, 0, none⟩ (.int .i64 Flt.zero.k)).setCell ⟨w.heap.size, 0 + 1, none⟩ (.int .u32 Flt.zero.pc)).setCell ⟨w.heap.size, 0 + 2, none⟩ (.int .u32 Flt.zero.a)).setCell ⟨w.heap.size, 0 + 3, none⟩ (.int .i64 Flt.zero.wt)).setCell ⟨w.heap.size + 1, 0, none⟩ (.bool true)) :=
    (Upd_store4 (b := w.heap.size) (Upd.refl _ w3) (.inl (by simp)) _ _ _ _).setCell (.inl (by simp)) _
  refine hdoor_ret (.tuple #[Flt.zero.val, .bool true]) ?_ ⟨rfl, G3.out.1.keep hE (by have := HL.out; simp; omega), G3.out.2.1.keep hE (by have := HL.out; simp; omega) (by have := HL.out; simp; omega), HE.u⟩
  exact results_two' rfl (res_flt 4 w.heap.size Flt.zero rfl HE.f) (res_bool 5 (w.heap.size + 1) true rfl HE.k)

set_option maxRecDepth 100000 in
set_option maxHeartbeats 2000000 in
theorem Do_div_bad (H : Hs) (M : Mem) (P : Flt → Prop) (S : List Nat) (hb a pb : Nat) (w : World) (h : IsHost w hb H) (hm : IsMem w a pb M) (hne : hb ≠ a ∧ hb ≠ pb) (hn : H.get 17 = 5) (hS : ∀ x, x ∈ S → x < w.heap.size)
    (hc : ∀ ab w1, As w1 ab hb a pb H M → Calls Try.prog 84 #[.pointer (some ⟨ab, 0, none⟩), .int .u32 (H.get 17)] w1 fun e w' => (∃ F : Flt, P F ∧ e = .panicked [{ v := .iface 32 F.val, recovered := false }]) ∧ Upd S w1 w') :
    Calls Try.prog 50 #[.pointer (some ⟨hb, 0, none⟩), .pointer (some ⟨a, 0, none⟩)] w fun e w' => (∃ F : Flt, P F ∧ e = .returned (.tuple #[F.val, .bool false])) ∧ Upd S w w' := by
  have HB := Lib.hid (DoB.start h hm hne)
  have HS := Lib.hid hS
  have e1 : decide (9 ≤ H.get 17) = false := by rw [decide_eq_false_iff_not]; omega
  have e2 : (H.get 17 == 5) = true := by rw [hn]; rfl
  clear h hm hne hn hS
  go_enter_defers Try.func50, Try.ntmps50
  go_wp2_with (first | (go_at_call 44; refine (X_any H hb 17 _ HB.out.s.h).mono ?_; rintro e w' ⟨rfl, rfl⟩) | (go_at_call 84; refine (hc (w.heap.size + 1 + 1) _ HB.out.s).mono ?_; rintro e w3 ⟨⟨F, hF, rfl⟩, h3⟩; have G3 := Lib.hid (And.intro hF (show FkB S w Flt.zero false w3 from ⟨h3.get HB.out.f (fun hx => by have := HS.out _ hx; omega), h3.get HB.out.k (fun hx => by have := HS.out _ hx; omega), (HB.out.u.mono (T := S) (by simp)).also h3 (fun x hx => .inl hx)⟩)); clear h3 hF))
  refine hdoor_panic (fb := w.heap.size) (kb := w.heap.size + 1) F (.tuple #[F.val, .bool false]) (fun w9 hf hk hU => ?_) G3.out.2.f G3.out.2.k (by omega) (fun w9 hU => ?_)
  · exact results_two' rfl (res_flt 4 w.heap.size _ rfl hf) (res_bool 5 (w.heap.size + 1) _ rfl hk)
  · exact ⟨⟨F, G3.out.1, rfl⟩, G3.out.2.u.also hU (by simp <;> omega)⟩

set_option maxRecDepth 100000 in
set_option maxHeartbeats 2000000 in
theorem Do_reck_ok (H H' : Hs) (M M' : Mem) (hb a pb : Nat) (w : World) (h : IsHost w hb H) (hm : IsMem w a pb M) (hne : hb ≠ a ∧ hb ≠ pb) (hn : 9 ≤ H.get 17 ∧ H.get 17 ≤ 13)
    (hc : ∀ ab w1, As w1 ab hb a pb H M → Calls Try.prog 83 #[.pointer (some ⟨ab, 0, none⟩), .int .u32 (H.get 17)] w1 fun e w' => e = .returned (.tuple #[]) ∧ IsHost w' hb H' ∧ IsMem w' a pb M' ∧ Upd [hb, pb] w1 w') :
    Calls Try.prog 50 #[.pointer (some ⟨hb, 0, none⟩), .pointer (some ⟨a, 0, none⟩)] w fun e w' => e = .returned (.tuple #[Flt.zero.val, .bool true]) ∧ IsHost w' hb H' ∧ IsMem w' a pb M' ∧ Upd [hb, pb] w w' := by
  have HB := Lib.hid (DoB.start h hm hne)
  have HL := Lib.hid (show hb < w.heap.size ∧ a < w.heap.size ∧ pb < w.heap.size from ⟨h.lt, hm.al, hm.pl⟩)
  have e4 : decide (9 ≤ H.get 17) = true := by rw [decide_eq_true_eq]; exact hn.1
  have e5 : decide (H.get 17 ≤ 13) = true := by rw [decide_eq_true_eq]; exact hn.2
  clear h hm hne hn
  have tok : True := trivial
  go_enter_defers Try.func50, Try.ntmps50
  go_wp2_with (first | (go_at_call 44; refine (X_any H hb 17 _ HB.out.s.h).mono ?_; rintro e w' ⟨rfl, rfl⟩) | (go_at_call 83; refine (hc (w.heap.size + 1 + 1) _ HB.out.s).mono ?_; rintro e w3 ⟨rfl, h1, h2, h3⟩; have G3 := Lib.hid (And.intro h1 (And.intro h2 (show FkB [hb, pb] w Flt.zero false w3 from ⟨h3.get HB.out.f (by have := HL.out; simp; omega), h3.get HB.out.k (by have := HL.out; simp; omega), (HB.out.u.mono (by simp)).also h3 (by simp)⟩))); clear h1 h2 h3; have cf := cells_of G3.out.2.2.f; have ff := free_of G3.out.2.2.f; have ck := cells_of G3.out.2.2.k; have fk := free_of G3.out.2.2.k))
  have HE := G3.out.2.2.st Flt.zero true
  have hE : Upd [w.heap.size, w.heap.size + 1] w3 (((((w3.setCell ⟨w.heap.size, 0, none⟩ (.int .i64 Flt.zero.k)).setCell ⟨w.heap.size, 0 + 1, none⟩ (.int .u32 Flt.zero.pc)).setCell ⟨w.heap.size, 0 + 2, none⟩ (.int .u32 Flt.zero.a)).setCell ⟨w.heap.size, 0 + 3, none⟩ (.int .i64 Flt.zero.wt)).setCell ⟨w.heap.size + 1, 0, none⟩ (.bool true)) :=
    (Upd_store4 (b := w.heap.size) (Upd.refl _ w3) (.inl (by simp)) _ _ _ _).setCell (.inl (by simp)) _
  refine hdoor_ret (.tuple #[Flt.zero.val, .bool true]) ?_ ⟨rfl, G3.out.1.keep hE (by have := HL.out; simp; omega), G3.out.2.1.keep hE (by have := HL.out; simp; omega) (by have := HL.out; simp; omega), HE.u⟩
  exact results_two' rfl (res_flt 4 w.heap.size Flt.zero rfl HE.f) (res_bool 5 (w.heap.size + 1) true rfl HE.k)

set_option maxRecDepth 100000 in
set_option maxHeartbeats 2000000 in
theorem Do_reck_bad (H : Hs) (M : Mem) (P : Flt → Prop) (S : List Nat) (hb a pb : Nat) (w : World) (h : IsHost w hb H) (hm : IsMem w a pb M) (hne : hb ≠ a ∧ hb ≠ pb) (hn : 9 ≤ H.get 17 ∧ H.get 17 ≤ 13) (hS : ∀ x, x ∈ S → x < w.heap.size)
    (hc : ∀ ab w1, As w1 ab hb a pb H M → Calls Try.prog 83 #[.pointer (some ⟨ab, 0, none⟩), .int .u32 (H.get 17)] w1 fun e w' => (∃ F : Flt, P F ∧ e = .panicked [{ v := .iface 32 F.val, recovered := false }]) ∧ Upd S w1 w') :
    Calls Try.prog 50 #[.pointer (some ⟨hb, 0, none⟩), .pointer (some ⟨a, 0, none⟩)] w fun e w' => (∃ F : Flt, P F ∧ e = .returned (.tuple #[F.val, .bool false])) ∧ Upd S w w' := by
  have HB := Lib.hid (DoB.start h hm hne)
  have HS := Lib.hid hS
  have e4 : decide (9 ≤ H.get 17) = true := by rw [decide_eq_true_eq]; exact hn.1
  have e5 : decide (H.get 17 ≤ 13) = true := by rw [decide_eq_true_eq]; exact hn.2
  clear h hm hne hn hS
  go_enter_defers Try.func50, Try.ntmps50
  go_wp2_with (first | (go_at_call 44; refine (X_any H hb 17 _ HB.out.s.h).mono ?_; rintro e w' ⟨rfl, rfl⟩) | (go_at_call 83; refine (hc (w.heap.size + 1 + 1) _ HB.out.s).mono ?_; rintro e w3 ⟨⟨F, hF, rfl⟩, h3⟩; have G3 := Lib.hid (And.intro hF (show FkB S w Flt.zero false w3 from ⟨h3.get HB.out.f (fun hx => by have := HS.out _ hx; omega), h3.get HB.out.k (fun hx => by have := HS.out _ hx; omega), (HB.out.u.mono (T := S) (by simp)).also h3 (fun x hx => .inl hx)⟩)); clear h3 hF))
  refine hdoor_panic (fb := w.heap.size) (kb := w.heap.size + 1) F (.tuple #[F.val, .bool false]) (fun w9 hf hk hU => ?_) G3.out.2.f G3.out.2.k (by omega) (fun w9 hU => ?_)
  · exact results_two' rfl (res_flt 4 w.heap.size _ rfl hf) (res_bool 5 (w.heap.size + 1) _ rfl hk)
  · exact ⟨⟨F, G3.out.1, rfl⟩, G3.out.2.u.also hU (by simp <;> omega)⟩
end Go.Proofs.Ytncafchgdgmeaaa
