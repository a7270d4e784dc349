/-
  Package operand: lacking, can, Can, must, Read8, Write8, each by its contract.
-/
import Derived.Test.YtncafchgdgmeaaaStC
import Derived.Outline
import Derived.Test.YtncafchgdgmeaaaPgV
namespace Go.Proofs.Ytncafchgdgmeaaa
open Go Go.RowKit
set_option linter.unusedVariables false
set_option linter.unusedSimpArgs false

set_option maxRecDepth 100000 in
set_option maxHeartbeats 1000000 in
theorem ocaught_panicking (fb kb : Nat) (y0 y1 y2 y3 k0 : Value) (x0 x1 x2 x3 : Int) (older : List PanicEntry) (w : World)
    (hf : w.heap[fb]? = some (.cells #[y0, y1, y2, y3] 32 (0, 0))) (hk : w.heap[kb]? = some (.cells #[k0] 4 (0, 0))) (hne : fb ≠ kb) :
    CallsD Try.prog 79 #[.pointer (some ⟨fb, 0, none⟩), .pointer (some ⟨kb, 0, none⟩)] (.panicking ({ v := .iface 32 (.agg #[.int .i64 x0, .int .u32 x1, .int .u32 x2, .int .i64 x3]), recovered := false } :: older)) w fun e u' w' =>
      e = .returned (.tuple #[]) ∧ u' = .panicking ({ v := .iface 32 (.agg #[.int .i64 x0, .int .u32 x1, .int .u32 x2, .int .i64 x3]), recovered := true } :: older) ∧
        w'.heap[fb]? = some (.cells #[.int .i64 x0, .int .u32 x1, .int .u32 x2, .int .i64 x3] 32 (0, 0)) ∧ w'.heap[kb]? = some (.cells #[.bool false] 4 (0, 0)) ∧ Upd [fb, kb] w w' := by
  refine callsD_of_wpS Try.func79 rfl fun c₀ cs hu => ?_
  simp only [Try.ntmps79, List.size_toArray, List.length_cons, List.length_nil, Nat.reduceAdd, Nat.reduceSub, Array.replicate_succ, Array.replicate_zero, List.push_toArray, List.append_toArray, List.nil_append, List.cons_append]
  apply wpS_seq
  apply wpS_region
  simp [wpOpsS, go_sem, recoverD, hu, Try.ntmps79, Exit.thenS]
  refine wpS_of_wp ?_
  clear hu
  have hfl := lt_of_heap hf
  have hkl := lt_of_heap hk
  have hcf : ∀ o, w.cell? ⟨fb, o, none⟩ = #[y0, y1, y2, y3][o]? := cells_of hf
  have hck : ∀ o, w.cell? ⟨kb, o, none⟩ = #[k0][o]? := cells_of hk
  have hff : ∀ o, w.frozen? ⟨fb, o, none⟩ = false := free_of hf
  have hfk : ∀ o, w.frozen? ⟨kb, o, none⟩ = false := free_of hk
  have HF := Lib.hid hf
  have HK := Lib.hid hk
  clear hf hk
  have hta := assert_fault
  go_wp2_with fail
  refine ⟨rfl, _, rfl, _, results_none rfl _ _ _, rfl, rfl, ?_, ?_, ?_⟩
  · refine heap_alloc_keep _ (heap_set_keep _ hne ?_)
    have h := heap_set_same (heap_set_same (heap_set_same (heap_set_same HF.out 0 (.int .i64 x0)) 1 (.int .u32 x1)) 2 (.int .u32 x2)) 3 (.int .i64 x3)
    exact h
  · refine heap_alloc_keep _ ?_
    have h := heap_set_keep (a := ⟨fb, 3, none⟩) (.int .i64 x3) hne.symm (heap_set_keep (a := ⟨fb, 2, none⟩) (.int .u32 x2) hne.symm (heap_set_keep (a := ⟨fb, 1, none⟩) (.int .u32 x1) hne.symm (heap_set_keep (a := ⟨fb, 0, none⟩) (.int .i64 x0) hne.symm HK.out)))
    exact heap_set_same h 0 (.bool false)
  · exact ((((((Upd.refl _ _).setCell (by simp) _).setCell (by simp) _).setCell (by simp) _).setCell (by simp) _).setCell (by simp) _).alloc _

set_option maxRecDepth 100000 in
set_option maxHeartbeats 1000000 in
theorem ocaught_idle (fb kb : Nat) (w : World) :
    CallsD Try.prog 79 #[.pointer (some ⟨fb, 0, none⟩), .pointer (some ⟨kb, 0, none⟩)] .returning w fun e u' w' => e = .returned (.tuple #[]) ∧ u' = .returning ∧ w = w' := by
  refine callsD_of_wpS Try.func79 rfl fun c₀ cs hu => ?_
  simp only [Try.ntmps79, List.size_toArray, List.length_cons, List.length_nil, Nat.reduceAdd, Nat.reduceSub, Array.replicate_succ, Array.replicate_zero, List.push_toArray, List.append_toArray, List.nil_append, List.cons_append]
  apply wpS_seq
  apply wpS_region
  simp [wpOpsS, go_sem, recoverD, hu, Try.ntmps79, Exit.thenS]
  refine wpS_of_wp ?_
  have HU := Lib.hid hu
  clear hu
  go_wp2_with fail
  refine ⟨rfl, .returning, ?_, _, results_none rfl _ _ _, rfl, rfl, rfl⟩
  rw [← HU.out]


def oDefers (fb kb : Nat) : List Deferred :=
  [{ target := .fn (.func 79) #[], args := #[.pointer (some ⟨fb, 0, none⟩), .pointer (some ⟨kb, 0, none⟩)] }]

theorem odoor_panic {fn : Func} {tmps : Array Value} {R : Ending → World → Prop} {w1 : World} {fb kb : Nat} {y0 y1 y2 y3 k0 : Value} (F : Flt) (V : Value)
    (hres : ∀ w2, w2.heap[fb]? = some (.cells #[.int .i64 F.k, .int .u32 F.pc, .int .u32 F.a, .int .i64 F.wt] 32 (0, 0)) → w2.heap[kb]? = some (.cells #[.bool false] 4 (0, 0)) → Upd [fb, kb] w1 w2 → (results fn tmps).run Try.prog w2 = .ok V w2)
    (hf : w1.heap[fb]? = some (.cells #[y0, y1, y2, y3] 32 (0, 0))) (hk : w1.heap[kb]? = some (.cells #[k0] 4 (0, 0))) (hne : fb ≠ kb)
    (hR : ∀ w2, Upd [fb, kb] w1 w2 → R (.returned V) w2) :
    Leaves Try.prog fn tmps R (oDefers fb kb) (.panicking [{ v := .iface 32 F.val, recovered := false }]) w1 := by
  refine leaves_cons (f := 79) (args := #[.pointer (some ⟨fb, 0, none⟩), .pointer (some ⟨kb, 0, none⟩)]) (by simp) (by simp [go_sem]) ?_
  refine (ocaught_panicking fb kb _ _ _ _ _ _ _ _ _ [] w1 hf hk hne).mono ?_
  rintro e u' w2 ⟨rfl, rfl, hf, hk, hU⟩
  simp only [settle, List.dropWhile_nil]
  exact ⟨_, hres w2 hf hk hU, hR _ hU⟩

theorem odoor_ret {fn : Func} {tmps : Array Value} {R : Ending → World → Prop} {w1 : World} {fb kb : Nat} (V : Value) (hres : (results fn tmps).run Try.prog w1 = .ok V w1) (hR : R (.returned V) w1) :
    Leaves Try.prog fn tmps R (oDefers fb kb) .returning w1 := by
  refine leaves_cons (f := 79) (args := #[.pointer (some ⟨fb, 0, none⟩), .pointer (some ⟨kb, 0, none⟩)]) (by simp) (by simp [go_sem]) ?_
  refine (ocaught_idle _ _ w1).mono ?_
  rintro e u' w2 ⟨rfl, rfl, rfl⟩
  simp only [settle]
  exact ⟨_, hres, hR⟩

set_option maxRecDepth 100000 in
set_option maxHeartbeats 400000 in
theorem lacking_any (M : Mem) (a pb : Nat) (x r : Int) (w : World) (hM : IsMem w a pb M) (h0 : 0 ≤ x) :
    Calls Try.prog 99 #[.pointer (some ⟨a, 0, none⟩), .int .u32 x, .int .i64 r] w fun e w' => e = .returned (.int .i64 (M.lack x r)) ∧ w = w' := by
  by_cases h : x < 16384
  · have HR := Lib.hid (show M.rights (x / 256) = M.R (x / 256).toNat by rw [Mem.rights, if_neg (by omega)])
    have HV := Lib.hid (show M.lack x r = lowI (bits .andNot .i64 r (M.R (x / 256).toNat)) by rw [Mem.lack, Mem.rightAt, if_pos h])
    go_enter Try.func99, Try.ntmps99
    go_wp2_with (go_at_call 23; refine (Rights_any a pb _ _ M hM).mono ?_; rintro e w' ⟨rfl, rfl⟩; rw [HR.out])
    go_ret
    rw [HV.out]
    exact ⟨rfl, rfl⟩
  · have HV := Lib.hid (show M.lack x r = lowI (bits .andNot .i64 r 0) by rw [Mem.lack, Mem.rightAt, if_neg h])
    go_enter Try.func99, Try.ntmps99
    go_wp2_with fail
    go_ret
    rw [HV.out]
    exact ⟨rfl, rfl⟩

theorem must_ok (F : Flt) (w : World) : Calls Try.prog 80 #[F.val, .bool true] w fun e w' => e = .returned (.tuple #[]) ∧ Upd [] w w' := by
  unfold Flt.val
  go_enter Try.func80, Try.ntmps80
  go_wp2
  go_end0
  exact ⟨rfl, (Upd.refl _ _).alloc _⟩

theorem must_bad (F : Flt) (w : World) : Calls Try.prog 80 #[F.val, .bool false] w fun e w' => e = .panicked [{ v := .iface 32 F.val, recovered := false }] ∧ Upd [] w w' := by
  unfold Flt.val
  go_enter Try.func80, Try.ntmps80
  go_wp2
  exact ⟨rfl, rfl, (Upd.refl _ _).alloc _⟩

structure CanB (w w1 : World) : Prop where
  f : w1.heap[w.heap.size]? = some (.cells #[.int .i64 0, .int .u32 0, .int .u32 0, .int .i64 0] 32 (0, 0))
  k : w1.heap[w.heap.size + 1]? = some (.cells #[.bool false] 4 (0, 0))
  u : Upd [] w w1

theorem CanB.start (w : World) : CanB w ((w.alloc (.cells #[.int .i64 0, .int .u32 0, .int .u32 0, .int .i64 0] 32)).alloc (.cells #[.bool false] 4)) :=
  ⟨heap_alloc2_old _ _ _, heap_alloc2_new _ _ _, ((Upd.refl _ _).alloc _).alloc _⟩

set_option maxRecDepth 100000 in
set_option maxHeartbeats 4000000 in
theorem can_any (M : Mem) (a pb n : Nat) (x r : Int) (w : World) (hM : IsMem w a pb M) (h0 : 0 ≤ x) (h1 : x < 4294967296) (hn : n ≤ 16) :
    Calls Try.prog 78 #[.pointer (some ⟨a, 0, none⟩), .int .u32 x, .int .i64 n, .int .i64 r] w fun e w' => e = .returned (.tuple #[(M.canF x n r).val, .bool (M.canK x n r)]) ∧ Upd [] w w' := by
  have HS := Lib.hid (CanB.start w)
  have HM := Lib.hid hM
  clear hM
  go_enter_defers Try.func78, Try.ntmps78
  go_wp2
  go_loopw [14] (fun i wr => ∃ j : Nat, j ≤ n ∧ i = .int .i64 j ∧ (∀ t, t < j → M.lack (plus x t) r = 0) ∧ CanB w wr) (fun i _ => n - (intOf i).toNat)
  case atStart => exact ⟨0, Nat.zero_le _, rfl, by simp, HS.out⟩
  case round =>
    obtain ⟨j, hj, rfl, hcan, hB⟩ := hrel
    have HC := Lib.hid hcan
    have HB := Lib.hid hB
    clear hcan hB
    by_cases hlt : j < n
    · have hd : decide ((j : Int) < n) = true := by simp; omega
      have q1 : (j : Int) % 4294967296 = j := by omega
      have q2 : (x + j) % 4294967296 = plus x j := rfl
      by_cases hb : M.lack (plus x j) r = 0
      · have HG := Lib.hid hb
        clear hb
        go_wp2_with (go_at_call 99; refine (lacking_any M a pb (plus x j) r _ (HM.out.keep HB.out.u (by simp) (by simp)) (plus_nn x j)).mono ?_; rintro e w2 ⟨rfl, rfl⟩; rw [HG.out])
        go_roundw
        case rel => exact ⟨j + 1, by omega, by go_num, fun t ht => by
            by_cases e : t = j
            · subst e; exact HG.out
            · exact HC.out t (by omega), HB.out⟩
        case measure => simp [intOf]; omega
      · have hb2 : (M.lack (plus x j) r == 0) = false := by simpa using hb
        have HG := Lib.hid hb
        clear hb
        go_wp2_with (go_at_call 99; refine (lacking_any M a pb (plus x j) r _ (HM.out.keep HB.out.u (by simp) (by simp)) (plus_nn x j)).mono ?_; rintro e w2 ⟨rfl, rfl⟩)
        have hbad := canBad_some M x n r j hlt HC.out HG.out
        refine odoor_panic (fb := w.heap.size) (kb := w.heap.size + 1) ⟨1, 0, plus x j, M.lack (plus x j) r⟩ (.tuple #[(M.canF x n r).val, .bool (M.canK x n r)]) (fun w2 hf hk hU => ?_) HB.out.f HB.out.k (by omega) (fun w2 hU => ⟨rfl, HB.out.u.also hU (by simp <;> omega)⟩)
        rw [Mem.canF, Mem.canK, hbad]
        exact results_two' rfl (res_flt 8 w.heap.size _ rfl hf) (res_bool 9 (w.heap.size + 1) _ rfl hk)
    · obtain rfl : n = j := by omega
      have cf := cells_of HB.out.f
      have ff := free_of HB.out.f
      have ck := cells_of HB.out.k
      have fk := free_of HB.out.k
      have hbad := Lib.hid (canBad_none M x n r HC.out)
      go_wp2_with fail
      have hF := heap_set_keep (a := ⟨w.heap.size + 1, 0, none⟩) (.bool true) (by simp) (store4 HB.out.f (.int .i64 0) (.int .u32 0) (.int .u32 0) (.int .i64 0))
      have UK := Upd_store4 (S := [w.heap.size]) (b := w.heap.size) (Upd.refl _ wr) (.inl (by simp)) (.int .i64 0) (.int .u32 0) (.int .u32 0) (.int .i64 0)
      have hK := heap_set_same (UK.get HB.out.k (by simp)) 0 (.bool true)
      refine odoor_ret (.tuple #[(M.canF x n r).val, .bool (M.canK x n r)]) ?_ ⟨rfl, (Upd_store4 (b := w.heap.size) HB.out.u (.inr (Nat.le_refl _)) _ _ _ _).setCell (.inr (by simp)) _⟩
      rw [Mem.canF, Mem.canK, hbad.out]
      exact results_two' rfl (res_flt 8 w.heap.size Flt.zero rfl hF) (res_bool 9 (w.heap.size + 1) true rfl hK)

end Go.Proofs.Ytncafchgdgmeaaa
