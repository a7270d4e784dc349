/-
  Package decode: the deferred recovery of Decode, Decode, Kind: each by its contract.
-/
import Derived.Test.YtpockhoacfkjaaaDcP
import Derived.Recover
namespace Go.Proofs.Ytpockhoacfkjaaa
open Go Go.RowKit
set_option linter.unusedVariables false
set_option linter.unusedSimpArgs false

theorem assert_errno (v : Value) (w : World) : (Instr.typeAssert (.iface 29 v) 20 29 true).run Try.prog w = .ok (.tuple #[v, .bool true]) w := by
  unfold Instr.typeAssert
  simp [Sem.run_bind]

set_option maxRecDepth 100000 in
set_option maxHeartbeats 2000000 in
theorem dcaught_panicking (ib nb eb : Nat) (i : Ins) (n0 e0 : Value) (c : Int) (older : List PanicEntry) (w : World)
    (hi : w.heap[ib]? = some (.cells i.cells 28 (0, 0))) (hn : w.heap[nb]? = some (.cells #[n0] 3 (0, 0))) (he : w.heap[eb]? = some (.cells #[e0] 29 (0, 0))) (h1 : ib ≠ nb) (h2 : ib ≠ eb) (h3 : nb ≠ eb) :
    CallsD Try.prog 25 #[.pointer (some ⟨ib, 0, none⟩), .pointer (some ⟨nb, 0, none⟩), .pointer (some ⟨eb, 0, none⟩)] (.panicking ({ v := .iface 29 (.int .i64 c), recovered := false } :: older)) w fun e u' w' =>
      e = .returned (.tuple #[]) ∧ u' = .panicking ({ v := .iface 29 (.int .i64 c), recovered := true } :: older) ∧
        w'.heap[ib]? = some (.cells Ins.zero.cells 28 (0, 0)) ∧ w'.heap[nb]? = some (.cells #[.int .i64 0] 3 (0, 0)) ∧ w'.heap[eb]? = some (.cells #[.int .i64 c] 29 (0, 0)) ∧ Upd [ib, nb, eb] w w' := by
  refine callsD_of_wpS Try.func25 rfl fun c₀ cs hu => ?_
  simp only [Try.ntmps25, List.size_toArray, List.length_cons, List.length_nil, Nat.reduceAdd, Nat.reduceSub, Array.replicate_succ, Array.replicate_zero, List.push_toArray, List.append_toArray, List.nil_append, List.cons_append]
  apply wpS_seq
  apply wpS_region
  simp [wpOpsS, go_sem, recoverD, hu, Try.ntmps25, Exit.thenS]
  refine wpS_of_wp ?_
  clear hu
  have HI := Lib.hid hi
  have HN := Lib.hid hn
  have HE := Lib.hid he
  have hta := assert_errno
  clear hi hn he
  go_wp2_with (refine at_store 28 rfl ?_; refine wpList_store_ins Ins.zero ib rfl _ _ rfl rfl rfl HI.out rfl ?_; intro w2 hw; obtain ⟨z1, z2⟩ := ins_new (S := [ib]) (w0 := w) hw HI.out rfl (Upd.refl _ _) (.inl (by simp)); have Z := Lib.hid (And.intro z1 z2); have gn := z2.get HN.out (by simpa using h1.symm); have ge := z2.get HE.out (by simpa using h2.symm); have cn := cells_of gn; have fn := free_of gn; have ce := cells_of ge; have fe := free_of ge; have GN := Lib.hid (And.intro gn ge); clear gn ge z1 z2 hw)
  refine ⟨rfl, _, rfl, _, results_none rfl _ _ _, rfl, rfl, ?_, ?_, ?_, ?_⟩
  · exact heap_set_keep _ h2 (heap_set_keep _ h1 Z.out.1)
  · exact heap_set_keep _ h3 (heap_set_same GN.out.1 0 (.int .i64 0))
  · exact heap_set_same (heap_set_keep (a := ⟨nb, 0, none⟩) (.int .i64 0) h3.symm GN.out.2) 0 (.int .i64 c)
  · exact ((Z.out.2.mono (by simp)).setCell (by simp) _).setCell (by simp) _

set_option maxRecDepth 100000 in
set_option maxHeartbeats 1000000 in
theorem dcaught_idle (ib nb eb : Nat) (w : World) :
    CallsD Try.prog 25 #[.pointer (some ⟨ib, 0, none⟩), .pointer (some ⟨nb, 0, none⟩), .pointer (some ⟨eb, 0, none⟩)] .returning w fun e u' w' => e = .returned (.tuple #[]) ∧ u' = .returning ∧ w = w' := by
  refine callsD_of_wpS Try.func25 rfl fun c₀ cs hu => ?_
  simp only [Try.ntmps25, List.size_toArray, List.length_cons, List.length_nil, Nat.reduceAdd, Nat.reduceSub, Array.replicate_succ, Array.replicate_zero, List.push_toArray, List.append_toArray, List.nil_append, List.cons_append]
  apply wpS_seq
  apply wpS_region
  simp [wpOpsS, go_sem, recoverD, hu, Try.ntmps25, Exit.thenS]
  refine wpS_of_wp ?_
  have HU := Lib.hid hu
  clear hu
  go_wp2_with fail
  refine ⟨rfl, .returning, ?_, _, results_none rfl _ _ _, rfl, rfl, rfl⟩
  rw [← HU.out]

def dDefers (ib nb eb : Nat) : List Deferred :=
  [{ target := .fn (.func 25) #[.pointer (some ⟨ib, 0, none⟩), .pointer (some ⟨nb, 0, none⟩), .pointer (some ⟨eb, 0, none⟩)], args := #[] }]

theorem ddoor_panic {fn : Func} {tmps : Array Value} {R : Ending → World → Prop} {w1 : World} {ib nb eb : Nat} {i : Ins} {n0 e0 : Value} (c : Int) (V : Value)
    (hres : ∀ w2, w2.heap[ib]? = some (.cells Ins.zero.cells 28 (0, 0)) → w2.heap[nb]? = some (.cells #[.int .i64 0] 3 (0, 0)) → w2.heap[eb]? = some (.cells #[.int .i64 c] 29 (0, 0)) → Upd [ib, nb, eb] w1 w2 → (results fn tmps).run Try.prog w2 = .ok V w2)
    (hi : w1.heap[ib]? = some (.cells i.cells 28 (0, 0))) (hn : w1.heap[nb]? = some (.cells #[n0] 3 (0, 0))) (he : w1.heap[eb]? = some (.cells #[e0] 29 (0, 0))) (h1 : ib ≠ nb) (h2 : ib ≠ eb) (h3 : nb ≠ eb)
    (hR : ∀ w2, Upd [ib, nb, eb] w1 w2 → R (.returned V) w2) :
    Leaves Try.prog fn tmps R (dDefers ib nb eb) (.panicking [{ v := .iface 29 (.int .i64 c), recovered := false }]) w1 := by
  refine leaves_cons (f := 25) (args := #[.pointer (some ⟨ib, 0, none⟩), .pointer (some ⟨nb, 0, none⟩), .pointer (some ⟨eb, 0, none⟩)]) (by simp) (by simp [go_sem]) ?_
  refine (dcaught_panicking ib nb eb i _ _ c [] w1 hi hn he h1 h2 h3).mono ?_
  rintro e u' w2 ⟨rfl, rfl, hi, hn, he, hU⟩
  simp only [settle, List.dropWhile_nil]
  exact ⟨_, hres w2 hi hn he hU, hR _ hU⟩

theorem ddoor_ret {fn : Func} {tmps : Array Value} {R : Ending → World → Prop} {w1 : World} {ib nb eb : Nat} (V : Value) (hres : (results fn tmps).run Try.prog w1 = .ok V w1) (hR : R (.returned V) w1) :
    Leaves Try.prog fn tmps R (dDefers ib nb eb) .returning w1 := by
  refine leaves_cons (f := 25) (args := #[.pointer (some ⟨ib, 0, none⟩), .pointer (some ⟨nb, 0, none⟩), .pointer (some ⟨eb, 0, none⟩)]) (by simp) (by simp [go_sem]) ?_
  refine (dcaught_idle _ _ _ w1).mono ?_
  rintro e u' w2 ⟨rfl, rfl, rfl⟩
  simp only [settle]
  exact ⟨_, hres, hR⟩

theorem res_int1 {tmps : Array Value} {w : World} (a : Tmp) (b : Nat) (n : Int) (t : TypeId) (ha : tmps.getD a undef = .pointer (some ⟨b, 0, none⟩)) (hb : w.heap[b]? = some (.cells #[.int .i64 n] 3 (0, 0))) : (resRun tmps (.cell a 3)).run Try.prog w = .ok (.int .i64 n) w := by
  have hc : w.cell? ⟨b, 0, none⟩ = some (.int .i64 n) := by rw [cells_of hb]; rfl
  simp only [resRun, Sem.run_bind, ha]
  simp [asAddr, go_sem, hc]

theorem res_errno {tmps : Array Value} {w : World} (a : Tmp) (b : Nat) (n : Int) (ha : tmps.getD a undef = .pointer (some ⟨b, 0, none⟩)) (hb : w.heap[b]? = some (.cells #[.int .i64 n] 29 (0, 0))) : (resRun tmps (.cell a 29)).run Try.prog w = .ok (.int .i64 n) w := by
  have hc : w.cell? ⟨b, 0, none⟩ = some (.int .i64 n) := by rw [cells_of hb]; rfl
  simp only [resRun, Sem.run_bind, ha]
  simp [asAddr, go_sem, hc]

/-- A slice of bytes as an argument. -/
structure BArg (w : World) (v : Value) (L : List Int) (g : Nat) : Prop where
  b : BySl w v L g
  n : L.length ≤ maxLen
  r : BOk L
  c : ∀ b n c, v = .slice b n c → n ≤ c
  g : g ≤ w.heap.size

theorem wp_load_ins {op : Oper} {a : Act} {w : World} {K : Act → World → Prop} {Q : Exit → Act → World → Prop} (i : Ins) (b : Nat) (x : Operand) (ho : op.op = .load 28 x) (hx : a.eval x = .pointer (some ⟨b, 0, none⟩))
    (hb : w.heap[b]? = some (.cells i.cells 28 (0, 0))) (hK : K (a.put op.dst (.agg i.cells)) w) : op.wp Try.prog a w K Q :=
  wp_load_mid 28 x ho b 0 hx i.cells.toList _ (range_whole hb) Try.underlying28 rfl (by rw [Array.length_toList, Ins.size]; exact ins_info) (by rw [Array.toArray_toList]; exact hK)

theorem wp_store_ins {op : Oper} {a : Act} {w : World} {K : Act → World → Prop} {Q : Exit → Act → World → Prop} (i : Ins) (b : Nat) (x y : Operand) (ho : op.op = .store 28 x y) (hx : a.eval x = .pointer (some ⟨b, 0, none⟩)) (hy : a.eval y = .agg i.cells)
    {c : Array Value} (hb : w.heap[b]? = some (.cells c 28 (0, 0))) (hc : c.size = 16) (hK : ∀ w', w.setCells b 0 i.cells.toList = w' → K (a.put op.dst undef) w') : op.wp Try.prog a w K Q := by
  refine wp_store_mid 28 x y ho b 0 i.cells hx hy (there_of hb 0 i.cells.size (by rw [hc, Ins.size]; exact Nat.le_refl _)) (by rw [Ins.size]; exact ins_info) i.one ?_
  exact hK _ rfl

/-- Where Decode stores its results. -/
structure DeR (w : World) (v : Value) (k : Nat) (i : Ins) (w1 : World) : Prop where
  i : w1.heap[w.heap.size]? = some (.cells i.cells 28 (0, 0))
  n : w1.heap[w.heap.size + 1]? = some (.cells #[.int .i64 0] 3 (0, 0))
  e : w1.heap[w.heap.size + 1 + 1]? = some (.cells #[.int .i64 0] 29 (0, 0))
  d : w1.heap[w.heap.size + 1 + 1 + 1]? = some (.cells #[v, .int .i64 k] 64 (0, 0))
  u : Upd [] w w1

theorem DeR.step {w w1 w2 : World} {v : Value} {k : Nat} {i : Ins} (h : DeR w v k i w1) (u : Upd [] w1 w2) : DeR w v k i w2 :=
  ⟨u.get h.i (by simp), u.get h.n (by simp), u.get h.e (by simp), u.get h.d (by simp), h.u.also u (by simp)⟩

theorem DeR.store {w w1 w2 : World} {v : Value} {k : Nat} {i : Ins} (h : DeR w v k i w1) (hw : w1.setCells w.heap.size 0 i.cells.toList = w2) : DeR w v k i w2 := by
  obtain ⟨z1, u⟩ := ins_new (S := [w.heap.size]) (w0 := w1) hw h.i rfl (Upd.refl _ _) (.inl (by simp))
  exact ⟨z1, u.get h.n (by simp), u.get h.e (by simp <;> omega), u.get h.d (by simp <;> omega), h.u.also u (by simp)⟩

/-- Where Decode stands: its results' variables, its decoder. -/
structure DeS (w : World) (v : Value) (L : List Int) (g k : Nat) (i : Ins) (w1 : World) : Prop where
  i : w1.heap[w.heap.size]? = some (.cells i.cells 28 (0, 0))
  n : w1.heap[w.heap.size + 1]? = some (.cells #[.int .i64 0] 3 (0, 0))
  e : w1.heap[w.heap.size + 1 + 1]? = some (.cells #[.int .i64 0] 29 (0, 0))
  d : IsDec w1 (w.heap.size + 1 + 1 + 1) v L g k
  u : Upd [] w w1

theorem DeS.start {w : World} {v : Value} {L : List Int} {g : Nat} (hv : BArg w v L g) :
    DeS w v L g 0 Ins.zero ((((w.alloc (.cells Ins.zero.cells 28)).alloc (.cells #[.int .i64 0] 3)).alloc (.cells #[.int .i64 0] 29)).alloc (.cells #[v, .int .i64 0] 64)) := by
  have u : Upd [] w ((((w.alloc (.cells Ins.zero.cells 28)).alloc (.cells #[.int .i64 0] 3)).alloc (.cells #[.int .i64 0] 29)).alloc (.cells #[v, .int .i64 0] 64)) := ((((Upd.refl [] w).alloc _).alloc _).alloc _).alloc _
  have h1 := heap_alloc_keep (.cells #[v, .int .i64 0] 64) (heap_alloc_keep (.cells #[.int .i64 0] 29) (heap_alloc2_new w (.cells Ins.zero.cells 28) (.cells #[.int .i64 0] 3)))
  have h2 := heap_alloc_keep (.cells #[v, .int .i64 0] 64) (heap_alloc2_new (w.alloc (.cells Ins.zero.cells 28)) (.cells #[.int .i64 0] 3) (.cells #[.int .i64 0] 29))
  have h3 := heap_alloc2_new ((w.alloc (.cells Ins.zero.cells 28)).alloc (.cells #[.int .i64 0] 3)) (.cells #[.int .i64 0] 29) (.cells #[v, .int .i64 0] 64)
  refine ⟨heap_alloc_keep _ (heap_alloc_keep _ (heap_alloc_keep _ (heap_alloc_new _ _))), h1, by simpa using h2, ⟨by simpa using h3, hv.b.keep u (by simp), Nat.zero_le _, hv.n, by have := hv.g; omega, hv.r, hv.c⟩, u⟩

set_option maxRecDepth 100000 in
set_option maxHeartbeats 4000000 in
theorem Decode_bad (v : Value) (L : List Int) (g : Nat) (w : World) (hv : BArg w v L g) (c : Int) (h : dcInsn L 0 = .err c) :
    Calls Try.prog 12 #[v] w fun e w' => e = .returned (.tuple #[Ins.zero.val, .int .i64 0, .int .i64 c]) ∧ Upd [] w w' := by
  have S := Lib.hid (DeS.start hv)
  have hb := insn_any _ g 0 v L _ S.out.d
  rw [h] at hb
  have HB := Lib.hid hb
  obtain ⟨sb, sc, rfl⟩ := hv.b.form
  clear hv h hb
  go_enter_defers Try.func12, Try.ntmps12
  go_wp2_with (go_at_call 26; refine HB.out.mono ?_; rintro e w5 ⟨rfl, hu⟩; have H5 := Lib.hid hu; clear hu)
  refine ddoor_panic (ib := w.heap.size) (nb := w.heap.size + 1) (eb := w.heap.size + 1 + 1) c (.tuple #[Ins.zero.val, .int .i64 0, .int .i64 c]) (fun w2 hi hn he hU => results_three' rfl (res_ins 2 w.heap.size _ rfl hi) (res_int1 3 (w.heap.size + 1) 0 3 rfl hn) (res_errno 4 (w.heap.size + 1 + 1) c rfl he)) (H5.out.get S.out.i (by simp <;> omega)) (H5.out.get S.out.n (by simp <;> omega)) (H5.out.get S.out.e (by simp)) (by omega) (by omega) (by omega) (fun w2 hU => ⟨rfl, (S.out.u.also H5.out (by simp <;> omega)).also hU (by simp <;> omega)⟩)

set_option maxRecDepth 100000 in
set_option maxHeartbeats 4000000 in
theorem Decode_ok (v : Value) (L : List Int) (g : Nat) (w : World) (hv : BArg w v L g) (i : Ins) (k : Nat) (h : dcInsn L 0 = .ok i k) :
    Calls Try.prog 12 #[v] w fun e w' => e = .returned (.tuple #[({ i with len := k } : Ins).val, .int .i64 k, .int .i64 0]) ∧ Upd [] w w' := by
  have hmo : Try.prog.follows .mixedOrders = true := by kernel_rfl
  have S := Lib.hid (DeS.start hv)
  have hb := insn_any _ g 0 v L _ S.out.d
  rw [h] at hb
  have HB := Lib.hid hb
  obtain ⟨sb, sc, rfl⟩ := hv.b.form
  clear hv h hb
  go_enter_defers Try.func12, Try.ntmps12
  go_upto_region 4 with (first | (go_at_call 26; refine HB.out.mono ?_; rintro e w5 ⟨rfl, hD5, hu⟩; have H5 := Lib.hid (And.intro hD5 hu); clear hD5 hu) | (have _t := H5; clear _t; refine at_store 28 rfl ?_; refine wpList_store_ins i w.heap.size rfl _ _ rfl rfl rfl (H5.out.2.get S.out.i (by simp <;> omega)) rfl ?_; intro w6 hw; obtain ⟨z1, z2⟩ := ins_new (S := [w.heap.size]) (w0 := w5) hw (H5.out.2.get S.out.i (by simp <;> omega)) rfl (Upd.refl _ _) (.inl (by simp)); have H6 := Lib.hid (And.intro z1 z2); clear z1 z2 hw))
  have HD6 := Lib.hid (H6.out.2.get H5.out.1.h (by simp <;> omega))
  have HN6 := Lib.hid (H6.out.2.get (H5.out.2.get S.out.n (by simp <;> omega)) (by simp <;> omega))
  have HE6 := Lib.hid (H6.out.2.get (H5.out.2.get S.out.e (by simp)) (by simp <;> omega))
  have HU6 := Lib.hid ((S.out.u.also H5.out.2 (by simp <;> omega)).also H6.out.2 (by simp))
  have cd := cells_of HD6.out
  have ci := cells_of H6.out.1
  have fi := free_of H6.out.1
  unfold Ins.cells at ci
  go_upto_region 5 with fail
  have u7 : Upd [w.heap.size] w6 (w6.setCell ⟨w.heap.size, 15, none⟩ (.int .i64 k)) := (Upd.refl _ _).setCell (by simp) _
  have HI7 := Lib.hid (show (w6.setCell ⟨w.heap.size, 15, none⟩ (.int .i64 k)).heap[w.heap.size]? = some (.cells ({ i with len := k } : Ins).cells 28 (0, 0)) from heap_set_same H6.out.1 15 (.int .i64 k))
  have HD7 := Lib.hid (u7.get HD6.out (by simp <;> omega))
  have HN7 := Lib.hid (u7.get HN6.out (by simp <;> omega))
  have HE7 := Lib.hid (u7.get HE6.out (by simp <;> omega))
  have HU7 := Lib.hid (HU6.out.also u7 (by simp))
  clear u7 cd ci fi HD6 HN6 HE6 HU6 H6 H5
  have HR := Lib.hid (DeR.mk (k := k) (i := ({ i with len := k } : Ins)) HI7.out HN7.out HE7.out HD7.out HU7.out)
  clear HI7 HN7 HE7 HD7 HU7
  refine wp_draw 6 (DeR w (.slice sb L.length sc) k ({ i with len := k } : Ins)) (fun _ _ => False) (by kernel_rfl) (by kernel_rfl) (HR.out.step (Upd.refl [] _).drew) (fun _ _ _ h => h.elim) ?_
  simp only [List.take_succ_cons, List.take_zero, List.drop_succ_cons, List.drop_zero]
  apply headW_val rfl rfl
  · intro K hK w7 hB1
    refine wp_load_ins ({ i with len := k } : Ins) w.heap.size _ rfl rfl hB1.i ?_
    go_simp
    exact hK _ hB1
  · exact ⟨_, rfl⟩
  iterate 4
    apply headW_val rfl rfl
    · intro K hK w7 hB1
      have cd := cells_of hB1.d
      have HB := Lib.hid hB1
      clear hB1
      go_wp2_with fail
      first
      | exact hK _ HB.out
      | exact HB.out
    · exact ⟨_, rfl⟩
  apply headW_val rfl rfl
  · intro K hK w7 hB1
    refine wp_store_ins ({ i with len := k } : Ins) w.heap.size _ _ rfl rfl rfl hB1.i rfl ?_
    intro w8 hw
    exact hK _ (hB1.store hw)
  · exact ⟨_, rfl⟩
  refine headW_nil (fun _ w8 hB1 => ?_)
  have cn := cells_of hB1.n
  have fn := free_of hB1.n
  have ce := cells_of hB1.e
  have fe := free_of hB1.e
  have HB := Lib.hid hB1
  clear hB1
  go_wp2_with fail
  refine ddoor_ret (ib := w.heap.size) (nb := w.heap.size + 1) (eb := w.heap.size + 1 + 1) (.tuple #[({ i with len := k } : Ins).val, .int .i64 k, .int .i64 0]) (results_three' rfl (res_ins 2 w.heap.size _ rfl ?_) (res_int1 3 (w.heap.size + 1) k 3 rfl ?_) (res_errno 4 (w.heap.size + 1 + 1) 0 rfl ?_)) ⟨rfl, ?_⟩
  · exact heap_set_keep _ (by simp <;> omega) (heap_set_keep _ (by simp <;> omega) HB.out.i)
  · exact heap_set_keep _ (by simp <;> omega) (heap_set_same HB.out.n 0 (.int .i64 k))
  · exact heap_set_same (heap_set_keep (a := ⟨w.heap.size + 1, 0, none⟩) (.int .i64 k) (by simp) HB.out.e) 0 (.int .i64 0)
  · exact (HB.out.u.setCell (.inr (by simp)) _).setCell (.inr (by simp <;> omega)) _

theorem Decode_any (v : Value) (L : List Int) (g : Nat) (w : World) (hv : BArg w v L g) :
    Calls Try.prog 12 #[v] w fun e w' => e = .returned (.tuple #[(decI L).val, .int .i64 (decN L), .int .i64 (decE L)]) ∧ Upd [] w w' := by
  cases h : dcInsn L 0 with
  | err c => simp only [decI, decN, decE, h]; exact Decode_bad v L g w hv c h
  | ok i k => simp only [decI, decN, decE, h]; exact Decode_ok v L g w hv i k h

end Go.Proofs.Ytpockhoacfkjaaa
