/-
  Package decode: the deferred recovery of Decode, Decode, Kind: each by its contract.
-/
import Derived.Test.YteiplidhkelkbaaMg14
import Derived.Recover
import Derived.Test.YteiplidhkelkbaaMg01
import Derived.Maps.AppendAt
import Derived.OwnWalk
import Derived.ChangeSlices
import Derived.Test.YteiplidhkelkbaaMg03
import Derived.ChangeKeysEq
import Derived.Lib.SliceRun
import Derived.Test.YteiplidhkelkbaaMg04
import Derived.Test.YteiplidhkelkbaaMg06
namespace Go.Proofs.Yteiplidhkelkbaa
open Go Go.RowKit
set_option linter.unusedVariables false
set_option linter.unusedSimpArgs false

theorem assert_errno (v : Value) (w : World) : (Instr.typeAssert (.iface 25 v) 20 25 true).run Try.prog w = .ok (.tuple #[v, .bool true]) w := by
  unfold Instr.typeAssert
  simp [Sem.run_bind]

set_option maxRecDepth 100000 in
set_option maxHeartbeats 2000000 in
theorem dcaught_panicking (ib nb eb : Nat) (i : Ins) (n0 e0 : Value) (c : Int) (older : List PanicEntry) (w : World)
    (hi : w.heap[ib]? = some (.cells i.cells 38 (0, 0))) (hn : w.heap[nb]? = some (.cells #[n0] 3 (0, 0))) (he : w.heap[eb]? = some (.cells #[e0] 25 (0, 0))) (h1 : ib ≠ nb) (h2 : ib ≠ eb) (h3 : nb ≠ eb) :
    CallsD Try.prog 26 #[.pointer (some ⟨ib, 0, none⟩), .pointer (some ⟨nb, 0, none⟩), .pointer (some ⟨eb, 0, none⟩)] (.panicking ({ v := .iface 25 (.int .i64 c), recovered := false } :: older)) w fun e u' w' =>
      e = .returned (.tuple #[]) ∧ u' = .panicking ({ v := .iface 25 (.int .i64 c), recovered := true } :: older) ∧
        w'.heap[ib]? = some (.cells Ins.zero.cells 38 (0, 0)) ∧ w'.heap[nb]? = some (.cells #[.int .i64 0] 3 (0, 0)) ∧ w'.heap[eb]? = some (.cells #[.int .i64 c] 25 (0, 0)) ∧ Upd [ib, nb, eb] w w' := by
  refine callsD_of_wpS Try.func26 rfl fun c₀ cs hu => ?_
  simp only [Try.ntmps26, List.size_toArray, List.length_cons, List.length_nil, Nat.reduceAdd, Nat.reduceSub, Array.replicate_succ, Array.replicate_zero, List.push_toArray, List.append_toArray, List.nil_append, List.cons_append]
  apply wpS_seq
  apply wpS_region
  simp [wpOpsS, go_sem, recoverD, hu, Try.ntmps26, Exit.thenS]
  refine wpS_of_wp ?_
  clear hu
  have HI := Lib.hid hi
  have HN := Lib.hid hn
  have HE := Lib.hid he
  have hta := assert_errno
  clear hi hn he
  go_wp2_with (refine at_store 38 rfl ?_; refine wpList_store_ins Ins.zero ib rfl _ _ rfl rfl rfl HI.out rfl ?_; intro w2 hw; obtain ⟨z1, z2⟩ := ins_new (S := [ib]) (w0 := w) hw HI.out rfl (Upd.refl _ _) (.inl (by simp)); have Z := Lib.hid (And.intro z1 z2); have gn := z2.get HN.out (by simpa using h1.symm); have ge := z2.get HE.out (by simpa using h2.symm); have cn := cells_of gn; have fn := free_of gn; have ce := cells_of ge; have fe := free_of ge; have GN := Lib.hid (And.intro gn ge); clear gn ge z1 z2 hw)
  refine ⟨rfl, _, rfl, _, results_none rfl _ _ _, rfl, rfl, ?_, ?_, ?_, ?_⟩
  · exact heap_set_keep _ h2 (heap_set_keep _ h1 Z.out.1)
  · exact heap_set_keep _ h3 (heap_set_same GN.out.1 0 (.int .i64 0))
  · exact heap_set_same (heap_set_keep (a := ⟨nb, 0, none⟩) (.int .i64 0) h3.symm GN.out.2) 0 (.int .i64 c)
  · exact ((Z.out.2.mono (by simp)).setCell (by simp) _).setCell (by simp) _

set_option maxRecDepth 100000 in
set_option maxHeartbeats 1000000 in
theorem dcaught_idle (ib nb eb : Nat) (w : World) :
    CallsD Try.prog 26 #[.pointer (some ⟨ib, 0, none⟩), .pointer (some ⟨nb, 0, none⟩), .pointer (some ⟨eb, 0, none⟩)] .returning w fun e u' w' => e = .returned (.tuple #[]) ∧ u' = .returning ∧ w = w' := by
  refine callsD_of_wpS Try.func26 rfl fun c₀ cs hu => ?_
  simp only [Try.ntmps26, List.size_toArray, List.length_cons, List.length_nil, Nat.reduceAdd, Nat.reduceSub, Array.replicate_succ, Array.replicate_zero, List.push_toArray, List.append_toArray, List.nil_append, List.cons_append]
  apply wpS_seq
  apply wpS_region
  simp [wpOpsS, go_sem, recoverD, hu, Try.ntmps26, Exit.thenS]
  refine wpS_of_wp ?_
  have HU := Lib.hid hu
  clear hu
  go_wp2_with fail
  refine ⟨rfl, .returning, ?_, _, results_none rfl _ _ _, rfl, rfl, rfl⟩
  rw [← HU.out]

def dDefers (ib nb eb : Nat) : List Deferred :=
  [{ target := .fn (.func 26) #[.pointer (some ⟨ib, 0, none⟩), .pointer (some ⟨nb, 0, none⟩), .pointer (some ⟨eb, 0, none⟩)], args := #[] }]

theorem ddoor_panic {fn : Func} {tmps : Array Value} {R : Ending → World → Prop} {w1 : World} {ib nb eb : Nat} {i : Ins} {n0 e0 : Value} (c : Int) (V : Value)
    (hres : ∀ w2, w2.heap[ib]? = some (.cells Ins.zero.cells 38 (0, 0)) → w2.heap[nb]? = some (.cells #[.int .i64 0] 3 (0, 0)) → w2.heap[eb]? = some (.cells #[.int .i64 c] 25 (0, 0)) → Upd [ib, nb, eb] w1 w2 → (results fn tmps).run Try.prog w2 = .ok V w2)
    (hi : w1.heap[ib]? = some (.cells i.cells 38 (0, 0))) (hn : w1.heap[nb]? = some (.cells #[n0] 3 (0, 0))) (he : w1.heap[eb]? = some (.cells #[e0] 25 (0, 0))) (h1 : ib ≠ nb) (h2 : ib ≠ eb) (h3 : nb ≠ eb)
    (hR : ∀ w2, Upd [ib, nb, eb] w1 w2 → R (.returned V) w2) :
    Leaves Try.prog fn tmps R (dDefers ib nb eb) (.panicking [{ v := .iface 25 (.int .i64 c), recovered := false }]) w1 := by
  refine leaves_cons (f := 26) (args := #[.pointer (some ⟨ib, 0, none⟩), .pointer (some ⟨nb, 0, none⟩), .pointer (some ⟨eb, 0, none⟩)]) (by simp) (by simp [go_sem]) ?_
  refine (dcaught_panicking ib nb eb i _ _ c [] w1 hi hn he h1 h2 h3).mono ?_
  rintro e u' w2 ⟨rfl, rfl, hi, hn, he, hU⟩
  simp only [settle, List.dropWhile_nil]
  exact ⟨_, hres w2 hi hn he hU, hR _ hU⟩

theorem ddoor_ret {fn : Func} {tmps : Array Value} {R : Ending → World → Prop} {w1 : World} {ib nb eb : Nat} (V : Value) (hres : (results fn tmps).run Try.prog w1 = .ok V w1) (hR : R (.returned V) w1) :
    Leaves Try.prog fn tmps R (dDefers ib nb eb) .returning w1 := by
  refine leaves_cons (f := 26) (args := #[.pointer (some ⟨ib, 0, none⟩), .pointer (some ⟨nb, 0, none⟩), .pointer (some ⟨eb, 0, none⟩)]) (by simp) (by simp [go_sem]) ?_
  refine (dcaught_idle _ _ _ w1).mono ?_
  rintro e u' w2 ⟨rfl, rfl, rfl⟩
  simp only [settle]
  exact ⟨_, hres, hR⟩

theorem res_int1 {tmps : Array Value} {w : World} (a : Tmp) (b : Nat) (n : Int) (t : TypeId) (ha : tmps.getD a undef = .pointer (some ⟨b, 0, none⟩)) (hb : w.heap[b]? = some (.cells #[.int .i64 n] 3 (0, 0))) : (resRun tmps (.cell a 3)).run Try.prog w = .ok (.int .i64 n) w := by
  have hc : w.cell? ⟨b, 0, none⟩ = some (.int .i64 n) := by rw [cells_of hb]; rfl
  simp only [resRun, Sem.run_bind, ha]
  simp [asAddr, go_sem, hc]

theorem res_errno {tmps : Array Value} {w : World} (a : Tmp) (b : Nat) (n : Int) (ha : tmps.getD a undef = .pointer (some ⟨b, 0, none⟩)) (hb : w.heap[b]? = some (.cells #[.int .i64 n] 25 (0, 0))) : (resRun tmps (.cell a 25)).run Try.prog w = .ok (.int .i64 n) w := by
  have hc : w.cell? ⟨b, 0, none⟩ = some (.int .i64 n) := by rw [cells_of hb]; rfl
  simp only [resRun, Sem.run_bind, ha]
  simp [asAddr, go_sem, hc]

/-- A slice of bytes as an argument. -/
structure BArg (w : World) (v : Value) (L : List Int) (g : Nat) : Prop where
  b : BySl w v L g
  n : L.length ≤ maxLen
  r : BOk L
  c : ∀ b n c, v = .slice b n c → n ≤ c
  g : g ≤ w.heap.size

theorem wp_load_ins {op : Oper} {a : Act} {w : World} {K : Act → World → Prop} {Q : Exit → Act → World → Prop} (i : Ins) (b : Nat) (x : Operand) (ho : op.op = .load 38 x) (hx : a.eval x = .pointer (some ⟨b, 0, none⟩))
    (hb : w.heap[b]? = some (.cells i.cells 38 (0, 0))) (hK : K (a.put op.dst (.agg i.cells)) w) : op.wp Try.prog a w K Q :=
  wp_load_mid 38 x ho b 0 hx i.cells.toList _ (range_whole hb) Try.underlying38 rfl (by rw [Array.length_toList, Ins.size]; exact ins_info) (by rw [Array.toArray_toList]; exact hK)

theorem wp_store_ins {op : Oper} {a : Act} {w : World} {K : Act → World → Prop} {Q : Exit → Act → World → Prop} (i : Ins) (b : Nat) (x y : Operand) (ho : op.op = .store 38 x y) (hx : a.eval x = .pointer (some ⟨b, 0, none⟩)) (hy : a.eval y = .agg i.cells)
    {c : Array Value} (hb : w.heap[b]? = some (.cells c 38 (0, 0))) (hc : c.size = 16) (hK : ∀ w', w.setCells b 0 i.cells.toList = w' → K (a.put op.dst undef) w') : op.wp Try.prog a w K Q := by
  refine wp_store_mid 38 x y ho b 0 i.cells hx hy (there_of hb 0 i.cells.size (by rw [hc, Ins.size]; exact Nat.le_refl _)) (by rw [Ins.size]; exact ins_info) i.one ?_
  exact hK _ rfl

/-- Where Decode stores its results. -/
structure DeR (w : World) (v : Value) (k : Nat) (i : Ins) (w1 : World) : Prop where
  i : w1.heap[w.heap.size]? = some (.cells i.cells 38 (0, 0))
  n : w1.heap[w.heap.size + 1]? = some (.cells #[.int .i64 0] 3 (0, 0))
  e : w1.heap[w.heap.size + 1 + 1]? = some (.cells #[.int .i64 0] 25 (0, 0))
  d : w1.heap[w.heap.size + 1 + 1 + 1]? = some (.cells #[v, .int .i64 k] 73 (0, 0))
  u : Upd [] w w1

theorem DeR.step {w w1 w2 : World} {v : Value} {k : Nat} {i : Ins} (h : DeR w v k i w1) (u : Upd [] w1 w2) : DeR w v k i w2 :=
  ⟨u.get h.i (by simp), u.get h.n (by simp), u.get h.e (by simp), u.get h.d (by simp), h.u.also u (by simp)⟩

theorem DeR.store {w w1 w2 : World} {v : Value} {k : Nat} {i : Ins} (h : DeR w v k i w1) (hw : w1.setCells w.heap.size 0 i.cells.toList = w2) : DeR w v k i w2 := by
  obtain ⟨z1, u⟩ := ins_new (S := [w.heap.size]) (w0 := w1) hw h.i rfl (Upd.refl _ _) (.inl (by simp))
  exact ⟨z1, u.get h.n (by simp), u.get h.e (by simp <;> omega), u.get h.d (by simp <;> omega), h.u.also u (by simp)⟩

/-- Where Decode stands: its results' variables, its decoder. -/
structure DeS (w : World) (v : Value) (L : List Int) (g k : Nat) (i : Ins) (w1 : World) : Prop where
  i : w1.heap[w.heap.size]? = some (.cells i.cells 38 (0, 0))
  n : w1.heap[w.heap.size + 1]? = some (.cells #[.int .i64 0] 3 (0, 0))
  e : w1.heap[w.heap.size + 1 + 1]? = some (.cells #[.int .i64 0] 25 (0, 0))
  d : IsDec w1 (w.heap.size + 1 + 1 + 1) v L g k
  u : Upd [] w w1

theorem DeS.start {w : World} {v : Value} {L : List Int} {g : Nat} (hv : BArg w v L g) :
    DeS w v L g 0 Ins.zero ((((w.alloc (.cells Ins.zero.cells 38)).alloc (.cells #[.int .i64 0] 3)).alloc (.cells #[.int .i64 0] 25)).alloc (.cells #[v, .int .i64 0] 73)) := by
  have u : Upd [] w ((((w.alloc (.cells Ins.zero.cells 38)).alloc (.cells #[.int .i64 0] 3)).alloc (.cells #[.int .i64 0] 25)).alloc (.cells #[v, .int .i64 0] 73)) := ((((Upd.refl [] w).alloc _).alloc _).alloc _).alloc _
  have h1 := heap_alloc_keep (.cells #[v, .int .i64 0] 73) (heap_alloc_keep (.cells #[.int .i64 0] 25) (heap_alloc2_new w (.cells Ins.zero.cells 38) (.cells #[.int .i64 0] 3)))
  have h2 := heap_alloc_keep (.cells #[v, .int .i64 0] 73) (heap_alloc2_new (w.alloc (.cells Ins.zero.cells 38)) (.cells #[.int .i64 0] 3) (.cells #[.int .i64 0] 25))
  have h3 := heap_alloc2_new ((w.alloc (.cells Ins.zero.cells 38)).alloc (.cells #[.int .i64 0] 3)) (.cells #[.int .i64 0] 25) (.cells #[v, .int .i64 0] 73)
  refine ⟨heap_alloc_keep _ (heap_alloc_keep _ (heap_alloc_keep _ (heap_alloc_new _ _))), h1, by simpa using h2, ⟨by simpa using h3, hv.b.keep u (by simp), Nat.zero_le _, hv.n, by have := hv.g; omega, hv.r, hv.c⟩, u⟩

set_option maxRecDepth 100000 in
set_option maxHeartbeats 4000000 in
theorem Decode_bad (v : Value) (L : List Int) (g : Nat) (w : World) (hv : BArg w v L g) (c : Int) (h : dcInsn L 0 = .err c) :
    Calls Try.prog 23 #[v] w fun e w' => e = .returned (.tuple #[Ins.zero.val, .int .i64 0, .int .i64 c]) ∧ Upd [] w w' := by
  have S := Lib.hid (DeS.start hv)
  have hb := insn_any _ g 0 v L _ S.out.d
  rw [h] at hb
  have HB := Lib.hid hb
  obtain ⟨sb, sc, rfl⟩ := hv.b.form
  clear hv h hb
  go_enter_defers Try.func23, Try.ntmps23
  go_wp2_with (go_at_call 27; refine HB.out.mono ?_; rintro e w5 ⟨rfl, hu⟩; have H5 := Lib.hid hu; clear hu)
  refine ddoor_panic (ib := w.heap.size) (nb := w.heap.size + 1) (eb := w.heap.size + 1 + 1) c (.tuple #[Ins.zero.val, .int .i64 0, .int .i64 c]) (fun w2 hi hn he hU => results_three' rfl (res_ins 2 w.heap.size _ rfl hi) (res_int1 3 (w.heap.size + 1) 0 3 rfl hn) (res_errno 4 (w.heap.size + 1 + 1) c rfl he)) (H5.out.get S.out.i (by simp <;> omega)) (H5.out.get S.out.n (by simp <;> omega)) (H5.out.get S.out.e (by simp)) (by omega) (by omega) (by omega) (fun w2 hU => ⟨rfl, (S.out.u.also H5.out (by simp <;> omega)).also hU (by simp <;> omega)⟩)

set_option maxRecDepth 100000 in
set_option maxHeartbeats 4000000 in
theorem Decode_ok (v : Value) (L : List Int) (g : Nat) (w : World) (hv : BArg w v L g) (i : Ins) (k : Nat) (h : dcInsn L 0 = .ok i k) :
    Calls Try.prog 23 #[v] w fun e w' => e = .returned (.tuple #[({ i with len := k } : Ins).val, .int .i64 k, .int .i64 0]) ∧ Upd [] w w' := by
  have hmo : Try.prog.follows .mixedOrders = true := by kernel_rfl
  have S := Lib.hid (DeS.start hv)
  have hb := insn_any _ g 0 v L _ S.out.d
  rw [h] at hb
  have HB := Lib.hid hb
  obtain ⟨sb, sc, rfl⟩ := hv.b.form
  clear hv h hb
  go_enter_defers Try.func23, Try.ntmps23
  go_upto_region 4 with (first | (go_at_call 27; refine HB.out.mono ?_; rintro e w5 ⟨rfl, hD5, hu⟩; have H5 := Lib.hid (And.intro hD5 hu); clear hD5 hu) | (have _t := H5; clear _t; refine at_store 38 rfl ?_; refine wpList_store_ins i w.heap.size rfl _ _ rfl rfl rfl (H5.out.2.get S.out.i (by simp <;> omega)) rfl ?_; intro w6 hw; obtain ⟨z1, z2⟩ := ins_new (S := [w.heap.size]) (w0 := w5) hw (H5.out.2.get S.out.i (by simp <;> omega)) rfl (Upd.refl _ _) (.inl (by simp)); have H6 := Lib.hid (And.intro z1 z2); clear z1 z2 hw))
  have HD6 := Lib.hid (H6.out.2.get H5.out.1.h (by simp <;> omega))
  have HN6 := Lib.hid (H6.out.2.get (H5.out.2.get S.out.n (by simp <;> omega)) (by simp <;> omega))
  have HE6 := Lib.hid (H6.out.2.get (H5.out.2.get S.out.e (by simp)) (by simp <;> omega))
  have HU6 := Lib.hid ((S.out.u.also H5.out.2 (by simp <;> omega)).also H6.out.2 (by simp))
  have cd := cells_of HD6.out
  have ci := cells_of H6.out.1
  have fi := free_of H6.out.1
  unfold Ins.cells at ci
  go_upto_region 5 with fail
  have u7 : Upd [w.heap.size] w6 (w6.setCell ⟨w.heap.size, 15, none⟩ (.int .i64 k)) := (Upd.refl _ _).setCell (by simp) _
  have HI7 := Lib.hid (show (w6.setCell ⟨w.heap.size, 15, none⟩ (.int .i64 k)).heap[w.heap.size]? = some (.cells ({ i with len := k } : Ins).cells 38 (0, 0)) from heap_set_same H6.out.1 15 (.int .i64 k))
  have HD7 := Lib.hid (u7.get HD6.out (by simp <;> omega))
  have HN7 := Lib.hid (u7.get HN6.out (by simp <;> omega))
  have HE7 := Lib.hid (u7.get HE6.out (by simp <;> omega))
  have HU7 := Lib.hid (HU6.out.also u7 (by simp))
  clear u7 cd ci fi HD6 HN6 HE6 HU6 H6 H5
  have HR := Lib.hid (DeR.mk (k := k) (i := ({ i with len := k } : Ins)) HI7.out HN7.out HE7.out HD7.out HU7.out)
  clear HI7 HN7 HE7 HD7 HU7
  refine wp_draw 6 (DeR w (.slice sb L.length sc) k ({ i with len := k } : Ins)) (fun _ _ => False) (by kernel_rfl) (by kernel_rfl) (HR.out.step (Upd.refl [] _).drew) (fun _ _ _ h => h.elim) ?_
  simp only [List.take_succ_cons, List.take_zero, List.drop_succ_cons, List.drop_zero]
  apply headW_val rfl rfl
  · intro K hK w7 hB1
    refine wp_load_ins ({ i with len := k } : Ins) w.heap.size _ rfl rfl hB1.i ?_
    go_simp
    exact hK _ hB1
  · exact ⟨_, rfl⟩
  iterate 4
    apply headW_val rfl rfl
    · intro K hK w7 hB1
      have cd := cells_of hB1.d
      have HB := Lib.hid hB1
      clear hB1
      go_wp2_with fail
      first
      | exact hK _ HB.out
      | exact HB.out
    · exact ⟨_, rfl⟩
  apply headW_val rfl rfl
  · intro K hK w7 hB1
    refine wp_store_ins ({ i with len := k } : Ins) w.heap.size _ _ rfl rfl rfl hB1.i rfl ?_
    intro w8 hw
    exact hK _ (hB1.store hw)
  · exact ⟨_, rfl⟩
  refine headW_nil (fun _ w8 hB1 => ?_)
  have cn := cells_of hB1.n
  have fn := free_of hB1.n
  have ce := cells_of hB1.e
  have fe := free_of hB1.e
  have HB := Lib.hid hB1
  clear hB1
  go_wp2_with fail
  refine ddoor_ret (ib := w.heap.size) (nb := w.heap.size + 1) (eb := w.heap.size + 1 + 1) (.tuple #[({ i with len := k } : Ins).val, .int .i64 k, .int .i64 0]) (results_three' rfl (res_ins 2 w.heap.size _ rfl ?_) (res_int1 3 (w.heap.size + 1) k 3 rfl ?_) (res_errno 4 (w.heap.size + 1 + 1) 0 rfl ?_)) ⟨rfl, ?_⟩
  · exact heap_set_keep _ (by simp <;> omega) (heap_set_keep _ (by simp <;> omega) HB.out.i)
  · exact heap_set_keep _ (by simp <;> omega) (heap_set_same HB.out.n 0 (.int .i64 k))
  · exact heap_set_same (heap_set_keep (a := ⟨w.heap.size + 1, 0, none⟩) (.int .i64 k) (by simp) HB.out.e) 0 (.int .i64 0)
  · exact (HB.out.u.setCell (.inr (by simp)) _).setCell (.inr (by simp <;> omega)) _

theorem Decode_any (v : Value) (L : List Int) (g : Nat) (w : World) (hv : BArg w v L g) :
    Calls Try.prog 23 #[v] w fun e w' => e = .returned (.tuple #[(decI L).val, .int .i64 (decN L), .int .i64 (decE L)]) ∧ Upd [] w w' := by
  cases h : dcInsn L 0 with
  | err c => simp only [decI, decN, decE, h]; exact Decode_bad v L g w hv c h
  | ok i k => simp only [decI, decN, decE, h]; exact Decode_ok v L g w hv i k h

end Go.Proofs.Yteiplidhkelkbaa

/-
  Slices of bytes: those that a law is given, those that it makes itself, grown by append. No condition.
-/
namespace Go.Proofs.Yteiplidhkelkbaa
open Go Go.RowKit Go.WideShapes Go.ChangeShapes
set_option linter.unusedVariables false
set_option linter.unusedSimpArgs false

theorem BOk.app {L M : List Int} (h : BOk L) (k : BOk M) : BOk (L ++ M) := by
  intro i
  rw [List.getD_eq_getElem?_getD]
  by_cases hi : i < L.length
  · rw [List.getElem?_append_left hi, ← List.getD_eq_getElem?_getD]; exact h i
  · rw [List.getElem?_append_right (by omega), ← List.getD_eq_getElem?_getD]; exact k _

theorem BOk.take {L : List Int} (h : BOk L) (n : Nat) : BOk (L.take n) := by
  intro i
  rw [List.getD_eq_getElem?_getD, List.getElem?_take]
  split
  · rw [← List.getD_eq_getElem?_getD]; exact h i
  · simp

theorem BArg.keep {w w' : World} {v : Value} {L : List Int} {g : Nat} (h : BArg w v L g) (u : Upd [] w w') : BArg w' v L g :=
  ⟨h.b.keep u (by simp), h.n, h.r, h.c, Nat.le_trans h.g u.size⟩

/-- A row of bytes of the walk's own. -/
def Own (w : World) (base : Nat) (v : Value) (L : List Int) : Prop := w.ownsRow base 5 1 v L.length (L.map (Value.int .u8))

theorem own_nil (w : World) (base : Nat) : Own w base (.slice none 0 0) [] := ⟨rfl, .inl ⟨rfl, rfl⟩⟩

theorem own_lit (w : World) (base : Nat) (L : List Int) (C : Array Value) (hC : C.toList = L.map (.int .u8)) (hb : base ≤ w.heap.size) (hn : L.length ≤ maxLen) :
    Own (w.alloc (.cells C 5)) base (.slice (some ⟨w.heap.size, 0, none⟩) L.length L.length) L := by
  have hs : C.size = L.length := by rw [← Array.length_toList, hC, List.length_map]
  refine ⟨by simp, .inr ⟨w.heap.size, L.length, C, rfl, hb, heap_alloc_new w _, Nat.le_refl _, hn, by omega, ?_⟩⟩
  rw [hC, Nat.mul_one, List.take_of_length_le (by simp)]

theorem Own.barg {w : World} {base : Nat} {v : Value} {L : List Int} (h : Own w base v L) (hr : BOk L) (hn : L.length ≤ maxLen) : ∃ g, BArg w v L g ∧ (v.ownBlock = none ∨ (v.ownBlock = some g ∧ base ≤ g ∧ g < w.heap.size)) := by
  rcases h.2 with ⟨rfl, h0⟩ | ⟨g, cap, cur, rfl, hb, hg, hnc, hcm, hs, ht⟩
  · have : L = [] := List.eq_nil_of_length_eq_zero h0
    subst this
    exact ⟨0, ⟨.inl ⟨rfl, rfl⟩, Nat.zero_le _, hr, fun b n c e => by injection e; omega, Nat.zero_le _⟩, .inl rfl⟩
  · refine ⟨g, ⟨.inr ⟨0, cap, cur, _, _, rfl, hg, fun i hi => ?_⟩, hn, hr, fun b n c e => by injection e; omega, Nat.le_of_lt (lt_of_heap hg)⟩, .inr ⟨rfl, hb, lt_of_heap hg⟩⟩
    have e : (cur.toList.take (L.length * 1))[i]? = some (.int .u8 (L.getD i 0)) := by
      rw [ht, List.getElem?_map, List.getD_eq_getElem?_getD, List.getElem?_eq_getElem hi]; rfl
    rw [Nat.mul_one, List.getElem?_take, if_pos hi, Array.getElem?_toList] at e
    rw [Nat.zero_add]; exact e

theorem Own.keep {w w' : World} {base : Nat} {v : Value} {L : List Int} {S : List Nat} (h : Own w base v L) (u : Upd S w w') (hS : ∀ g, v.ownBlock = some g → g ∉ S) : Own w' base v L := by
  refine ⟨h.1, ?_⟩
  rcases h.2 with h0 | ⟨g, cap, cur, rfl, hb, hg, hr⟩
  · exact .inl h0
  · exact .inr ⟨g, cap, cur, rfl, hb, u.get hg (hS g rfl), hr⟩

theorem Own.block {w : World} {base : Nat} {v : Value} {L : List Int} (h : Own w base v L) : ∀ g, v.ownBlock = some g → base ≤ g ∧ g < w.heap.size := by
  intro g e
  rcases h.2 with ⟨rfl, _⟩ | ⟨g', cap, cur, rfl, hb, hg, hr⟩
  · cases e
  · simp only [Value.ownBlock, Option.some.injEq] at e
    subst e
    exact ⟨hb, lt_of_heap hg⟩

theorem own_other {w : World} {base : Nat} {v : Value} {L : List Int} (h : Own w base v L) {b : Nat} {c : Array Value} {t : TypeId} {f : Nat × Nat} (hb : w.heap[b]? = some (.cells c t f)) (ht : t ≠ 5) : v.ownBlock ≠ some b := by
  intro e
  rcases h.2 with ⟨rfl, _⟩ | ⟨g', cap, cur, rfl, _, hg, hr⟩
  · cases e
  · simp only [Value.ownBlock, Option.some.injEq] at e
    subst e
    rw [hb] at hg
    injection hg with hg
    injection hg with _ h1
    exact ht h1

/-- What an append leaves. -/
structure Grew (w : World) (base : Nat) (v : Value) (L : List Int) (v' : Value) (w' : World) : Prop where
  o : Own w' base v' L
  u : Upd v.ownBlock.toList w w'
  b : v'.ownBlock = v.ownBlock ∨ v'.ownBlock = some w.heap.size

theorem run_append_by (w : World) (base : Nat) (ty : TypeId) (v : Value) (L : List Int) (hown : Own w base v L) (vb : Value) (M : List Int) (g : Nat) (hb : BySl w vb M g) (hn : L.length + M.length ≤ 10000) (hbase : base ≤ w.heap.size) :
    ∃ v' w', (Builtin.append_ #[28, 28] ty #[v, vb]).run Try.prog w = .ok v' w' ∧ Grew w base v (L ++ M) v' w' := by
  obtain ⟨i, hi, hz0, hz1, hz2⟩ := info_parts info_u8
  have key : ∀ (a : Addr) (m c : Nat), M.length = m → (∀ j u, (M.map (Value.int .u8))[j]? = some u → w.cell? (a.add j) = some u) → ∃ v' w', (Builtin.append_ #[28, 28] ty #[v, .slice (some a) m c]).run Try.prog w = .ok v' w' ∧ Grew w base v (L ++ M) v' w' := by
    intro a m c hm hc
    subst hm
    obtain ⟨v', w', h1, h2, h3, _, h5⟩ := run_append_own_at (P := Try.prog) w base 28 ty 5 i _ 1 1 Try.underlying28 hi hz0 hz1 hz2 rfl (by decide) v L.length _ hown a M.length c (M.map (Value.int .u8)) (by simp) hc
      (by intro u hu; simp only [List.mem_map] at hu; obtain ⟨z, _, rfl⟩ := hu; rfl) (by unfold maxLen; omega) (by omega) hbase
    refine ⟨v', w', h1, ?_, Upd.of_grown h3, h5⟩
    unfold Own
    rw [List.length_append, List.map_append]
    exact h2
  rcases hb with ⟨rfl, rfl⟩ | ⟨o, c, C, T, f, rfl, hg, hc⟩
  · refine ⟨v, w, ?_, ?_, Upd.refl _ _, .inl rfl⟩
    · rcases hown.2 with ⟨rfl, h0⟩ | ⟨g, cap, cur, rfl, _, _, hnc, _⟩
      · simp [Builtin.append_, run_underlying Try.underlying28, sizeOf, typeInfo, hi, Builtin.lenOf, Builtin.firstCells]
      · simp [Builtin.append_, run_underlying Try.underlying28, sizeOf, typeInfo, hi, Builtin.lenOf, Builtin.firstCells, hnc, storeCells]
    · rw [List.append_nil]; exact hown
  · refine key _ _ _ rfl fun j u hu => ?_
    have hj : j < M.length := by
      have := (List.getElem?_eq_some_iff.1 hu).1
      simpa using this
    rw [Addr.add_lit, cells_of hg, hc j hj]
    rw [List.getElem?_map, List.getElem?_eq_getElem hj] at hu
    simp only [Option.map_some, Option.some.injEq] at hu
    rw [List.getD_eq_getElem?_getD, List.getElem?_eq_getElem hj, Option.getD_some, hu]

theorem wpList_append_by {ops : Array Oper} {rest : List Oper} {o : Oper} {a : Act} {w : World} {Q : Exit → Act → World → Prop} (hgd : o.guard = none) (s x : Operand)
    (ho : o.op = .call { callee := .builtin .append, args := #[s, x], argTypes := #[28, 28] })
    (base : Nat) (v : Value) (L : List Int) (hs : a.eval s = v) (hown : Own w base v L) (vb : Value) (M : List Int) (g : Nat) (hx : a.eval x = vb) (hb : BySl w vb M g) (hn : L.length + M.length ≤ 10000) (hbase : base ≤ w.heap.size)
    (h : ∀ v' w', Grew w base v (L ++ M) v' w' → wpList Try.prog ops Q rest (a.put o.dst v') w') : wpList Try.prog ops Q (o :: rest) a w := by
  refine wpList_plain hgd fun _ hK => ?_
  obtain ⟨v', w', hr, h2⟩ := run_append_by w base o.type v L hown vb M g hb hn hbase
  unfold Oper.wp execOp
  simp only [ho, resolve, invoke, builtin, Sem.run_bind, Sem.run_pure, Result.andThen_ok, List.map_toArray, List.map_cons, List.map_nil, hs, hx, hr]
  exact hK _ _ (h v' w' h2)

end Go.Proofs.Yteiplidhkelkbaa

/-
  The law DecodeGroups: the plain part.
-/
namespace Go.Proofs.Yteiplidhkelkbaa
open Go Go.RowKit
set_option linter.unusedVariables false
set_option linter.unusedSimpArgs false

/-! ### What holds along a walk: a block that stays, instructions that were laid -/
structure Gr (w : World) (bt : Nat) (o : Obj) (l : List (Nat × Ins)) (w1 : World) : Prop where
  t : w1.heap[bt]? = some o
  i : ∀ p, p ∈ l → w1.heap[p.1]? = some (.cells p.2.cells 38 (0, 0))
  u : Upd [] w w1
  n : w.heap.size ≤ bt

theorem Gr.step {w w1 w2 : World} {bt : Nat} {o : Obj} {l : List (Nat × Ins)} (h : Gr w bt o l w1) (u : Upd [] w1 w2) : Gr w bt o l w2 :=
  ⟨u.get h.t (by simp), fun p hp => u.get (h.i p hp) (by simp), h.u.also u (by simp), h.n⟩

theorem Gr.lay {w w1 w2 : World} {bt : Nat} {o : Obj} {l : List (Nat × Ins)} (h : Gr w bt o l w1) (j : Ins) (hw : (w1.alloc (.cells Ins.zero.cells 38)).setCells w1.heap.size 0 j.cells.toList = w2) : Gr w bt o ((w1.heap.size, j) :: l) w2 := by
  obtain ⟨z1, z2⟩ := ins_new (S := []) (w0 := w1) hw (heap_alloc_new w1 (.cells Ins.zero.cells 38)) rfl ((Upd.refl [] w1).alloc _) (.inr (Nat.le_refl _))
  have h2 := h.step z2
  refine ⟨h2.t, fun p hp => ?_, h2.u, h.n⟩
  rcases List.mem_cons.1 hp with rfl | hp
  · exact z1
  · exact h2.i p hp

theorem Gr.lt {w w1 : World} {bt : Nat} {o : Obj} {l : List (Nat × Ins)} (h : Gr w bt o l w1) : bt < w1.heap.size := lt_of_heap h.t

/-- Along a drawn region that lays an instruction (operation i) and stores into it (operation k). -/
structure GrD (w : World) (bt : Nat) (o : Obj) (l : List (Nat × Ins)) (I : Ins) (i k : Nat) (d : Nat → Bool) (r : Nat → Value) (w1 : World) : Prop where
  b : Gr w bt o l w1
  x : d i = true → ∃ g Z, r i = .pointer (some ⟨g, 0, none⟩) ∧ w1.heap[g]? = some (.cells Z 38 (0, 0)) ∧ Z.size = 16 ∧ (d k = true → Z = I.cells) ∧ g ≠ bt ∧ w.heap.size ≤ g ∧ ∀ p, p ∈ l → p.1 ≠ g
  o : d k = true → d i = true
  ne : i ≠ k

section
variable {w w1 w2 : World} {bt : Nat} {o : Obj} {l : List (Nat × Ins)} {I : Ins} {i k : Nat} {d : Nat → Bool} {r : Nat → Value}

theorem GrD.start (h : Gr w bt o l w1) (ne : i ≠ k) (r : Nat → Value) : GrD w bt o l I i k (fun _ => false) r w1 :=
  ⟨h, fun h => (by cases h), fun h => (by cases h), ne⟩

theorem GrD.quiet (h : GrD w bt o l I i k d r w1) (hu : Upd [] w1 w2) (m : Nat) (h1 : i ≠ m) (h2 : k ≠ m) : GrD w bt o l I i k (updD d m) r w2 := by
  refine ⟨h.b.step hu, fun hx => ?_, fun ho => ?_, h.ne⟩
  · rw [bD_ne h1] at hx
    obtain ⟨g, Z, e1, e2, e3, e4, e5⟩ := h.x hx
    exact ⟨g, Z, e1, hu.get e2 (by simp), e3, fun hk => e4 (by rwa [bD_ne h2] at hk), e5⟩
  · rw [bD_ne h2] at ho; rw [bD_ne h1]; exact h.o ho

theorem GrD.same (h : GrD w bt o l I i k d r w1) (m : Nat) (h1 : i ≠ m) (h2 : k ≠ m) : GrD w bt o l I i k (updD d m) r w1 := h.quiet (Upd.refl [] w1) m h1 h2

theorem GrD.lay (h : GrD w bt o l I i k d r w1) (hd : d i = false) : GrD w bt o l I i k (updD d i) (updV r i (.pointer (some ⟨w1.heap.size, 0, none⟩))) (w1.alloc (.cells Ins.zero.cells 38)) := by
  refine ⟨h.b.step ((Upd.refl [] w1).alloc _), fun _ => ⟨_, _, bV_eq, heap_alloc_new _ _, rfl, fun hk => ?_, ?_, h.b.u.size, fun p hp e => ?_⟩, fun _ => bD_eq, h.ne⟩
  · rw [bD_ne h.ne.symm] at hk
    rw [h.o hk] at hd; cases hd
  · have := h.b.lt; omega
  · have := lt_of_heap (h.b.i p hp); omega

theorem GrD.store (h : GrD w bt o l I i k d r w1) (hd : d i = true) {g : Nat} {Z : Array Value} (hg : r i = .pointer (some ⟨g, 0, none⟩)) (hb : w1.heap[g]? = some (.cells Z 38 (0, 0))) (hZ : Z.size = 16) (hn : g ≠ bt ∧ w.heap.size ≤ g ∧ ∀ p, p ∈ l → p.1 ≠ g) :
    GrD w bt o l I i k (updD d k) r (w1.setCells g 0 I.cells.toList) := by
  have hu : Upd [g] w1 (w1.setCells g 0 I.cells.toList) := (Upd.refl [g] w1).setCells (.inl (by simp)) _ _
  refine ⟨⟨hu.get h.b.t (by simp; exact fun e => hn.1 e.symm), fun p hp => hu.get (h.b.i p hp) (by simp; exact hn.2.2 p hp), h.b.u.also hu (by simp; exact hn.2.1), h.b.n⟩, fun _ => ⟨g, I.cells, hg, ?_, I.size, fun _ => rfl, hn⟩, fun _ => by rw [bD_ne h.ne]; exact hd, h.ne⟩
  rw [heap_setCells_same _ _ _ _ hb, wr_ins Z I hZ]

theorem GrD.fin (h : GrD w bt o l I i k d r w1) (hi : d i = true) (hk : d k = true) : ∃ g, r i = .pointer (some ⟨g, 0, none⟩) ∧ Gr w bt o ((g, I) :: l) w1 := by
  obtain ⟨g, Z, e1, e2, e3, e4, e5⟩ := h.x hi
  rw [e4 hk] at e2
  refine ⟨g, e1, h.b.t, fun p hp => ?_, h.b.u, h.b.n⟩
  rcases List.mem_cons.1 hp with rfl | hp
  · exact e2
  · exact h.b.i p hp
end
end Go.Proofs.Yteiplidhkelkbaa

/-
  The law DecodeNone: the plain part; what holds along the walks that make slices of bytes and decode them. No condition.
-/
namespace Go.Proofs.Yteiplidhkelkbaa
open Go Go.RowKit
set_option linter.unusedVariables false
set_option linter.unusedSimpArgs false

theorem BOk.cons {c : Int} {L : List Int} (hc : 0 ≤ c ∧ c ≤ 255) (h : BOk L) : BOk (c :: L) := by
  intro i
  cases i with
  | zero => simpa using hc
  | succ i => simpa using h i
theorem BOk.nil : BOk [] := fun i => by simp

/-- Along a walk: nothing that was there has changed; a slice of the walk's own reads as it did. -/
structure Dn (w : World) (v : Value) (L : List Int) (w1 : World) : Prop where
  u : Upd [] w w1
  o : Own w1 w.heap.size v L

section
variable {w w1 w2 : World} {v v' : Value} {L N : List Int}
theorem Dn.start (h : Upd [] w w1) : Dn w (.slice none 0 0) [] w1 := ⟨h, own_nil _ _⟩
theorem Dn.step (h : Dn w v L w1) (u : Upd [] w1 w2) : Dn w v L w2 := ⟨h.u.also u (by simp), h.o.keep u (by simp)⟩
theorem Dn.ins (h : Dn w v L w1) {j : Ins} (hw : (w1.alloc (.cells Ins.zero.cells 38)).setCells w1.heap.size 0 j.cells.toList = w2) : Dn w v L w2 := by
  obtain ⟨_, z2⟩ := ins_new (S := []) (w0 := w1) hw (heap_alloc_new w1 (.cells Ins.zero.cells 38)) rfl ((Upd.refl [] w1).alloc _) (.inr (Nat.le_refl _))
  exact h.step z2

theorem Dn.lit (h : Dn w v L w1) (C : Array Value) (N : List Int) (hC : C.toList = N.map (.int .u8)) (hn : N.length ≤ maxLen) :
    Own (w1.alloc (.cells C 5)) w.heap.size (.slice (some ⟨w1.heap.size, 0, none⟩) N.length N.length) N := own_lit w1 _ N C hC h.u.size hn

theorem Dn.app (h : Dn w v L w1) {C : Array Value} {n : Nat} (hg : Grew (w1.alloc (.cells C 5)) w.heap.size (.slice (some ⟨w1.heap.size, 0, none⟩) n n) N v' w2) : Dn w v L w2 := by
  have hu : Upd [] w w2 := (h.u.alloc _).also hg.u (by intro x hx; simp [Value.ownBlock] at hx; subst hx; exact .inr h.u.size)
  exact ⟨hu, (h.o.keep ((Upd.refl [] w1).alloc _) (by simp)).keep hg.u (by intro g e hx; simp [Value.ownBlock] at hx; have := (h.o.block g e).2; omega)⟩

/-- An append to the slice itself. -/
theorem Dn.grow (h : Dn w v L w1) (hg : Grew w1 w.heap.size v N v' w2) : Dn w v' N w2 :=
  ⟨h.u.also hg.u (by intro x hx; cases hv : v.ownBlock with | none => rw [hv] at hx; simp at hx | some g => rw [hv] at hx; simp at hx; exact .inr (by have := (h.o.block g hv).1; omega)), hg.o⟩

theorem Dn.take (h : Dn w v L w1) {C : Array Value} {n : Nat} (hg : Grew (w1.alloc (.cells C 5)) w.heap.size (.slice (some ⟨w1.heap.size, 0, none⟩) n n) N v' w2) : Dn w v' N w2 := ⟨(h.app hg).u, hg.o⟩
end
end Go.Proofs.Yteiplidhkelkbaa

/-
  The law DecodeForms: the plain part; what holds along its walk. No condition.
-/
namespace Go.Proofs.Yteiplidhkelkbaa
open Go Go.RowKit
set_option linter.unusedVariables false
set_option linter.unusedSimpArgs false

/-- Along the walk: the slice, the operand that is wanted. -/
structure Fm (w : World) (v : Value) (L : List Int) (ob : Nat) (o : Opd) (w1 : World) : Prop where
  d : Dn w v L w1
  o : w1.heap[ob]? = some (.cells o.cells 36 (0, 0))
  n : w.heap.size ≤ ob

section
variable {w w1 w2 : World} {v v' : Value} {L N : List Int} {ob : Nat} {o o' : Opd}
theorem Fm.step (h : Fm w v L ob o w1) (u : Upd [] w1 w2) : Fm w v L ob o w2 := ⟨h.d.step u, u.get h.o (by simp), h.n⟩

theorem Fm.grow (h : Fm w v L ob o w1) (hg : Grew w1 w.heap.size v N v' w2) : Fm w v' N ob o w2 := by
  refine ⟨h.d.grow hg, hg.u.get h.o ?_, h.n⟩
  intro hx
  have := own_other h.d.o h.o (by decide)
  cases hv : v.ownBlock with
  | none => rw [hv] at hx; simp at hx
  | some g => rw [hv] at hx this; simp at hx; subst hx; exact this rfl

theorem Fm.touch (h : Fm w v L ob o w1) (u : Upd [ob] w1 w2) (ho : w2.heap[ob]? = some (.cells o'.cells 36 (0, 0))) : Fm w v L ob o' w2 := by
  refine ⟨⟨h.d.u.also u (by simp; exact h.n), h.d.o.keep u ?_⟩, ho, h.n⟩
  intro g hg hx
  simp at hx
  subst hx
  exact own_other h.d.o h.o (by decide) hg

theorem Fm.set (h : Fm w v L ob o w1) (j : Nat) (x : Value) (ho : o.cells.setIfInBounds j x = o'.cells) : Fm w v L ob o' (w1.setCell ⟨ob, j, none⟩ x) := by
  have u : Upd [ob] w1 (w1.setCell ⟨ob, j, none⟩ x) := (Upd.refl _ w1).setCell (by simp) _
  have ho' := heap_set_same h.o j x
  rw [ho] at ho'
  exact h.touch u ho'

theorem Fm.all (h : Fm w v L ob o w1) (hw : w1.setCells ob 0 o'.cells.toList = w2) : Fm w v L ob o' w2 := by
  obtain ⟨z1, z2⟩ := opd_new hw h.o rfl
  exact h.touch z2 z1

theorem Fm.start {w0 : World} (h : Upd [] w w0) (C : Array Value) (N : List Int) (hC : C.toList = N.map (.int .u8)) (hn : N.length ≤ maxLen) :
    Fm w (.slice (some ⟨w0.heap.size, 0, none⟩) N.length N.length) N (w0.heap.size + 1) o ((w0.alloc (.cells C 5)).alloc (.cells o.cells 36)) := by
  have h1 := heap_alloc_new (w0.alloc (.cells C 5)) (.cells o.cells 36)
  rw [show (w0.alloc (.cells C 5)).heap.size = w0.heap.size + 1 by simp] at h1
  exact ⟨⟨(h.alloc _).alloc _, ((Dn.start h).lit C N hC hn).keep ((Upd.refl [] _).alloc _) (by simp)⟩, h1, by have := h.size; omega⟩
end

theorem Grew.form {w : World} {base : Nat} {v : Value} {L : List Int} {v' : Value} {w' : World} (h : Grew w base v L v' w') (n : Nat) (hn : L.length = n) : ∃ b c, v' = .slice b n c := by
  subst hn
  exact ownsRow_form h.o

theorem byl_lit (w : World) (M : List Int) (C : Array Value) (T : TypeId) (hC : C.toList = M.map (.int .u8)) : BySl (w.alloc (.cells C T)) (.slice (some ⟨w.heap.size, 0, none⟩) M.length M.length) M w.heap.size := by
  refine .inr ⟨0, M.length, C, T, _, rfl, heap_alloc_new w _, fun i hi => ?_⟩
  rw [Nat.zero_add, ← Array.getElem?_toList, hC, List.getElem?_map, List.getD_eq_getElem?_getD, List.getElem?_eq_getElem hi]
  rfl

end Go.Proofs.Yteiplidhkelkbaa

/-
  Package step: Fetch as plain data; by its contract. No condition.
-/
namespace Go.Proofs.Yteiplidhkelkbaa
open Go Go.RowKit
set_option linter.unusedVariables false
set_option linter.unusedSimpArgs false

/-- What a fetch makes: the instruction, the fault, whether there is one. -/
structure FeR where
  i : Ins
  f : Flt
  k : Bool

def fetchD (M : Mem) (pc : Int) : Nat → List Int → FeR
  | 0, _ => ⟨Ins.zero, ⟨4, pc, 0, 0⟩, false⟩
  | n + 1, L =>
    if decE L = 0 then ⟨decI L, Flt.zero, true⟩
    else if decE L = 90 then ⟨Ins.zero, ⟨3, pc, 0, 0⟩, false⟩
    else if decE L = 12 then ⟨Ins.zero, ⟨4, pc, 0, 0⟩, false⟩
    else if M.readK (plus pc L.length) 1 4 then fetchD M pc n (L ++ [M.readV (plus pc L.length) 1 4])
    else ⟨Ins.zero, { M.rdF (plus pc L.length) 1 4 with pc := pc }, false⟩

def fetchM (M : Mem) (pc : Int) : FeR := fetchD M pc 16 []

def feW (w : World) : World := ((w.alloc (.cells Ins.zero.cells 38)).alloc (.cells #[.int .i64 0, .int .u32 0, .int .u32 0, .int .i64 0] 32)).alloc (.cells #[.bool false] 4)
theorem feW_up (w : World) : Upd [] w (feW w) := (((Upd.refl [] w).alloc _).alloc _).alloc _
theorem feW_i (w : World) : (feW w).heap[w.heap.size]? = some (.cells Ins.zero.cells 38 (0, 0)) := heap_alloc_keep _ (heap_alloc2_old _ _ _)
theorem feW_f (w : World) : (feW w).heap[w.heap.size + 1]? = some (.cells #[.int .i64 0, .int .u32 0, .int .u32 0, .int .i64 0] 32 (0, 0)) := heap_alloc_keep _ (heap_alloc2_new _ _ _)
theorem feW_k (w : World) : (feW w).heap[w.heap.size + 1 + 1]? = some (.cells #[.bool false] 4 (0, 0)) := by
  have := heap_alloc_new ((w.alloc (.cells Ins.zero.cells 38)).alloc (.cells #[.int .i64 0, .int .u32 0, .int .u32 0, .int .i64 0] 32)) (.cells #[.bool false] 4)
  rwa [show ((w.alloc (.cells Ins.zero.cells 38)).alloc (.cells #[.int .i64 0, .int .u32 0, .int .u32 0, .int .i64 0] 32)).heap.size = w.heap.size + 2 from by simp] at this

theorem plus_lt' (x : Int) (k : Nat) : plus x k < 4294967296 := by unfold plus; omega

theorem read1_range {M : Mem} (h : M.Ok) (x r : Int) : 0 ≤ M.readV x 1 r ∧ M.readV x 1 r ≤ 255 := by
  unfold Mem.readV
  rw [show (widthI 1).toNat = 1 from rfl]
  split
  · have := h.B (plus x 0).toNat
    simp only [Mem.get]
    simp
    omega
  · decide

theorem byl_lit2 (w : World) (O : Obj) (x : Int) (T : TypeId) : BySl ((w.alloc O).alloc (.cells #[.int .u8 x] T)) (.slice (some ⟨w.heap.size + 1, 0, none⟩) 1 1) [x] (w.heap.size + 1) := by
  have h := byl_lit (w.alloc O) [x] #[.int .u8 x] T rfl
  rwa [show (w.alloc O).heap.size = w.heap.size + 1 from by simp] at h

/-- Along the loop: the results' variables as they were; the bytes so far. -/
structure FeS (w : World) (v : Value) (L : List Int) (wr : World) : Prop where
  d : Dn (feW w) v L wr
  r : BOk L
  n : L.length ≤ 16

section
variable {w w1 w2 : World} {v : Value} {L : List Int}
theorem FeS.up (h : FeS w v L w1) : Upd [] w w1 := (feW_up w).also h.d.u (by simp)
theorem FeS.i (h : FeS w v L w1) : w1.heap[w.heap.size]? = some (.cells Ins.zero.cells 38 (0, 0)) := h.d.u.get (feW_i w) (by simp)
theorem FeS.f (h : FeS w v L w1) : w1.heap[w.heap.size + 1]? = some (.cells #[.int .i64 0, .int .u32 0, .int .u32 0, .int .i64 0] 32 (0, 0)) := h.d.u.get (feW_f w) (by simp)
theorem FeS.k (h : FeS w v L w1) : w1.heap[w.heap.size + 1 + 1]? = some (.cells #[.bool false] 4 (0, 0)) := h.d.u.get (feW_k w) (by simp)
theorem FeS.step (h : FeS w v L w1) (u : Upd [] w1 w2) : FeS w v L w2 := ⟨h.d.step u, h.r, h.n⟩
theorem FeS.ins (h : FeS w v L w1) {j : Ins} (hw : (w1.alloc (.cells Ins.zero.cells 38)).setCells w1.heap.size 0 j.cells.toList = w2) : FeS w v L w2 ∧ w2.heap[w1.heap.size]? = some (.cells j.cells 38 (0, 0)) := by
  obtain ⟨z1, z2⟩ := ins_new (S := []) (w0 := w1) hw (heap_alloc_new w1 (.cells Ins.zero.cells 38)) rfl ((Upd.refl [] w1).alloc _) (.inr (Nat.le_refl _))
  exact ⟨h.step z2, z1⟩
theorem FeS.grow {v' : Value} {x : Int} (h : FeS w v L w1) (hg : Grew w1 (feW w).heap.size v (L ++ [x]) v' w2) (hx : 0 ≤ x ∧ x ≤ 255) (hn : L.length < 16) : FeS w v' (L ++ [x]) w2 :=
  ⟨h.d.grow hg, BOk.app h.r (fun i => by cases i with | zero => simpa using hx | succ i => simp), by simp; omega⟩
theorem FeS.form (h : FeS w v L w1) : ∃ b c, v = .slice b L.length c := by
  obtain ⟨g, hb, _⟩ := h.d.o.barg h.r (by have := h.n; unfold maxLen; omega)
  exact hb.b.form
theorem FeS.bad (h : FeS w v L w1) {fn : Func} {tmps : Array Value} (hr : fn.results = Try.f16.results) (F : Flt) (pc : Int) (h4 : tmps.getD 4 undef = .pointer (some ⟨w.heap.size, 0, none⟩)) (h5 : tmps.getD 5 undef = .pointer (some ⟨w.heap.size + 1, 0, none⟩)) (h6 : tmps.getD 6 undef = .pointer (some ⟨w.heap.size + 1 + 1, 0, none⟩)) :
    Leaves Try.prog fn tmps (fun e w' => e = .returned (.tuple #[Ins.zero.val, ({ F with pc := pc } : Flt).val, .bool false]) ∧ Upd [] w w') (sDefers pc (w.heap.size + 1) (w.heap.size + 1 + 1)) (.panicking [{ v := .iface 32 F.val, recovered := false }]) w1 := by
  refine sdoor_panic F (.tuple #[Ins.zero.val, ({ F with pc := pc } : Flt).val, .bool false]) (fun w2 hf hk hU => ?_) h.f h.k (by omega) (fun w2 hU => ⟨rfl, h.up.also hU (by simp <;> omega)⟩)
  exact results_three' hr (res_ins 4 w.heap.size Ins.zero h4 (hU.get h.i (by simp <;> omega))) (res_flt 5 (w.heap.size + 1) { F with pc := pc } h5 hf) (res_bool 6 (w.heap.size + 1 + 1) false h6 hk)
end

set_option maxRecDepth 100000 in
set_option maxHeartbeats 4000000 in
theorem Fetch_any (M : Mem) (a pb : Nat) (pc : Int) (w : World) (hM : IsMem w a pb M) (h0 : 0 ≤ pc ∧ pc < 4294967296) :
    Calls Try.prog 16 #[.pointer (some ⟨a, 0, none⟩), .int .u32 pc] w fun e w' => e = .returned (.tuple #[(fetchM M pc).i.val, (fetchM M pc).f.val, .bool (fetchM M pc).k]) ∧ Upd [] w w' := by
  have HM := Lib.hid (And.intro hM h0)
  have HS := Lib.hid (show FeS w (.slice none 0 0) [] (feW w) from ⟨Dn.start (Upd.refl [] _), fun i => by simp, by simp⟩)
  clear hM h0
  go_enter_defers Try.func16, Try.ntmps16
  go_wp2_with fail
  go_loopw [7] (fun v wr => ∃ L, FeS w v L wr ∧ fetchM M pc = fetchD M pc (16 - L.length) L) (fun v _ => 16 - (match v with | .slice _ n _ => n | _ => 0))
  case atStart => exact ⟨[], HS.out, rfl⟩
  case round =>
    obtain ⟨L, hB, hR⟩ := hrel
    obtain ⟨b, c, rfl⟩ := hB.form
    have HB := Lib.hid hB
    have HR := Lib.hid hR
    have hn := hB.n
    clear hB hR
    by_cases hlt : L.length < 16
    · have d1 : decide ((L.length : Int) ≤ 15) = true := by simp; omega
      have d2 : decide (L.length ≤ 15) = true := by simp; omega
      have q1 : (L.length : Int) % 4294967296 = L.length := by omega
      have q2 : (pc + (L.length : Int)) % 4294967296 = plus pc L.length := rfl
      have hs : 16 - L.length = (15 - L.length) + 1 := by omega
      have tokD : True := trivial
      have tokS : True := trivial
      obtain ⟨J, hJ⟩ : ∃ J, decI L = J := ⟨_, rfl⟩
      have HI_ := Lib.hid hJ
      have HR2 := Lib.hid (show fetchM M pc = fetchD M pc ((15 - L.length) + 1) L by rw [← hs]; exact HR.out)
      have HN := Lib.hid hlt
      clear HR hs
      by_cases e0 : decE L = 0
      · have HE := Lib.hid e0
        have HV := Lib.hid (show fetchM M pc = ⟨J, Flt.zero, true⟩ by rw [HR2.out, fetchD, if_pos e0, hJ])
        clear e0 hJ hlt hn
        go_wp2_with (first | (have _t := tokD; clear _t; go_at_call 23; obtain ⟨g3, hb3, _⟩ := HB.out.d.o.barg HB.out.r (by have := HB.out.n; unfold maxLen; omega); have HB3 := Lib.hid hb3; clear hb3; refine (Decode_any (.slice b L.length c) L g3 _ HB3.out).mono ?_; rintro e w2 ⟨rfl, hu⟩; rw [HE.out, HI_.out]; have B2 := Lib.hid (HB.out.step hu); clear hu tokD HB) | (have _t := B2; clear _t; refine at_store 38 rfl ?_; refine wpList_store_ins J w2.heap.size rfl _ _ rfl rfl rfl (heap_alloc_new w2 (.cells Ins.zero.cells 38)) rfl ?_; intro w3 hw; have B3 := Lib.hid (B2.out.ins hw); clear hw B2) | (have _t := B3; clear _t; refine at_load 38 rfl ?_; refine wpList_load_ins J w2.heap.size rfl _ rfl rfl B3.out.2 ?_) | (have _t := tokS; have _t2 := B3; clear _t _t2; refine at_store 38 rfl ?_; refine wpList_store_ins J w.heap.size rfl _ _ rfl rfl rfl B3.out.1.i rfl ?_; intro w5 hw; have h5 := ins_new hw B3.out.1.i rfl (Upd.refl [w.heap.size] w3) (.inl (by simp)); have B5 := Lib.hid (And.intro h5.1 (And.intro (h5.2.get B3.out.1.f (by simp <;> omega)) (And.intro (h5.2.get B3.out.1.k (by simp <;> omega)) (B3.out.1.up.also h5.2 (by simp <;> omega))))); clear hw h5 B3 tokS; have cf := cells_of B5.out.2.1; have ff := free_of B5.out.2.1; have ck := cells_of B5.out.2.2.1; have fk := free_of B5.out.2.2.1))
        have hF := heap_set_keep (a := ⟨w.heap.size + 1 + 1, 0, none⟩) (.bool true) (by simp) (store4 B5.out.2.1 (.int .i64 0) (.int .u32 0) (.int .u32 0) (.int .i64 0))
        have UK := Upd_store4 (S := [w.heap.size + 1, w.heap.size + 1 + 1]) (b := w.heap.size + 1) (Upd.refl _ w5) (.inl (by simp)) (.int .i64 0) (.int .u32 0) (.int .u32 0) (.int .i64 0)
        have hK := heap_set_same ((Upd_store4 (S := [w.heap.size + 1]) (b := w.heap.size + 1) (Upd.refl _ w5) (.inl (by simp)) (.int .i64 0) (.int .u32 0) (.int .u32 0) (.int .i64 0)).get B5.out.2.2.1 (by simp)) 0 (.bool true)
        have U2 := UK.setCell (p := ⟨w.heap.size + 1 + 1, 0, none⟩) (.inl (by simp)) (.bool true)
        rw [HV.out]
        refine sdoor_ret (.tuple #[J.val, Flt.zero.val, .bool true]) ?_ ⟨rfl, B5.out.2.2.2.also U2 (by simp <;> omega)⟩
        exact results_three' rfl (res_ins 4 w.heap.size J rfl (U2.get B5.out.1 (by simp <;> omega))) (res_flt 5 (w.heap.size + 1) Flt.zero rfl hF) (res_bool 6 (w.heap.size + 1 + 1) true rfl hK)
      have hd0 : (decE L == 0) = false := by simpa using e0
      by_cases e1 : decE L = 90
      · have HE := Lib.hid e1
        have HV := Lib.hid (show fetchM M pc = ⟨Ins.zero, ⟨3, pc, 0, 0⟩, false⟩ by rw [HR2.out, fetchD, if_neg e0, if_pos e1])
        clear e0 e1 hJ hlt hn hd0
        go_wp2_with (first | (have _t := tokD; clear _t; go_at_call 23; obtain ⟨g3, hb3, _⟩ := HB.out.d.o.barg HB.out.r (by have := HB.out.n; unfold maxLen; omega); have HB3 := Lib.hid hb3; clear hb3; refine (Decode_any (.slice b L.length c) L g3 _ HB3.out).mono ?_; rintro e w2 ⟨rfl, hu⟩; rw [HE.out, HI_.out]; have B2 := Lib.hid (HB.out.step hu); clear hu tokD HB) | (have _t := B2; clear _t; refine at_store 38 rfl ?_; refine wpList_store_ins J w2.heap.size rfl _ _ rfl rfl rfl (heap_alloc_new w2 (.cells Ins.zero.cells 38)) rfl ?_; intro w3 hw; have B3 := Lib.hid (B2.out.ins hw); clear hw B2))
        rw [HV.out]
        exact B3.out.1.bad rfl ⟨3, 0, 0, 0⟩ pc rfl rfl rfl
      by_cases e2 : decE L = 12
      · have HE := Lib.hid e2
        have HV := Lib.hid (show fetchM M pc = ⟨Ins.zero, ⟨4, pc, 0, 0⟩, false⟩ by rw [HR2.out, fetchD, if_neg e0, if_neg e1, if_pos e2])
        clear e0 e1 e2 hJ hlt hn hd0
        go_wp2_with (first | (have _t := tokD; clear _t; go_at_call 23; obtain ⟨g3, hb3, _⟩ := HB.out.d.o.barg HB.out.r (by have := HB.out.n; unfold maxLen; omega); have HB3 := Lib.hid hb3; clear hb3; refine (Decode_any (.slice b L.length c) L g3 _ HB3.out).mono ?_; rintro e w2 ⟨rfl, hu⟩; rw [HE.out, HI_.out]; have B2 := Lib.hid (HB.out.step hu); clear hu tokD HB) | (have _t := B2; clear _t; refine at_store 38 rfl ?_; refine wpList_store_ins J w2.heap.size rfl _ _ rfl rfl rfl (heap_alloc_new w2 (.cells Ins.zero.cells 38)) rfl ?_; intro w3 hw; have B3 := Lib.hid (B2.out.ins hw); clear hw B2))
        rw [HV.out]
        exact B3.out.1.bad rfl ⟨4, 0, 0, 0⟩ pc rfl rfl rfl
      have hd1 : (decE L == 90) = false := by simpa using e1
      have hd2 : (decE L == 12) = false := by simpa using e2
      obtain ⟨ee, hee⟩ : ∃ ee, decE L = ee := ⟨_, rfl⟩
      rw [hee] at hd0 hd1 hd2
      have HE := Lib.hid hee
      obtain ⟨x, hx⟩ : ∃ x, M.readV (plus pc L.length) 1 4 = x := ⟨_, rfl⟩
      have HX := Lib.hid hx
      have hxr := read1_range HM.out.1.ok (plus pc L.length) 4
      rw [hx] at hxr
      have q3 : x % 256 = x := by omega
      obtain ⟨⟨fk, fp, fa, fw⟩, hF⟩ : ∃ F, M.rdF (plus pc L.length) 1 4 = F := ⟨_, rfl⟩
      have HF := Lib.hid hF
      cases hk : M.readK (plus pc L.length) 1 4
      · have HK := Lib.hid hk
        have HV := Lib.hid (show fetchM M pc = ⟨Ins.zero, ⟨fk, pc, fa, fw⟩, false⟩ by rw [HR2.out, fetchD, if_neg e0, if_neg e1, if_neg e2, if_neg (by rw [hk]; simp), hF])
        clear e0 e1 e2 hJ hlt hn hk hF hx hee
        go_wp2_with (first | (have _t := tokD; clear _t; go_at_call 23; obtain ⟨g3, hb3, _⟩ := HB.out.d.o.barg HB.out.r (by have := HB.out.n; unfold maxLen; omega); have HB3 := Lib.hid hb3; clear hb3; refine (Decode_any (.slice b L.length c) L g3 _ HB3.out).mono ?_; rintro e w2 ⟨rfl, hu⟩; rw [HE.out, HI_.out]; have B2 := Lib.hid (HB.out.step hu); clear hu tokD HB) | (have _t := B2; clear _t; refine at_store 38 rfl ?_; refine wpList_store_ins J w2.heap.size rfl _ _ rfl rfl rfl (heap_alloc_new w2 (.cells Ins.zero.cells 38)) rfl ?_; intro w3 hw; have B3 := Lib.hid (B2.out.ins hw); clear hw B2) | (have _t := B3; clear _t; go_at_call 24; refine (Read_any M a pb (plus pc L.length) 1 4 _ (HM.out.1.keep B3.out.1.up (by simp) (by simp)) (plus_nn _ _) (plus_lt' _ _)).mono ?_; rintro e w4 ⟨rfl, hu⟩; rw [Mem.readF_val, HF.out, HK.out, HX.out]; unfold Flt.val; have B4 := Lib.hid (B3.out.1.step hu); clear hu B3))
        rw [HV.out]
        exact (B4.out.step ((Upd.refl [] w4).alloc (.cells #[.int .i64 fk, .int .u32 fp, .int .u32 fa, .int .i64 fw] 32))).bad rfl ⟨fk, fp, fa, fw⟩ pc rfl rfl rfl
      · have HK := Lib.hid hk
        have HV := Lib.hid (show fetchM M pc = fetchD M pc (15 - L.length) (L ++ [x]) by rw [HR2.out, fetchD, if_neg e0, if_neg e1, if_neg e2, if_pos hk, hx])
        clear e0 e1 e2 hJ hlt hn hk hF hx hee
        have HXR := Lib.hid hxr
        go_wp2_with (first | (have _t := tokD; clear _t; go_at_call 23; obtain ⟨g3, hb3, _⟩ := HB.out.d.o.barg HB.out.r (by have := HB.out.n; unfold maxLen; omega); have HB3 := Lib.hid hb3; clear hb3; refine (Decode_any (.slice b L.length c) L g3 _ HB3.out).mono ?_; rintro e w2 ⟨rfl, hu⟩; rw [HE.out, HI_.out]; have B2 := Lib.hid (HB.out.step hu); clear hu tokD HB) | (have _t := B2; clear _t; refine at_store 38 rfl ?_; refine wpList_store_ins J w2.heap.size rfl _ _ rfl rfl rfl (heap_alloc_new w2 (.cells Ins.zero.cells 38)) rfl ?_; intro w3 hw; have B3 := Lib.hid (B2.out.ins hw); clear hw B2) | (have _t := B3; clear _t; go_at_call 24; refine (Read_any M a pb (plus pc L.length) 1 4 _ (HM.out.1.keep B3.out.1.up (by simp) (by simp)) (plus_nn _ _) (plus_lt _ _)).mono ?_; rintro e w4 ⟨rfl, hu⟩; rw [Mem.readF_val, HF.out, HK.out, HX.out]; unfold Flt.val; have B4 := Lib.hid (B3.out.1.step hu); clear hu B3) | (have _t := B4; clear _t; at_builtin; refine wpList_append_by rfl _ _ rfl (feW w).heap.size (.slice b L.length c) L rfl ((B4.out.step (((Upd.refl [] w4).alloc (.cells #[.int .i64 fk, .int .u32 fp, .int .u32 fa, .int .i64 fw] 32)).alloc (.cells #[.int .u8 x] 5))).d.o) (.slice (some ⟨w4.heap.size + 1, 0, none⟩) 1 1) [x] (w4.heap.size + 1) rfl (byl_lit2 w4 (.cells #[.int .i64 fk, .int .u32 fp, .int .u32 fa, .int .i64 fw] 32) x _) (by have := HN.out; simp; omega) (by have := B4.out.d.u.size; simp; omega) ?_; intro v2 w6 hg; have B6 := Lib.hid ((B4.out.step (((Upd.refl [] w4).alloc (.cells #[.int .i64 fk, .int .u32 fp, .int .u32 fa, .int .i64 fw] 32)).alloc (.cells #[.int .u8 x] 5))).grow hg HXR.out HN.out); clear hg B4))
        obtain ⟨b2, c2, hv2⟩ := B6.out.form
        subst hv2
        exact ⟨⟨L ++ [x], B6.out, by rw [HV.out, show 16 - (L ++ [x]).length = 15 - L.length from by rw [List.length_append]; simp only [List.length_cons, List.length_nil]; omega]⟩, by have := HN.out; rw [List.length_append]; simp only [List.length_cons, List.length_nil]; omega⟩
    · obtain hlen : L.length = 16 := by omega
      have d1 : decide ((L.length : Int) ≤ 15) = false := by simp; omega
      have d2 : decide (L.length ≤ 15) = false := by simp; omega
      have HV := Lib.hid (show fetchM M pc = ⟨Ins.zero, ⟨4, pc, 0, 0⟩, false⟩ by rw [HR.out, hlen]; rfl)
      clear hlen hlt hn
      go_wp2_with fail
      rw [HV.out]
      exact HB.out.bad rfl ⟨4, 0, 0, 0⟩ pc rfl rfl rfl
end Go.Proofs.Yteiplidhkelkbaa

/-
  Package block: rows of instructions in memory; pageOf, Size; insn.Ends: each by its contract. No condition.
-/
namespace Go.Proofs.Yteiplidhkelkbaa
open Go Go.RowKit
set_option linter.unusedVariables false
set_option linter.unusedSimpArgs false

def insRow (l : List Ins) : List Value := l.flatMap fun i => i.cells.toList
theorem insRow_cons (i : Ins) (l : List Ins) : insRow (i :: l) = i.cells.toList ++ insRow l := by simp [insRow]
theorem insRow_app (l m : List Ins) : insRow (l ++ m) = insRow l ++ insRow m := by simp [insRow]
theorem ins_len (i : Ins) : i.cells.toList.length = 16 := rfl
theorem insRow_len (l : List Ins) : (insRow l).length = l.length * 16 := by
  induction l with
  | nil => rfl
  | cons i l ih => rw [insRow_cons, List.length_append, ih, ins_len, List.length_cons]; omega
theorem insRow_get {l : List Ins} {k : Nat} {x : Ins} (h : l[k]? = some x) (j : Nat) (hj : j < 16) : (insRow l)[k * 16 + j]? = x.cells.toList[j]? := by
  induction l generalizing k with
  | nil => simp at h
  | cons i l ih =>
    rw [insRow_cons]
    cases k with
    | zero =>
      simp only [List.getElem?_cons_zero] at h
      injection h with h
      subst h
      rw [Nat.zero_mul, Nat.zero_add, List.getElem?_append_left (by rw [ins_len]; exact hj)]
    | succ k =>
      simp only [List.getElem?_cons_succ] at h
      rw [List.getElem?_append_right (by rw [ins_len]; omega), ins_len, show (k + 1) * 16 + j - 16 = k * 16 + j from by omega]
      exact ih h
theorem insRow_one {l : List Ins} : ∀ u ∈ insRow l, u.oneCell' = true := by
  intro u hu
  rw [insRow, List.mem_flatMap] at hu
  obtain ⟨i, _, hi⟩ := hu
  have := i.one
  rw [Array.all_eq_true_iff_forall_mem] at this
  exact this u (by simpa using hi)

/-- A slice of instructions that reads as l; its cells, if any, lie in block g. -/
def ISl (w : World) (v : Value) (l : List Ins) (g : Nat) : Prop :=
  (v = .slice none 0 0 ∧ l = []) ∨ ∃ o c C f, v = .slice (some ⟨g, o, none⟩) l.length c ∧ w.heap[g]? = some (.cells C 38 f) ∧ ∀ k u, (insRow l)[k]? = some u → C[o + k]? = some u

theorem ISl.form {w : World} {v : Value} {l : List Ins} {g : Nat} (h : ISl w v l g) : ∃ b c, v = .slice b l.length c := by
  rcases h with ⟨h1, h2⟩ | ⟨o, c, _, _, h1, _⟩
  · exact ⟨none, 0, by rw [h1, h2]; rfl⟩
  · exact ⟨_, _, h1⟩
theorem ISl.keep {w w' : World} {v : Value} {l : List Ins} {g : Nat} {S : List Nat} (h : ISl w v l g) (u : Upd S w w') (hg : g ∉ S) : ISl w' v l g := by
  rcases h with h | ⟨o, c, C, f, h1, h2, h3⟩
  · exact .inl h
  · exact .inr ⟨o, c, C, f, h1, u.get h2 hg, h3⟩
/-- An instruction of it. -/
theorem ISl.at {w : World} {l : List Ins} {g o c : Nat} {n : Nat} (h : ISl w (.slice (some ⟨g, o, none⟩) n c) l g) {k : Nat} {x : Ins} (hx : l[k]? = some x) : w.rangeAt g (o + k * 16) x.cells.toList := by
  rcases h with ⟨h, _⟩ | ⟨o', c', C, f, h1, h2, h3⟩
  · cases h
  · injection h1 with h1 _ _
    injection h1 with h1
    injection h1 with _ h1
    subst h1
    intro j u hu
    have hj : j < 16 := by have := (List.getElem?_eq_some_iff.1 hu).1; rwa [ins_len] at this
    rw [cells_of h2, Nat.add_assoc]
    exact h3 _ _ (by rw [insRow_get hx j hj]; exact hu)

def endsI (i : Ins) : Bool := i.op == 30 || i.op == 31 || i.op == 32 || i.op == 33 || i.op == 43 || i.rep

set_option maxRecDepth 100000 in
set_option maxHeartbeats 1000000 in
theorem Ends_any (i : Ins) (w : World) : Calls Try.prog 17 #[.agg i.cells] w fun e w' => e = .returned (.bool (endsI i)) ∧ Upd [] w w' := by
  unfold Ins.cells endsI
  go_enter Try.func17, Try.ntmps17
  go_wp2
  all_goals (go_ret; refine ⟨?_, (Upd.refl _ _).alloc _⟩; simp_all)

theorem pageOf_any (x : Int) (w : World) (h : 0 ≤ x ∧ x < 4294967296) : Calls Try.prog 18 #[.int .u32 x] w fun e w' => e = .returned (.int .u32 (x / 256)) ∧ w = w' := by
  have e : x.tdiv 256 % 4294967296 = x / 256 := by rw [Int.tdiv_eq_ediv_of_nonneg h.1]; omega
  clear h
  go_enter Try.func18, Try.ntmps18
  go_wp2
  go_ret
  refine ⟨?_, rfl⟩
  show Ending.returned (.int .u32 (x.tdiv 256 % 4294967296)) = _
  rw [e]

def sizeN (l : List Ins) : Nat → Int
  | 0 => 0
  | k + 1 => (sizeN l k + (l.getD k Ins.zero).len % 4294967296) % 4294967296

set_option maxRecDepth 100000 in
set_option maxHeartbeats 2000000 in
theorem Size_any (v : Value) (l : List Ins) (g : Nat) (w : World) (hv : ISl w v l g) (hn : l.length ≤ 100) :
    Calls Try.prog 9 #[v] w fun e w' => e = .returned (.int .u32 (sizeN l l.length)) ∧ Upd [] w w' := by
  obtain ⟨b, c, rfl⟩ := hv.form
  have HV := Lib.hid hv
  clear hv
  go_enter Try.func9, Try.ntmps9
  go_wp2_with fail
  go_loopw [3, 8] (fun n i wr => ∃ k : Nat, k ≤ l.length ∧ n = .int .u32 (sizeN l k) ∧ i = .int .i64 k ∧ Upd [] w wr) (fun _ i _ => l.length - (intOf i).toNat)
  case atStart => exact ⟨0, Nat.zero_le _, rfl, rfl, Upd.refl _ _⟩
  case round =>
    obtain ⟨k, hk, rfl, rfl, hu⟩ := hrel
    have HU := Lib.hid hu
    clear hu
    by_cases hlt : k < l.length
    · have d1 : decide ((k : Int) < l.length) = true := by simp; omega
      obtain ⟨x, hx⟩ : ∃ x, l[k]? = some x := ⟨l[k], List.getElem?_eq_getElem hlt⟩
      obtain ⟨o, rfl⟩ : ∃ o, b = some ⟨g, o, none⟩ := by
        rcases HV.out with ⟨h1, h2⟩ | ⟨o, _, _, _, h1, _⟩
        · rw [h2] at hlt; simp at hlt
        · injection h1 with h1; exact ⟨o, h1⟩
      have HR := Lib.hid ((HV.out.keep HU.out (by simp)).at hx)
      have HX := Lib.hid hx
      clear hx
      go_wp2_with (first | (refine at_load 38 rfl ?_; refine wpList_load_arr rfl 38 _ rfl g (o + k * 16) rfl x.cells _ HR.out Try.underlying38 rfl (by rw [Ins.size]; exact ins_info) ?_) | (refine at_store 38 rfl ?_; refine wpList_store_ins x wr.heap.size rfl _ _ rfl rfl rfl (heap_alloc_new wr (.cells Ins.zero.cells 38)) rfl ?_; intro w3 hw; have h3 := ins_new (S := []) (w0 := wr) hw (heap_alloc_new wr (.cells Ins.zero.cells 38)) rfl ((Upd.refl [] wr).alloc _) (.inr (Nat.le_refl _)); have U3 := Lib.hid (HU.out.also h3.2 (by simp)); have c3 := cells_of h3.1 15; rw [show (x.cells)[15]? = some (.int .i64 x.len) from rfl] at c3; clear hw h3))
      go_roundw
      case rel => exact ⟨k + 1, by omega, by rw [sizeN, List.getD_eq_getElem?_getD, HX.out]; rfl, by go_num, U3.out⟩
      case measure => simp [intOf]; omega
    · obtain rfl : k = l.length := by omega
      have d1 : decide ((l.length : Int) < l.length) = false := by simp
      go_wp2_with fail
      go_ret
      exact ⟨rfl, HU.out⟩
end Go.Proofs.Yteiplidhkelkbaa
