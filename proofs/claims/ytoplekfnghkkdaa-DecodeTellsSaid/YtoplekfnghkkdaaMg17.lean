/-
  Package decode: the deferred recovery of Decode, Decode, Kind: each by its contract.
-/
import Derived.Test.YtoplekfnghkkdaaMg16
import Derived.Recover
import Derived.Test.YtoplekfnghkkdaaRows
import Derived.Test.YtoplekfnghkkdaaMg01
import Derived.WalkSpells
import Derived.WalkLawsBesides
import Derived.Lib.Hide
import Derived.Deep.MidRow
import Derived.Laws.Build
import Derived.StillTailTactics
import Derived.Test.YtoplekfnghkkdaaMg02
import Derived.Test.YtoplekfnghkkdaaMg03
namespace Go.Proofs.Ytoplekfnghkkdaa
open Go Go.RowKit
set_option linter.unusedVariables false
set_option linter.unusedSimpArgs false

theorem assert_errno (v : Value) (w : World) : (Instr.typeAssert (.iface 29 v) 20 29 true).run Try.prog w = .ok (.tuple #[v, .bool true]) w := by
  unfold Instr.typeAssert
  simp [Sem.run_bind]

set_option maxRecDepth 100000 in
set_option maxHeartbeats 2000000 in
theorem dcaught_panicking (ib nb eb : Nat) (i : Ins) (n0 e0 : Value) (c : Int) (older : List PanicEntry) (w : World)
    (hi : w.heap[ib]? = some (.cells i.cells 28 (0, 0))) (hn : w.heap[nb]? = some (.cells #[n0] 3 (0, 0))) (he : w.heap[eb]? = some (.cells #[e0] 29 (0, 0))) (h1 : ib ≠ nb) (h2 : ib ≠ eb) (h3 : nb ≠ eb) :
    CallsD Try.prog 51 #[.pointer (some ⟨ib, 0, none⟩), .pointer (some ⟨nb, 0, none⟩), .pointer (some ⟨eb, 0, none⟩)] (.panicking ({ v := .iface 29 (.int .i64 c), recovered := false } :: older)) w fun e u' w' =>
      e = .returned (.tuple #[]) ∧ u' = .panicking ({ v := .iface 29 (.int .i64 c), recovered := true } :: older) ∧
        w'.heap[ib]? = some (.cells Ins.zero.cells 28 (0, 0)) ∧ w'.heap[nb]? = some (.cells #[.int .i64 0] 3 (0, 0)) ∧ w'.heap[eb]? = some (.cells #[.int .i64 c] 29 (0, 0)) ∧ Upd [ib, nb, eb] w w' := by
  refine callsD_of_wpS Try.func51 rfl fun c₀ cs hu => ?_
  simp only [Try.ntmps51, List.size_toArray, List.length_cons, List.length_nil, Nat.reduceAdd, Nat.reduceSub, Array.replicate_succ, Array.replicate_zero, List.push_toArray, List.append_toArray, List.nil_append, List.cons_append]
  apply wpS_seq
  apply wpS_region
  simp [wpOpsS, go_sem, recoverD, hu, Try.ntmps51, Exit.thenS]
  refine wpS_of_wp ?_
  clear hu
  have HI := Lib.hid hi
  have HN := Lib.hid hn
  have HE := Lib.hid he
  have hta := assert_errno
  clear hi hn he
  go_wp2_with (refine at_store 28 rfl ?_; refine wpList_store_ins Ins.zero ib rfl _ _ rfl rfl rfl HI.out rfl ?_; intro w2 hw; obtain ⟨z1, z2⟩ := ins_new (S := [ib]) (w0 := w) hw HI.out rfl (Upd.refl _ _) (.inl (by simp)); have Z := Lib.hid (And.intro z1 z2); have gn := z2.get HN.out (by simpa using h1.symm); have ge := z2.get HE.out (by simpa using h2.symm); have cn := cells_of gn; have fn := free_of gn; have ce := cells_of ge; have fe := free_of ge; have GN := Lib.hid (And.intro gn ge); clear gn ge z1 z2 hw)
  refine ⟨rfl, _, rfl, _, results_none rfl _ _ _, rfl, rfl, ?_, ?_, ?_, ?_⟩
  · exact heap_set_keep _ h2 (heap_set_keep _ h1 Z.out.1)
  · exact heap_set_keep _ h3 (heap_set_same GN.out.1 0 (.int .i64 0))
  · exact heap_set_same (heap_set_keep (a := ⟨nb, 0, none⟩) (.int .i64 0) h3.symm GN.out.2) 0 (.int .i64 c)
  · exact ((Z.out.2.mono (by simp)).setCell (by simp) _).setCell (by simp) _

set_option maxRecDepth 100000 in
set_option maxHeartbeats 1000000 in
theorem dcaught_idle (ib nb eb : Nat) (w : World) :
    CallsD Try.prog 51 #[.pointer (some ⟨ib, 0, none⟩), .pointer (some ⟨nb, 0, none⟩), .pointer (some ⟨eb, 0, none⟩)] .returning w fun e u' w' => e = .returned (.tuple #[]) ∧ u' = .returning ∧ w = w' := by
  refine callsD_of_wpS Try.func51 rfl fun c₀ cs hu => ?_
  simp only [Try.ntmps51, List.size_toArray, List.length_cons, List.length_nil, Nat.reduceAdd, Nat.reduceSub, Array.replicate_succ, Array.replicate_zero, List.push_toArray, List.append_toArray, List.nil_append, List.cons_append]
  apply wpS_seq
  apply wpS_region
  simp [wpOpsS, go_sem, recoverD, hu, Try.ntmps51, Exit.thenS]
  refine wpS_of_wp ?_
  have HU := Lib.hid hu
  clear hu
  go_wp2_with fail
  refine ⟨rfl, .returning, ?_, _, results_none rfl _ _ _, rfl, rfl, rfl⟩
  rw [← HU.out]

def dDefers (ib nb eb : Nat) : List Deferred :=
  [{ target := .fn (.func 51) #[.pointer (some ⟨ib, 0, none⟩), .pointer (some ⟨nb, 0, none⟩), .pointer (some ⟨eb, 0, none⟩)], args := #[] }]

theorem ddoor_panic {fn : Func} {tmps : Array Value} {R : Ending → World → Prop} {w1 : World} {ib nb eb : Nat} {i : Ins} {n0 e0 : Value} (c : Int) (V : Value)
    (hres : ∀ w2, w2.heap[ib]? = some (.cells Ins.zero.cells 28 (0, 0)) → w2.heap[nb]? = some (.cells #[.int .i64 0] 3 (0, 0)) → w2.heap[eb]? = some (.cells #[.int .i64 c] 29 (0, 0)) → Upd [ib, nb, eb] w1 w2 → (results fn tmps).run Try.prog w2 = .ok V w2)
    (hi : w1.heap[ib]? = some (.cells i.cells 28 (0, 0))) (hn : w1.heap[nb]? = some (.cells #[n0] 3 (0, 0))) (he : w1.heap[eb]? = some (.cells #[e0] 29 (0, 0))) (h1 : ib ≠ nb) (h2 : ib ≠ eb) (h3 : nb ≠ eb)
    (hR : ∀ w2, Upd [ib, nb, eb] w1 w2 → R (.returned V) w2) :
    Leaves Try.prog fn tmps R (dDefers ib nb eb) (.panicking [{ v := .iface 29 (.int .i64 c), recovered := false }]) w1 := by
  refine leaves_cons (f := 51) (args := #[.pointer (some ⟨ib, 0, none⟩), .pointer (some ⟨nb, 0, none⟩), .pointer (some ⟨eb, 0, none⟩)]) (by simp) (by simp [go_sem]) ?_
  refine (dcaught_panicking ib nb eb i _ _ c [] w1 hi hn he h1 h2 h3).mono ?_
  rintro e u' w2 ⟨rfl, rfl, hi, hn, he, hU⟩
  simp only [settle, List.dropWhile_nil]
  exact ⟨_, hres w2 hi hn he hU, hR _ hU⟩

theorem ddoor_ret {fn : Func} {tmps : Array Value} {R : Ending → World → Prop} {w1 : World} {ib nb eb : Nat} (V : Value) (hres : (results fn tmps).run Try.prog w1 = .ok V w1) (hR : R (.returned V) w1) :
    Leaves Try.prog fn tmps R (dDefers ib nb eb) .returning w1 := by
  refine leaves_cons (f := 51) (args := #[.pointer (some ⟨ib, 0, none⟩), .pointer (some ⟨nb, 0, none⟩), .pointer (some ⟨eb, 0, none⟩)]) (by simp) (by simp [go_sem]) ?_
  refine (dcaught_idle _ _ _ w1).mono ?_
  rintro e u' w2 ⟨rfl, rfl, rfl⟩
  simp only [settle]
  exact ⟨_, hres, hR⟩

theorem res_int1 {tmps : Array Value} {w : World} (a : Tmp) (b : Nat) (n : Int) (t : TypeId) (ha : tmps.getD a undef = .pointer (some ⟨b, 0, none⟩)) (hb : w.heap[b]? = some (.cells #[.int .i64 n] 3 (0, 0))) : (resRun tmps (.cell a 3)).run Try.prog w = .ok (.int .i64 n) w := by
  have hc : w.cell? ⟨b, 0, none⟩ = some (.int .i64 n) := by rw [cells_of hb]; rfl
  simp only [resRun, Sem.run_bind, ha]
  simp [asAddr, go_sem, hc]

theorem res_errno {tmps : Array Value} {w : World} (a : Tmp) (b : Nat) (n : Int) (ha : tmps.getD a undef = .pointer (some ⟨b, 0, none⟩)) (hb : w.heap[b]? = some (.cells #[.int .i64 n] 29 (0, 0))) : (resRun tmps (.cell a 29)).run Try.prog w = .ok (.int .i64 n) w := by
  have hc : w.cell? ⟨b, 0, none⟩ = some (.int .i64 n) := by rw [cells_of hb]; rfl
  simp only [resRun, Sem.run_bind, ha]
  simp [asAddr, go_sem, hc]

/-- A slice of bytes as an argument. -/
structure BArg (w : World) (v : Value) (L : List Int) (g : Nat) : Prop where
  b : BySl w v L g
  n : L.length ≤ maxLen
  r : BOk L
  c : ∀ b n c, v = .slice b n c → n ≤ c
  g : g ≤ w.heap.size

theorem wp_load_ins {op : Oper} {a : Act} {w : World} {K : Act → World → Prop} {Q : Exit → Act → World → Prop} (i : Ins) (b : Nat) (x : Operand) (ho : op.op = .load 28 x) (hx : a.eval x = .pointer (some ⟨b, 0, none⟩))
    (hb : w.heap[b]? = some (.cells i.cells 28 (0, 0))) (hK : K (a.put op.dst (.agg i.cells)) w) : op.wp Try.prog a w K Q :=
  wp_load_mid 28 x ho b 0 hx i.cells.toList _ (range_whole hb) Try.underlying28 rfl (by rw [Array.length_toList, Ins.size]; exact ins_info) (by rw [Array.toArray_toList]; exact hK)

theorem wp_store_ins {op : Oper} {a : Act} {w : World} {K : Act → World → Prop} {Q : Exit → Act → World → Prop} (i : Ins) (b : Nat) (x y : Operand) (ho : op.op = .store 28 x y) (hx : a.eval x = .pointer (some ⟨b, 0, none⟩)) (hy : a.eval y = .agg i.cells)
    {c : Array Value} (hb : w.heap[b]? = some (.cells c 28 (0, 0))) (hc : c.size = 16) (hK : ∀ w', w.setCells b 0 i.cells.toList = w' → K (a.put op.dst undef) w') : op.wp Try.prog a w K Q := by
  refine wp_store_mid 28 x y ho b 0 i.cells hx hy (there_of hb 0 i.cells.size (by rw [hc, Ins.size]; exact Nat.le_refl _)) (by rw [Ins.size]; exact ins_info) i.one ?_
  exact hK _ rfl

/-- Where Decode stores its results. -/
structure DeR (w : World) (v : Value) (k : Nat) (i : Ins) (w1 : World) : Prop where
  i : w1.heap[w.heap.size]? = some (.cells i.cells 28 (0, 0))
  n : w1.heap[w.heap.size + 1]? = some (.cells #[.int .i64 0] 3 (0, 0))
  e : w1.heap[w.heap.size + 1 + 1]? = some (.cells #[.int .i64 0] 29 (0, 0))
  d : w1.heap[w.heap.size + 1 + 1 + 1]? = some (.cells #[v, .int .i64 k] 111 (0, 0))
  u : Upd [] w w1

theorem DeR.step {w w1 w2 : World} {v : Value} {k : Nat} {i : Ins} (h : DeR w v k i w1) (u : Upd [] w1 w2) : DeR w v k i w2 :=
  ⟨u.get h.i (by simp), u.get h.n (by simp), u.get h.e (by simp), u.get h.d (by simp), h.u.also u (by simp)⟩

theorem DeR.store {w w1 w2 : World} {v : Value} {k : Nat} {i : Ins} (h : DeR w v k i w1) (hw : w1.setCells w.heap.size 0 i.cells.toList = w2) : DeR w v k i w2 := by
  obtain ⟨z1, u⟩ := ins_new (S := [w.heap.size]) (w0 := w1) hw h.i rfl (Upd.refl _ _) (.inl (by simp))
  exact ⟨z1, u.get h.n (by simp), u.get h.e (by simp <;> omega), u.get h.d (by simp <;> omega), h.u.also u (by simp)⟩

/-- Where Decode stands: its results' variables, its decoder. -/
structure DeS (w : World) (v : Value) (L : List Int) (g k : Nat) (i : Ins) (w1 : World) : Prop where
  i : w1.heap[w.heap.size]? = some (.cells i.cells 28 (0, 0))
  n : w1.heap[w.heap.size + 1]? = some (.cells #[.int .i64 0] 3 (0, 0))
  e : w1.heap[w.heap.size + 1 + 1]? = some (.cells #[.int .i64 0] 29 (0, 0))
  d : IsDec w1 (w.heap.size + 1 + 1 + 1) v L g k
  u : Upd [] w w1

theorem DeS.start {w : World} {v : Value} {L : List Int} {g : Nat} (hv : BArg w v L g) :
    DeS w v L g 0 Ins.zero ((((w.alloc (.cells Ins.zero.cells 28)).alloc (.cells #[.int .i64 0] 3)).alloc (.cells #[.int .i64 0] 29)).alloc (.cells #[v, .int .i64 0] 111)) := by
  have u : Upd [] w ((((w.alloc (.cells Ins.zero.cells 28)).alloc (.cells #[.int .i64 0] 3)).alloc (.cells #[.int .i64 0] 29)).alloc (.cells #[v, .int .i64 0] 111)) := ((((Upd.refl [] w).alloc _).alloc _).alloc _).alloc _
  have h1 := heap_alloc_keep (.cells #[v, .int .i64 0] 111) (heap_alloc_keep (.cells #[.int .i64 0] 29) (heap_alloc2_new w (.cells Ins.zero.cells 28) (.cells #[.int .i64 0] 3)))
  have h2 := heap_alloc_keep (.cells #[v, .int .i64 0] 111) (heap_alloc2_new (w.alloc (.cells Ins.zero.cells 28)) (.cells #[.int .i64 0] 3) (.cells #[.int .i64 0] 29))
  have h3 := heap_alloc2_new ((w.alloc (.cells Ins.zero.cells 28)).alloc (.cells #[.int .i64 0] 3)) (.cells #[.int .i64 0] 29) (.cells #[v, .int .i64 0] 111)
  refine ⟨heap_alloc_keep _ (heap_alloc_keep _ (heap_alloc_keep _ (heap_alloc_new _ _))), h1, by simpa using h2, ⟨by simpa using h3, hv.b.keep u (by simp), Nat.zero_le _, hv.n, by have := hv.g; omega, hv.r, hv.c⟩, u⟩

set_option maxRecDepth 100000 in
set_option maxHeartbeats 4000000 in
theorem Decode_bad (v : Value) (L : List Int) (g : Nat) (w : World) (hv : BArg w v L g) (c : Int) (h : dcInsn L 0 = .err c) :
    Calls Try.prog 13 #[v] w fun e w' => e = .returned (.tuple #[Ins.zero.val, .int .i64 0, .int .i64 c]) ∧ Upd [] w w' := by
  have S := Lib.hid (DeS.start hv)
  have hb := insn_any _ g 0 v L _ S.out.d
  rw [h] at hb
  have HB := Lib.hid hb
  obtain ⟨sb, sc, rfl⟩ := hv.b.form
  clear hv h hb
  go_enter_defers Try.func13, Try.ntmps13
  go_wp2_with (go_at_call 52; refine HB.out.mono ?_; rintro e w5 ⟨rfl, hu⟩; have H5 := Lib.hid hu; clear hu)
  refine ddoor_panic (ib := w.heap.size) (nb := w.heap.size + 1) (eb := w.heap.size + 1 + 1) c (.tuple #[Ins.zero.val, .int .i64 0, .int .i64 c]) (fun w2 hi hn he hU => results_three' rfl (res_ins 2 w.heap.size _ rfl hi) (res_int1 3 (w.heap.size + 1) 0 3 rfl hn) (res_errno 4 (w.heap.size + 1 + 1) c rfl he)) (H5.out.get S.out.i (by simp <;> omega)) (H5.out.get S.out.n (by simp <;> omega)) (H5.out.get S.out.e (by simp)) (by omega) (by omega) (by omega) (fun w2 hU => ⟨rfl, (S.out.u.also H5.out (by simp <;> omega)).also hU (by simp <;> omega)⟩)

set_option maxRecDepth 100000 in
set_option maxHeartbeats 4000000 in
theorem Decode_ok (v : Value) (L : List Int) (g : Nat) (w : World) (hv : BArg w v L g) (i : Ins) (k : Nat) (h : dcInsn L 0 = .ok i k) :
    Calls Try.prog 13 #[v] w fun e w' => e = .returned (.tuple #[({ i with len := k } : Ins).val, .int .i64 k, .int .i64 0]) ∧ Upd [] w w' := by
  have hmo : Try.prog.follows .mixedOrders = true := by kernel_rfl
  have S := Lib.hid (DeS.start hv)
  have hb := insn_any _ g 0 v L _ S.out.d
  rw [h] at hb
  have HB := Lib.hid hb
  obtain ⟨sb, sc, rfl⟩ := hv.b.form
  clear hv h hb
  go_enter_defers Try.func13, Try.ntmps13
  go_upto_region 4 with (first | (go_at_call 52; refine HB.out.mono ?_; rintro e w5 ⟨rfl, hD5, hu⟩; have H5 := Lib.hid (And.intro hD5 hu); clear hD5 hu) | (have _t := H5; clear _t; refine at_store 28 rfl ?_; refine wpList_store_ins i w.heap.size rfl _ _ rfl rfl rfl (H5.out.2.get S.out.i (by simp <;> omega)) rfl ?_; intro w6 hw; obtain ⟨z1, z2⟩ := ins_new (S := [w.heap.size]) (w0 := w5) hw (H5.out.2.get S.out.i (by simp <;> omega)) rfl (Upd.refl _ _) (.inl (by simp)); have H6 := Lib.hid (And.intro z1 z2); clear z1 z2 hw))
  have HD6 := Lib.hid (H6.out.2.get H5.out.1.h (by simp <;> omega))
  have HN6 := Lib.hid (H6.out.2.get (H5.out.2.get S.out.n (by simp <;> omega)) (by simp <;> omega))
  have HE6 := Lib.hid (H6.out.2.get (H5.out.2.get S.out.e (by simp)) (by simp <;> omega))
  have HU6 := Lib.hid ((S.out.u.also H5.out.2 (by simp <;> omega)).also H6.out.2 (by simp))
  have cd := cells_of HD6.out
  have ci := cells_of H6.out.1
  have fi := free_of H6.out.1
  unfold Ins.cells at ci
  go_upto_region 5 with fail
  have u7 : Upd [w.heap.size] w6 (w6.setCell ⟨w.heap.size, 15, none⟩ (.int .i64 k)) := (Upd.refl _ _).setCell (by simp) _
  have HI7 := Lib.hid (show (w6.setCell ⟨w.heap.size, 15, none⟩ (.int .i64 k)).heap[w.heap.size]? = some (.cells ({ i with len := k } : Ins).cells 28 (0, 0)) from heap_set_same H6.out.1 15 (.int .i64 k))
  have HD7 := Lib.hid (u7.get HD6.out (by simp <;> omega))
  have HN7 := Lib.hid (u7.get HN6.out (by simp <;> omega))
  have HE7 := Lib.hid (u7.get HE6.out (by simp <;> omega))
  have HU7 := Lib.hid (HU6.out.also u7 (by simp))
  clear u7 cd ci fi HD6 HN6 HE6 HU6 H6 H5
  have HR := Lib.hid (DeR.mk (k := k) (i := ({ i with len := k } : Ins)) HI7.out HN7.out HE7.out HD7.out HU7.out)
  clear HI7 HN7 HE7 HD7 HU7
  refine wp_draw 6 (DeR w (.slice sb L.length sc) k ({ i with len := k } : Ins)) (fun _ _ => False) (by kernel_rfl) (by kernel_rfl) (HR.out.step (Upd.refl [] _).drew) (fun _ _ _ h => h.elim) ?_
  simp only [List.take_succ_cons, List.take_zero, List.drop_succ_cons, List.drop_zero]
  apply headW_val rfl rfl
  · intro K hK w7 hB1
    refine wp_load_ins ({ i with len := k } : Ins) w.heap.size _ rfl rfl hB1.i ?_
    go_simp
    exact hK _ hB1
  · exact ⟨_, rfl⟩
  iterate 4
    apply headW_val rfl rfl
    · intro K hK w7 hB1
      have cd := cells_of hB1.d
      have HB := Lib.hid hB1
      clear hB1
      go_wp2_with fail
      first
      | exact hK _ HB.out
      | exact HB.out
    · exact ⟨_, rfl⟩
  apply headW_val rfl rfl
  · intro K hK w7 hB1
    refine wp_store_ins ({ i with len := k } : Ins) w.heap.size _ _ rfl rfl rfl hB1.i rfl ?_
    intro w8 hw
    exact hK _ (hB1.store hw)
  · exact ⟨_, rfl⟩
  refine headW_nil (fun _ w8 hB1 => ?_)
  have cn := cells_of hB1.n
  have fn := free_of hB1.n
  have ce := cells_of hB1.e
  have fe := free_of hB1.e
  have HB := Lib.hid hB1
  clear hB1
  go_wp2_with fail
  refine ddoor_ret (ib := w.heap.size) (nb := w.heap.size + 1) (eb := w.heap.size + 1 + 1) (.tuple #[({ i with len := k } : Ins).val, .int .i64 k, .int .i64 0]) (results_three' rfl (res_ins 2 w.heap.size _ rfl ?_) (res_int1 3 (w.heap.size + 1) k 3 rfl ?_) (res_errno 4 (w.heap.size + 1 + 1) 0 rfl ?_)) ⟨rfl, ?_⟩
  · exact heap_set_keep _ (by simp <;> omega) (heap_set_keep _ (by simp <;> omega) HB.out.i)
  · exact heap_set_keep _ (by simp <;> omega) (heap_set_same HB.out.n 0 (.int .i64 k))
  · exact heap_set_same (heap_set_keep (a := ⟨w.heap.size + 1, 0, none⟩) (.int .i64 k) (by simp) HB.out.e) 0 (.int .i64 0)
  · exact (HB.out.u.setCell (.inr (by simp)) _).setCell (.inr (by simp <;> omega)) _

theorem Decode_any (v : Value) (L : List Int) (g : Nat) (w : World) (hv : BArg w v L g) :
    Calls Try.prog 13 #[v] w fun e w' => e = .returned (.tuple #[(decI L).val, .int .i64 (decN L), .int .i64 (decE L)]) ∧ Upd [] w w' := by
  cases h : dcInsn L 0 with
  | err c => simp only [decI, decN, decE, h]; exact Decode_bad v L g w hv c h
  | ok i k => simp only [decI, decN, decE, h]; exact Decode_ok v L g w hv i k h

end Go.Proofs.Ytoplekfnghkkdaa

/-
  The small functions of package page, each by its contract: row, isRights, width, Rights, mapped, at, New.
-/
namespace Go.Proofs.Ytoplekfnghkkdaa
open Go Go.RowKit
set_option linter.unusedVariables false
set_option linter.unusedSimpArgs false

/-- The program's memory at block a, its row of pages at block pb. -/
structure IsMem (w : World) (a pb : Nat) (M : Mem) : Prop where
  hd : ∃ c, 64 ≤ c ∧ w.heap[a]? = some (.cells #[.slice (some ⟨pb, 0, none⟩) 64 c] 149 (0, 0))
  pg : ∃ C, Holds C M ∧ w.heap[pb]? = some (.cells C 156 (0, 0))
  ok : M.Ok

theorem IsMem.ne {w : World} {a pb : Nat} {M : Mem} (h : IsMem w a pb M) : a ≠ pb := by
  intro e; subst e
  obtain ⟨c, _, h1⟩ := h.hd
  obtain ⟨C, h2, h3⟩ := h.pg
  have := h1.symm.trans h3
  simp only [Option.some.injEq, Obj.cells.injEq] at this
  have h4 := h2.size
  rw [← this.1] at h4
  simp at h4

theorem IsMem.al {w : World} {a pb : Nat} {M : Mem} (h : IsMem w a pb M) : a < w.heap.size := by
  obtain ⟨c, _, h1⟩ := h.hd; exact lt_of_heap h1

theorem IsMem.pl {w : World} {a pb : Nat} {M : Mem} (h : IsMem w a pb M) : pb < w.heap.size := by
  obtain ⟨c, _, h1⟩ := h.pg; exact lt_of_heap h1

theorem IsMem.keep {w w' : World} {a pb : Nat} {M : Mem} {S : List Nat} (h : IsMem w a pb M) (u : Upd S w w') (ha : a ∉ S) (hp : pb ∉ S) : IsMem w' a pb M := by
  obtain ⟨c, h0, h1⟩ := h.hd
  obtain ⟨C, h2, h3⟩ := h.pg
  exact ⟨⟨c, h0, u.get h1 ha⟩, ⟨C, h2, u.get h3 hp⟩, h.ok⟩

theorem IsMem.drew {w : World} {a pb : Nat} {M : Mem} (h : IsMem w a pb M) : IsMem w.drew a pb M := ⟨h.hd, h.pg, h.ok⟩

theorem IsMem.c0 {w : World} {a pb : Nat} {M : Mem} (h : IsMem w a pb M) : ∃ c : Nat, 64 ≤ (c : Int) ∧ w.cell? ⟨a, 0, none⟩ = some (.slice (some ⟨pb, 0, none⟩) 64 c) := by
  obtain ⟨c, h0, h1⟩ := h.hd
  exact ⟨c, by omega, by rw [cells_of h1]; rfl⟩

theorem IsMem.free {w : World} {a pb : Nat} {M : Mem} (h : IsMem w a pb M) (o : Nat) : w.frozen? ⟨pb, o, none⟩ = false := by
  obtain ⟨C, h2, h3⟩ := h.pg
  exact free_of h3 o

/-- One cell of the row of pages turned. -/
theorem IsMem.set {w : World} {a pb : Nat} {M M' : Mem} (h : IsMem w a pb M) (i : Nat) (v : Value) (hi : i < 16448) (e : M.cells.setIfInBounds i v = M'.cells) (hok : M'.Ok) : IsMem (w.setCell ⟨pb, i, none⟩ v) a pb M' := by
  obtain ⟨c, h0, h1⟩ := h.hd
  obtain ⟨C, h2, h3⟩ := h.pg
  exact ⟨⟨c, h0, heap_set_keep _ h.ne h1⟩, ⟨_, h2.set i v hi e, heap_set_same h3 i v⟩, hok⟩

/-- Many of them. -/
theorem IsMem.wr {w : World} {a pb : Nat} {M M' : Mem} (h : IsMem w a pb M) (o : Nat) (vs : List Value) (ho : o + vs.length ≤ 16448) (e : Go.Proofs.Ytoplekfnghkkdaa.wr M.cells o vs = M'.cells) (hok : M'.Ok) : IsMem (w.setCells pb o vs) a pb M' := by
  obtain ⟨c, h0, h1⟩ := h.hd
  obtain ⟨C, h2, h3⟩ := h.pg
  exact ⟨⟨c, h0, by rw [heap_setCells_other h.ne]; exact h1⟩, ⟨_, h2.wr o vs ho e, heap_setCells_same _ _ _ _ h3⟩, hok⟩

theorem IsMem.there {w : World} {a pb : Nat} {M : Mem} (h : IsMem w a pb M) (o n : Nat) (hn : o + n ≤ 16448) : w.there pb o n := by
  obtain ⟨C, h2, h3⟩ := h.pg
  exact there_of h3 o n (by have := h2.size; omega)

/-- Pages at .. at+n-1 are all among the 64. -/
def rowB (at_ n : Int) : Bool := decide (0 ≤ at_) && (decide (1 ≤ n) && (decide (n ≤ 64) && decide (at_ ≤ 64 - n)))

/-- Where the byte at a lies in the row of pages. -/
def cellOf (a : Int) : Nat := (a / 256).toNat * 257 + 1 + (a % 256).toNat

end Go.Proofs.Ytoplekfnghkkdaa

/-
  Package page: New, the search for a page (slices.ContainsFunc, IndexFunc), all: each by its contract.
-/
namespace Go.Proofs.Ytoplekfnghkkdaa
open Go Go.RowKit
set_option linter.unusedVariables false
set_option linter.unusedSimpArgs false

/-- Is page p mapped otherwise than asked? -/
def Mem.odd (M : Mem) (mapped : Bool) (p : Nat) : Bool := (M.R p != 0) != mapped

/-- What 'all' tells: pages beside one another are all there, all mapped (or all not). -/
def Mem.all (M : Mem) (at_ n : Int) (mapped : Bool) : Bool :=
  rowB at_ n && !((List.range n.toNat).any (fun i => M.odd mapped (at_.toNat + i)))

end Go.Proofs.Ytoplekfnghkkdaa

/-
  Package page: the deferred recovery 'caught', the closure of Read, Read, Write: each by its contract.
-/
namespace Go.Proofs.Ytoplekfnghkkdaa
open Go Go.RowKit
set_option linter.unusedVariables false
set_option linter.unusedSimpArgs false

/-- What holds of the world while Read goes through the bytes. -/
structure ReadB (M : Mem) (a pb : Nat) (w : World) (g : Int) (w1 : World) : Prop where
  v : w1.heap[w.heap.size]? = some (.cells #[.int .u32 g] 24 (0, 0))
  f : w1.heap[w.heap.size + 1]? = some (.cells #[.int .i64 0, .int .u32 0, .int .u32 0, .int .i64 0] 49 (0, 0))
  k : w1.heap[w.heap.size + 1 + 1]? = some (.cells #[.bool false] 4 (0, 0))
  m : IsMem w1 a pb M
  u : Upd [] w w1
  al : a < w.heap.size
  pl : pb < w.heap.size

/-- The place of the i-th byte from at on. -/
def plus (x : Int) (i : Nat) : Int := (x + i) % 4294967296

/-- The bytes read so far, the lowest first. -/
def Mem.get (M : Mem) (x : Int) : Nat → Int
  | 0 => 0
  | i + 1 => M.get x i + M.B (plus x i).toNat * 2 ^ (8 * i)

theorem or_add (g b : Int) (k : Nat) (hg0 : 0 ≤ g) (hg : g < 2 ^ k) (hb0 : 0 ≤ b) (hk : b * 2 ^ k + g < 4294967296) : bits .or .u32 g (b * 2 ^ k % 4294967296) = g + b * 2 ^ k := by
  obtain ⟨g, rfl⟩ := Int.eq_ofNat_of_zero_le hg0
  obtain ⟨b, rfl⟩ := Int.eq_ofNat_of_zero_le hb0
  have hg' : g < 2 ^ k := by exact_mod_cast hg
  have e0 : ((b : Int) * 2 ^ k) = ((b * 2 ^ k : Nat) : Int) := by
    rw [Int.natCast_mul, Int.natCast_pow]; rfl
  rw [e0] at hk
  have e2 : g ||| b * 2 ^ k = g + b * 2 ^ k := by
    rw [Nat.or_comm, nat_join k _ _ (Nat.mul_mod_left _ _) hg', Nat.add_comm]
  rw [e0]
  generalize hq : b * 2 ^ k = q at *
  have e1 : (q : Int) % 4294967296 = (q : Int) := by omega
  rw [e1, u32_or_nat _ _ (by omega) (by omega), e2]
  rfl

theorem ReadB.store {M : Mem} {a pb : Nat} {w w1 : World} {g : Int} (h : ReadB M a pb w g w1) (v : Int) : ReadB M a pb w v (w1.setCell ⟨w.heap.size, 0, none⟩ (.int .u32 v)) := by
  refine ⟨heap_set_same h.v 0 _, heap_set_keep _ (by simp) h.f, heap_set_keep _ (by simp; omega) h.k, h.m.keep (S := [w.heap.size]) ((Upd.refl _ _).setCell (by simp) _) ?_ ?_, h.u.setCell (by simp) _, h.al, h.pl⟩
  · have := h.al; simp; omega
  · have := h.pl; simp; omega

theorem IsMem.store {w1 : World} {a pb : Nat} {M : Mem} (h : IsMem w1 a pb M) {y : Int} (h0 : 0 ≤ y) (h1 : y < 16384) {b : Int} (hb0 : 0 ≤ b) (hb1 : b ≤ 255) :
    IsMem (w1.setCell ⟨pb, cellOf y, none⟩ (.int .u8 b)) a pb (M.setB y.toNat b) := by
  refine h.set _ _ (by unfold cellOf; omega) ?_ (Mem.setB_ok h.ok _ hb0 hb1)
  rw [cellOf, Mem.cells_setB _ _ _ _ (by omega) (by omega), show (y / 256).toNat * 256 + (y % 256).toNat = y.toNat from by omega]

end Go.Proofs.Ytoplekfnghkkdaa

/-
  The document's decoder in Go: its reader's byte, word, small; reg, imm: each by its contract. No condition.
-/
namespace Go.Proofs.Ytoplekfnghkkdaa
open Go Go.RowKit
set_option linter.unusedVariables false
set_option linter.unusedSimpArgs false

/-- A reader at a block: its bytes, where it stands. -/
structure IsRd (w : World) (d : Nat) (v : Value) (L : List Int) (g : Nat) (s : Rd) : Prop where
  h : w.heap[d]? = some (.cells #[v, .int .i64 s.k, .bool s.sh, .bool s.bd] 115 (0, 0))
  b : BySl w v L g
  k : s.k ≤ L.length
  n : L.length ≤ maxLen
  gd : g ≠ d
  r : BOk L
  c : ∀ b n c, v = .slice b n c → n ≤ c

section
variable {w w' : World} {d : Nat} {v : Value} {L : List Int} {g : Nat} {s : Rd}
theorem IsRd.step (h : IsRd w d v L g s) (u : Upd [] w w') : IsRd w' d v L g s :=
  ⟨u.get h.h (by simp), h.b.keep u (by simp), h.k, h.n, h.gd, h.r, h.c⟩
theorem IsRd.lt (h : IsRd w d v L g s) : d < w.heap.size := lt_of_heap h.h
theorem IsRd.cells (h : IsRd w d v L g s) : w.cell? ⟨d, 0, none⟩ = some v ∧ w.cell? ⟨d, 1, none⟩ = some (.int .i64 s.k) ∧ w.cell? ⟨d, 2, none⟩ = some (.bool s.sh) ∧ w.cell? ⟨d, 3, none⟩ = some (.bool s.bd) := by
  rw [cells_of h.h, cells_of h.h, cells_of h.h, cells_of h.h]; exact ⟨rfl, rfl, rfl, rfl⟩
theorem IsRd.setK (h : IsRd w d v L g s) (j : Nat) (hj : j ≤ L.length) : IsRd (w.setCell ⟨d, 1, none⟩ (.int .i64 j)) d v L g { s with k := j } :=
  ⟨heap_set_same h.h 1 (.int .i64 j), h.b.keep ((Upd.refl [d] w).setCell (by simp) _) (by simpa using h.gd), hj, h.n, h.gd, h.r, h.c⟩
theorem IsRd.setS (h : IsRd w d v L g s) (c : Bool) : IsRd (w.setCell ⟨d, 2, none⟩ (.bool c)) d v L g { s with sh := c } :=
  ⟨heap_set_same h.h 2 (.bool c), h.b.keep ((Upd.refl [d] w).setCell (by simp) _) (by simpa using h.gd), h.k, h.n, h.gd, h.r, h.c⟩
theorem IsRd.setB (h : IsRd w d v L g s) (c : Bool) : IsRd (w.setCell ⟨d, 3, none⟩ (.bool c)) d v L g { s with bd := c } :=
  ⟨heap_set_same h.h 3 (.bool c), h.b.keep ((Upd.refl [d] w).setCell (by simp) _) (by simpa using h.gd), h.k, h.n, h.gd, h.r, h.c⟩
end

theorem bysl_cell {L : List Int} {g o sc j : Nat} (W : World) (hj : j < L.length) (hb : BySl W (.slice (some ⟨g, o, none⟩) L.length sc) L g) : W.cell? ⟨g, o + j, none⟩ = some (.int .u8 (L.getD j 0)) := by
  rcases hb with ⟨h1, _⟩ | ⟨o', c', C, T, f, h1, h2, h3⟩
  · cases h1
  · injection h1 with h1 h4 h5
    injection h1 with h1
    injection h1 with h1 h6
    subst h6
    rw [cells_of h2]
    exact h3 j hj

structure RdB (w : World) (d : Nat) (v : Value) (L : List Int) (g : Nat) (s : Rd) (w1 : World) : Prop where
  d : IsRd w1 d v L g s
  u : Upd [] w w1

set_option maxRecDepth 100000 in
set_option maxHeartbeats 1000000 in
theorem rbyte_any (d g : Nat) (s : Rd) (v : Value) (L : List Int) (w : World) (hD : IsRd w d v L g s) :
    Calls Try.prog 107 #[.pointer (some ⟨d, 0, none⟩)] w fun e w' => e = .returned (.int .u8 (reB L s)) ∧ IsRd w' d v L g (reB' L s) ∧ Upd [d] w w' := by
  have hmo : Try.prog.follows .mixedOrders = true := by kernel_rfl
  have hl := hD.n
  unfold maxLen at hl
  by_cases h : s.k < L.length
  · obtain ⟨o, sc, rfl, hsc⟩ : ∃ o c, v = .slice (some ⟨g, o, none⟩) L.length c ∧ L.length ≤ c := by
      rcases hD.b with ⟨_, h1⟩ | ⟨o, c, _, _, _, h1, _⟩
      · rw [h1] at h; simp at h
      · exact ⟨o, c, h1, hD.c _ _ _ h1⟩
    rw [show reB L s = L.getD s.k 0 from by simp [reB, h], show reB' L s = { s with k := s.k + 1 } from by simp [reB', h]]
    obtain ⟨kk, sh, bd⟩ := s
    simp only at h ⊢
    have e1 : decide ((L.length : Int) ≤ kk) = false := by simp; omega
    have e2 : decide (L.length ≤ kk) = false := by simp; omega
    obtain ⟨z, hz⟩ : ∃ z : Int, ((kk + 1 : Nat) : Int) = z := ⟨_, rfl⟩
    have e3 : wrap64 ((kk : Int) + 1) = z := by unfold wrap64; omega
    have HZ := Lib.hid hz
    have HD := Lib.hid hD
    have HN := Lib.hid h
    have hcell := fun (W : World) (j : Nat) (hj : j < L.length) (hb : BySl W (.slice (some ⟨g, o, none⟩) L.length sc) L g) => bysl_cell W hj hb
    have HC := Lib.hid hcell
    clear hD h hz hl hsc hcell
    go_enter Try.func107, Try.ntmps107
    go_wp2_with fail
    refine wp_draw 10 (RdB w d (.slice (some ⟨g, o, none⟩) L.length sc) L g ⟨kk, sh, bd⟩) (fun _ _ => False) (by kernel_rfl) (by kernel_rfl) ⟨HD.out.step (Upd.refl [] w).drew, (Upd.refl [] w).drew⟩ (fun _ _ _ h => h.elim) ?_
    simp only [List.take_succ_cons, List.take_zero, List.drop_succ_cons, List.drop_zero]
    repeat
      apply headW_val rfl rfl
      · intro K hK w1 hB1
        obtain ⟨c0, c1, c2, c3⟩ := hB1.d.cells
        have HB := Lib.hid hB1
        clear hB1
        go_wp2_with fail
        first
        | exact hK _ HB.out
        | exact HB.out
      · exact ⟨_, rfl⟩
    refine headW_nil (fun _ w2 hB2 => ?_)
    have HB := Lib.hid hB2
    clear hB2
    go_wp2_with fail
    refine wp_draw 11 (RdB w d (.slice (some ⟨g, o, none⟩) L.length sc) L g ⟨kk, sh, bd⟩) (fun _ _ => False) (by kernel_rfl) (by kernel_rfl) ⟨HB.out.d.step (Upd.refl [] w2).drew, HB.out.u.drew⟩ (fun _ _ _ h => h.elim) ?_
    simp only [List.take_succ_cons, List.take_zero, List.drop_succ_cons, List.drop_zero]
    repeat
      apply headW_val rfl rfl
      · intro K hK w1 hB1
        obtain ⟨c0, c1, c2, c3⟩ := hB1.d.cells
        have cb := HC.out _ _ HN.out hB1.d.b
        have HB := Lib.hid hB1
        clear hB1
        go_wp2_with fail
        first
        | exact hK _ HB.out
        | exact HB.out
      · exact ⟨_, rfl⟩
    refine headW_nil (fun _ w2 hB2 => ?_)
    obtain ⟨c0, c1, c2, c3⟩ := hB2.d.cells
    have f1 := free_of hB2.d.h
    have HB2 := Lib.hid hB2
    clear hB2
    go_wp2_with fail
    go_ret
    have hS := HB2.out.d.setK (kk + 1) HN.out
    rw [HZ.out] at hS
    exact ⟨rfl, hS, (HB2.out.u.mono (by simp)).setCell (by simp) _⟩
  · rw [show reB L s = 0 from by simp [reB, h], show reB' L s = s.short from by simp [reB', h]]
    obtain ⟨kk, sh, bd⟩ := s
    simp only at h ⊢
    obtain ⟨sb, sc, rfl⟩ := hD.b.form
    have e1 : decide ((L.length : Int) ≤ kk) = true := by simp; omega
    have e2 : decide (L.length ≤ kk) = true := by simp; omega
    have HD := Lib.hid hD
    clear hD h hl
    go_enter Try.func107, Try.ntmps107
    go_wp2_with fail
    refine wp_draw 10 (RdB w d (.slice sb L.length sc) L g ⟨kk, sh, bd⟩) (fun _ _ => False) (by kernel_rfl) (by kernel_rfl) ⟨HD.out.step (Upd.refl [] w).drew, (Upd.refl [] w).drew⟩ (fun _ _ _ h => h.elim) ?_
    simp only [List.take_succ_cons, List.take_zero, List.drop_succ_cons, List.drop_zero]
    repeat
      apply headW_val rfl rfl
      · intro K hK w1 hB1
        obtain ⟨c0, c1, c2, c3⟩ := hB1.d.cells
        have HB := Lib.hid hB1
        clear hB1
        go_wp2_with fail
        first
        | exact hK _ HB.out
        | exact HB.out
      · exact ⟨_, rfl⟩
    refine headW_nil (fun _ w2 hB2 => ?_)
    obtain ⟨c0, c1, c2, c3⟩ := hB2.d.cells
    have f2 := free_of hB2.d.h
    have HB2 := Lib.hid hB2
    clear hB2
    go_wp2_with fail
    go_ret
    exact ⟨rfl, HB2.out.d.setS true, (HB2.out.u.mono (by simp)).setCell (by simp) _⟩

/-- The reader behind k bytes; what they are as a number, the lowest first. -/
def stW (L : List Int) (s : Rd) : Nat → Rd
  | 0 => s
  | k + 1 => reB' L (stW L s k)
def vW (L : List Int) (s : Rd) : Nat → Int
  | 0 => 0
  | k + 1 => vW L s k + reB L (stW L s k) * 2 ^ (8 * k)

theorem reB_rng {L : List Int} (hL : BOk L) (s : Rd) : 0 ≤ reB L s ∧ reB L s ≤ 255 := by
  unfold reB
  split
  · exact hL _
  · decide

theorem vW_range {L : List Int} (hL : BOk L) (s : Rd) (k : Nat) : 0 ≤ vW L s k ∧ vW L s k < 2 ^ (8 * k) := by
  induction k with
  | zero => simp [vW]
  | succ k ih =>
    have h := reB_rng hL (stW L s k)
    rw [vW]
    have e : (2 : Int) ^ (8 * (k + 1)) = 256 * 2 ^ (8 * k) := by rw [Nat.mul_add, Int.pow_add]; simp [Int.mul_comm]
    have hp : (0 : Int) < 2 ^ (8 * k) := Int.pow_pos (by decide)
    rw [e]
    generalize (2 : Int) ^ (8 * k) = p at *
    obtain ⟨b, hb⟩ : ∃ b, reB L (stW L s k) = b := ⟨_, rfl⟩
    rw [hb] at h ⊢
    have h1 : 0 ≤ b * p := Int.mul_nonneg h.1 (by omega)
    have h2 : b * p ≤ 255 * p := Int.mul_le_mul_of_nonneg_right h.2 (by omega)
    omega

theorem vW_four (L : List Int) (s : Rd) : vW L s 4 = reW L s := by
  simp [vW, reW, stW]

theorem vW_or {L : List Int} (hL : BOk L) (s : Rd) (k : Nat) (hk : k < 4) : bits .or .u32 (vW L s k) (reB L (stW L s k) * 2 ^ (8 * k) % 4294967296) = vW L s (k + 1) := by
  have h := reB_rng hL (stW L s k)
  have h1 := vW_range hL s k
  have h2 := vW_range hL s (k + 1)
  have h3 : (2 : Int) ^ (8 * (k + 1)) ≤ 4294967296 := by
    have : k = 0 ∨ k = 1 ∨ k = 2 ∨ k = 3 := by omega
    rcases this with rfl | rfl | rfl | rfl <;> decide
  rw [vW] at h2
  rw [or_add _ _ _ h1.1 h1.2 h.1 (by omega), vW]

set_option maxRecDepth 100000 in
set_option maxHeartbeats 2000000 in
theorem rword_any (d g : Nat) (s : Rd) (v : Value) (L : List Int) (w : World) (hD : IsRd w d v L g s) :
    Calls Try.prog 113 #[.pointer (some ⟨d, 0, none⟩)] w fun e w' => e = .returned (.int .u32 (reW L s)) ∧ IsRd w' d v L g (reW' L s) ∧ Upd [d] w w' := by
  have HD := Lib.hid hD
  have HO := Lib.hid (fun k => vW_or hD.r s k)
  have HR := Lib.hid (fun s' => reB_rng hD.r s')
  clear hD
  go_enter Try.func113, Try.ntmps113
  go_wp2_with fail
  go_loopw [3, 4] (fun t i wr => ∃ k : Nat, k ≤ 4 ∧ t = .int .u32 (vW L s k) ∧ i = .int .i64 k ∧ IsRd wr d v L g (stW L s k) ∧ Upd [d] w wr) (fun _ i _ => 4 - (intOf i).toNat)
  case atStart => exact ⟨0, by decide, rfl, rfl, HD.out, Upd.refl _ _⟩
  case round =>
    obtain ⟨k, hk, rfl, rfl, hI, hU⟩ := hrel
    have HI := Lib.hid (And.intro hI hU)
    clear hI hU
    by_cases hlt : k < 4
    · have hb := HR.out (stW L s k)
      have ho := HO.out k hlt
      obtain ⟨b, hbe⟩ : ∃ b, reB L (stW L s k) = b := ⟨_, rfl⟩
      rw [hbe] at hb ho
      have HBE := Lib.hid hbe
      have q0 : b % 4294967296 = b := by omega
      have d1 : decide ((k : Int) < 4) = true := by simp; omega
      clear hbe
      go_wp2_with (go_at_call 107; refine (rbyte_any d g _ v L _ HI.out.1).mono ?_; rintro e w4 ⟨rfl, h, hu⟩; rw [HBE.out]; have H4 := Lib.hid (And.intro h (HI.out.2.also hu (by simp))); clear h hu)
      exact ⟨⟨k + 1, by omega, rfl, by go_num, H4.out.1, H4.out.2⟩, by simp [intOf]; omega⟩
    · obtain rfl : k = 4 := by omega
      have d1 : decide (((4 : Nat) : Int) < 4) = false := by decide
      rw [vW_four]
      go_wp2_with fail
      go_ret
      exact ⟨rfl, HI.out.1, HI.out.2⟩

theorem i8_sx8 (b : Int) (hb : 0 ≤ b ∧ b ≤ 255) : wrap32 (IntKind.i8.wrap b) % 4294967296 = sx8 b := by
  have h : ∀ k : Fin 256, wrap32 (IntKind.i8.wrap (k.val : Int)) % 4294967296 = sx8 (k.val : Int) := by decide +kernel
  have := h ⟨b.toNat, by omega⟩
  simpa only [show ((b.toNat : Nat) : Int) = b by omega] using this

set_option maxRecDepth 100000 in
set_option maxHeartbeats 1000000 in
theorem rsmall_any (d g : Nat) (s : Rd) (v : Value) (L : List Int) (w : World) (hD : IsRd w d v L g s) :
    Calls Try.prog 112 #[.pointer (some ⟨d, 0, none⟩)] w fun e w' => e = .returned (.int .u32 (sx8 (reB L s))) ∧ IsRd w' d v L g (reB' L s) ∧ Upd [d] w w' := by
  have HD := Lib.hid hD
  have hb := reB_rng hD.r s
  obtain ⟨b, hbe⟩ : ∃ b, reB L s = b := ⟨_, rfl⟩
  rw [hbe] at hb ⊢
  have HBE := Lib.hid hbe
  clear hD hbe
  go_enter Try.func112, Try.ntmps112
  go_wp2_with (go_at_call 107; refine (rbyte_any d g _ v L _ HD.out).mono ?_; rintro e w4 ⟨rfl, h, hu⟩; rw [HBE.out]; have H4 := Lib.hid (And.intro h hu); clear h hu)
  go_ret
  refine ⟨?_, H4.out.1, H4.out.2⟩
  show Ending.returned (.int .u32 (wrap32 (IntKind.i8.wrap b) % 4294967296)) = _
  rw [i8_sx8 b hb]

theorem rreg_any (r : Int) (w : World) : Calls Try.prog 110 #[.int .i64 r] w fun e w' => e = .returned (regO r).val ∧ Upd [] w w' := by
  go_enter Try.func110, Try.ntmps110
  go_wp2
  exact bodyPost_ret (results_one' rfl (res_opd 2 w.heap.size (regO r) rfl (heap_alloc_new _ _))) rfl ⟨rfl, (Upd.refl _ _).alloc _⟩

theorem rimm_any (r : Int) (w : World) : Calls Try.prog 111 #[.int .u32 r] w fun e w' => e = .returned (immO r).val ∧ Upd [] w w' := by
  go_enter Try.func111, Try.ntmps111
  go_wp2
  exact bodyPost_ret (results_one' rfl (res_opd 2 w.heap.size (immO r) rfl (heap_alloc_new _ _))) rfl ⟨rfl, (Upd.refl _ _).alloc _⟩
end Go.Proofs.Ytoplekfnghkkdaa
