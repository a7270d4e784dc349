/-
  Package page: the deferred recovery 'caught', the closure of Read, Read, Write: each by its contract.
-/
import Derived.Test.YtdgclmibbmofcaaMg01
import Derived.Recover
import Derived.StillTailTactics
import Derived.Test.YtdgclmibbmofcaaMg02
import Derived.ChangeKeysEq
import Derived.Lib.SliceRun
namespace Go.Proofs.Ytdgclmibbmofcaa
open Go Go.RowKit
set_option linter.unusedVariables false
set_option linter.unusedSimpArgs false

theorem assert_fault (v : Value) (w : World) : (Instr.typeAssert (.iface 112 v) 20 112 true).run Try.prog w = .ok (.tuple #[v, .bool true]) w := by
  unfold Instr.typeAssert
  simp [Sem.run_bind]

set_option maxRecDepth 100000 in
set_option maxHeartbeats 1000000 in
theorem caught_panicking (fb kb : Nat) (y0 y1 y2 y3 k0 : Value) (x0 x1 x2 x3 : Int) (older : List PanicEntry) (w : World)
    (hf : w.heap[fb]? = some (.cells #[y0, y1, y2, y3] 112 (0, 0))) (hk : w.heap[kb]? = some (.cells #[k0] 4 (0, 0))) (hne : fb ≠ kb) :
    CallsD Try.prog 66 #[.pointer (some ⟨fb, 0, none⟩), .pointer (some ⟨kb, 0, none⟩)] (.panicking ({ v := .iface 112 (.agg #[.int .i64 x0, .int .u32 x1, .int .u32 x2, .int .i64 x3]), recovered := false } :: older)) w fun e u' w' =>
      e = .returned (.tuple #[]) ∧ u' = .panicking ({ v := .iface 112 (.agg #[.int .i64 x0, .int .u32 x1, .int .u32 x2, .int .i64 x3]), recovered := true } :: older) ∧
        w'.heap[fb]? = some (.cells #[.int .i64 x0, .int .u32 x1, .int .u32 x2, .int .i64 x3] 112 (0, 0)) ∧ w'.heap[kb]? = some (.cells #[.bool false] 4 (0, 0)) ∧ Upd [fb, kb] w w' := by
  refine callsD_of_wpS Try.func66 rfl fun c₀ cs hu => ?_
  simp only [Try.ntmps66, List.size_toArray, List.length_cons, List.length_nil, Nat.reduceAdd, Nat.reduceSub, Array.replicate_succ, Array.replicate_zero, List.push_toArray, List.append_toArray, List.nil_append, List.cons_append]
  apply wpS_seq
  apply wpS_region
  simp [wpOpsS, go_sem, recoverD, hu, Try.ntmps66, Exit.thenS]
  refine wpS_of_wp ?_
  clear hu
  have hfl := lt_of_heap hf
  have hkl := lt_of_heap hk
  have hcf : ∀ o, w.cell? ⟨fb, o, none⟩ = #[y0, y1, y2, y3][o]? := cells_of hf
  have hck : ∀ o, w.cell? ⟨kb, o, none⟩ = #[k0][o]? := cells_of hk
  have hff : ∀ o, w.frozen? ⟨fb, o, none⟩ = false := free_of hf
  have hfk : ∀ o, w.frozen? ⟨kb, o, none⟩ = false := free_of hk
  have HF := Lib.hid hf
  have HK := Lib.hid hk
  clear hf hk
  have hta := assert_fault
  go_wp2_with fail
  refine ⟨rfl, _, rfl, _, results_none rfl _ _ _, rfl, rfl, ?_, ?_, ?_⟩
  · refine heap_alloc_keep _ (heap_set_keep _ hne ?_)
    have h := heap_set_same (heap_set_same (heap_set_same (heap_set_same HF.out 0 (.int .i64 x0)) 1 (.int .u32 x1)) 2 (.int .u32 x2)) 3 (.int .i64 x3)
    exact h
  · refine heap_alloc_keep _ ?_
    have h := heap_set_keep (a := ⟨fb, 3, none⟩) (.int .i64 x3) hne.symm (heap_set_keep (a := ⟨fb, 2, none⟩) (.int .u32 x2) hne.symm (heap_set_keep (a := ⟨fb, 1, none⟩) (.int .u32 x1) hne.symm (heap_set_keep (a := ⟨fb, 0, none⟩) (.int .i64 x0) hne.symm HK.out)))
    exact heap_set_same h 0 (.bool false)
  · exact ((((((Upd.refl _ _).setCell (by simp) _).setCell (by simp) _).setCell (by simp) _).setCell (by simp) _).setCell (by simp) _).alloc _

set_option maxRecDepth 100000 in
set_option maxHeartbeats 1000000 in
theorem caught_idle (fb kb : Nat) (w : World) :
    CallsD Try.prog 66 #[.pointer (some ⟨fb, 0, none⟩), .pointer (some ⟨kb, 0, none⟩)] .returning w fun e u' w' => e = .returned (.tuple #[]) ∧ u' = .returning ∧ w = w' := by
  refine callsD_of_wpS Try.func66 rfl fun c₀ cs hu => ?_
  simp only [Try.ntmps66, List.size_toArray, List.length_cons, List.length_nil, Nat.reduceAdd, Nat.reduceSub, Array.replicate_succ, Array.replicate_zero, List.push_toArray, List.append_toArray, List.nil_append, List.cons_append]
  apply wpS_seq
  apply wpS_region
  simp [wpOpsS, go_sem, recoverD, hu, Try.ntmps66, Exit.thenS]
  refine wpS_of_wp ?_
  have HU := Lib.hid hu
  clear hu
  go_wp2_with fail
  refine ⟨rfl, .returning, ?_, _, results_none rfl _ _ _, rfl, rfl, rfl⟩
  rw [← HU.out]

/-- The closure of Read: where it isn't ok the value is nought. -/
theorem read1_any (kb vb : Nat) (ok : Bool) (v : Int) (u : FrameMode) (w : World) (hk : w.heap[kb]? = some (.cells #[.bool ok] 4 (0, 0))) (hv : w.heap[vb]? = some (.cells #[.int .u32 v] 33 (0, 0))) :
    CallsD Try.prog 69 #[.pointer (some ⟨kb, 0, none⟩), .pointer (some ⟨vb, 0, none⟩)] u w fun e u' w' =>
      u' = u ∧ (e = .returned (.tuple #[]) ∧ w'.heap[vb]? = some (.cells #[.int .u32 (if ok then v else 0)] 33 (0, 0)) ∧ Upd [vb] w w') := by
  have hck : w.cell? ⟨kb, 0, none⟩ = some (.bool ok) := by rw [cells_of hk]; rfl
  have hcv : w.cell? ⟨vb, 0, none⟩ = some (.int .u32 v) := by rw [cells_of hv]; rfl
  have hfv : w.frozen? ⟨vb, 0, none⟩ = false := free_of hv 0
  have HV := Lib.hid hv
  clear hk hv
  cases ok
  · go_enter_d Try.func69, Try.ntmps69
    go_wp2
    go_end0
    exact ⟨rfl, heap_set_same HV.out 0 (.int .u32 0), (Upd.refl _ _).setCell (by simp) _⟩
  · go_enter_d Try.func69, Try.ntmps69
    go_wp2
    go_end0
    exact ⟨rfl, HV.out, Upd.refl _ _⟩

/-- What holds of the world while Read goes through the bytes. -/
structure ReadB (M : Mem) (a pb : Nat) (w : World) (g : Int) (w1 : World) : Prop where
  v : w1.heap[w.heap.size]? = some (.cells #[.int .u32 g] 33 (0, 0))
  f : w1.heap[w.heap.size + 1]? = some (.cells #[.int .i64 0, .int .u32 0, .int .u32 0, .int .i64 0] 112 (0, 0))
  k : w1.heap[w.heap.size + 1 + 1]? = some (.cells #[.bool false] 4 (0, 0))
  m : IsMem w1 a pb M
  u : Upd [] w w1
  al : a < w.heap.size
  pl : pb < w.heap.size

def rightI (r : Int) : Int := if r ≠ 2 ∧ r ≠ 4 then 1 else r

/-- The place of the i-th byte from at on. -/
def plus (x : Int) (i : Nat) : Int := (x + i) % 4294967296

/-- The bytes read so far, the lowest first. -/
def Mem.get (M : Mem) (x : Int) : Nat → Int
  | 0 => 0
  | i + 1 => M.get x i + M.B (plus x i).toNat * 2 ^ (8 * i)

/-- The first of n bytes that can't be used so. -/
def Mem.bad (M : Mem) (x right : Int) (n : Nat) : Option Nat := (List.range n).find? fun i => !M.can (plus x i) right

/-- What Read tells: the value, the fault, whether it is ok. -/
def Mem.readV (M : Mem) (x bytes right : Int) : Int :=
  match M.bad x (rightI right) (widthI bytes).toNat with | none => M.get x (widthI bytes).toNat | some _ => 0
def Mem.readF (M : Mem) (x bytes right : Int) : Value :=
  match M.bad x (rightI right) (widthI bytes).toNat with | none => .agg #[.int .i64 0, .int .u32 0, .int .u32 0, .int .i64 0] | some i => pageFault (plus x i) (rightI right)
def Mem.readK (M : Mem) (x bytes right : Int) : Bool := (M.bad x (rightI right) (widthI bytes).toNat).isNone

theorem width_cases (n : Int) : widthI n = 1 ∨ widthI n = 2 ∨ widthI n = 4 := by
  unfold widthI; split <;> omega

theorem read_results (tmps : Array Value) (vb fb kb : Nat) (v y0 y1 y2 y3 : Int) (k : Bool) (w : World) (h8 : tmps.getD 8 undef = .pointer (some ⟨vb, 0, none⟩)) (h9 : tmps.getD 9 undef = .pointer (some ⟨fb, 0, none⟩)) (h10 : tmps.getD 10 undef = .pointer (some ⟨kb, 0, none⟩))
    (hv : w.heap[vb]? = some (.cells #[.int .u32 v] 33 (0, 0))) (hf : w.heap[fb]? = some (.cells #[.int .i64 y0, .int .u32 y1, .int .u32 y2, .int .i64 y3] 112 (0, 0))) (hk : w.heap[kb]? = some (.cells #[.bool k] 4 (0, 0))) :
    (results Try.f50 tmps).run Try.prog w = .ok (.tuple #[.int .u32 v, .agg #[.int .i64 y0, .int .u32 y1, .int .u32 y2, .int .i64 y3], .bool k]) w := by
  have cv : ∀ o, w.cell? ⟨vb, o, none⟩ = #[.int .u32 v][o]? := cells_of hv
  have cf : ∀ o, w.cell? ⟨fb, o, none⟩ = #[.int .i64 y0, .int .u32 y1, .int .u32 y2, .int .i64 y3][o]? := cells_of hf
  have ck : ∀ o, w.cell? ⟨kb, o, none⟩ = #[.bool k][o]? := cells_of hk
  rw [Array.getD_eq_getD_getElem?] at h8 h9 h10
  simp [results, Try.results50, go_sem, h8, h9, h10, cv, cf, ck]

def readDefers (w : World) : List Deferred :=
  [{ target := .fn (.func 66) #[], args := #[.pointer (some ⟨w.heap.size + 1, 0, none⟩), .pointer (some ⟨w.heap.size + 1 + 1, 0, none⟩)] },
   { target := .fn (.func 69) #[.pointer (some ⟨w.heap.size + 1 + 1, 0, none⟩), .pointer (some ⟨w.heap.size, 0, none⟩)], args := #[] }]

structure ReadT (w : World) (tmps : Array Value) : Prop where
  h8 : tmps.getD 8 undef = .pointer (some ⟨w.heap.size, 0, none⟩)
  h9 : tmps.getD 9 undef = .pointer (some ⟨w.heap.size + 1, 0, none⟩)
  h10 : tmps.getD 10 undef = .pointer (some ⟨w.heap.size + 1 + 1, 0, none⟩)

theorem read_door_panic (M : Mem) (a pb : Nat) (w w1 : World) (g y r : Int) (tmps : Array Value) (R : Ending → World → Prop) (ht : ReadT w tmps) (hB : ReadB M a pb w g w1)
    (hR : ∀ w', Upd [] w w' → R (.returned (.tuple #[.int .u32 0, pageFault y r, .bool false])) w') :
    Leaves Try.prog Try.f50 tmps R (readDefers w) (.panicking [{ v := .iface 112 (pageFault y r), recovered := false }]) w1 := by
  refine leaves_cons (f := 66) (args := #[.pointer (some ⟨w.heap.size + 1, 0, none⟩), .pointer (some ⟨w.heap.size + 1 + 1, 0, none⟩)]) (by simp) (by simp [go_sem]) ?_
  refine (caught_panicking _ _ _ _ _ _ _ _ _ _ _ [] w1 hB.f hB.k (by omega)).mono ?_
  rintro e u' w2 ⟨rfl, rfl, hf, hk, hU⟩
  have hv := hU.get hB.v (by simp; omega)
  simp only [settle, List.dropWhile_nil]
  refine leaves_cons (f := 69) (args := #[.pointer (some ⟨w.heap.size + 1 + 1, 0, none⟩), .pointer (some ⟨w.heap.size, 0, none⟩)]) (by simp) (by simp [go_sem]) ?_
  refine (read1_any _ _ false g _ w2 hk hv).mono ?_
  rintro e u' w3 ⟨rfl, rfl, hv', hU'⟩
  have hf' := hU'.get hf (by simp)
  have hk' := hU'.get hk (by simp; omega)
  exact ⟨_, read_results _ _ _ _ _ _ _ _ _ _ w3 ht.h8 ht.h9 ht.h10 hv' hf' hk', hR _ ((hB.u.new hU (by simp; omega)).new hU' (by simp))⟩

theorem read_door_ret (w w1 : World) (v : Int) (tmps : Array Value) (R : Ending → World → Prop) (ht : ReadT w tmps)
    (hv : w1.heap[w.heap.size]? = some (.cells #[.int .u32 v] 33 (0, 0))) (hf : w1.heap[w.heap.size + 1]? = some (.cells #[.int .i64 0, .int .u32 0, .int .u32 0, .int .i64 0] 112 (0, 0)))
    (hk : w1.heap[w.heap.size + 1 + 1]? = some (.cells #[.bool true] 4 (0, 0))) (hU : Upd [] w w1)
    (hR : ∀ w', Upd [] w w' → R (.returned (.tuple #[.int .u32 v, .agg #[.int .i64 0, .int .u32 0, .int .u32 0, .int .i64 0], .bool true])) w') :
    Leaves Try.prog Try.f50 tmps R (readDefers w) .returning w1 := by
  refine leaves_cons (f := 66) (args := #[.pointer (some ⟨w.heap.size + 1, 0, none⟩), .pointer (some ⟨w.heap.size + 1 + 1, 0, none⟩)]) (by simp) (by simp [go_sem]) ?_
  refine (caught_idle _ _ w1).mono ?_
  rintro e u' w2 ⟨rfl, rfl, rfl⟩
  simp only [settle]
  refine leaves_cons (f := 69) (args := #[.pointer (some ⟨w.heap.size + 1 + 1, 0, none⟩), .pointer (some ⟨w.heap.size, 0, none⟩)]) (by simp) (by simp [go_sem]) ?_
  refine (read1_any _ _ true v _ w1 hk hv).mono ?_
  rintro e u' w3 ⟨rfl, rfl, hv', hU'⟩
  have hf' := hU'.get hf (by simp)
  have hk' := hU'.get hk (by simp; omega)
  exact ⟨_, read_results _ _ _ _ _ _ _ _ _ _ w3 ht.h8 ht.h9 ht.h10 hv' hf' hk', hR _ (hU.new hU' (by simp))⟩

theorem plus_wrap (x : Int) (j : Nat) (h0 : 0 ≤ x) (h1 : x < 4294967296) (hj : j < 4294967296) : IntKind.u32.wrap (x + IntKind.u32.wrap (j : Int)) = plus x j := by
  have : IntKind.u32.wrap (j : Int) = j := by simp [IntKind.wrap, IntKind.signed, IntKind.bits]; omega
  rw [this]
  simp [IntKind.wrap, IntKind.signed, IntKind.bits, plus]

theorem plus_nn (x : Int) (j : Nat) : 0 ≤ plus x j := by unfold plus; omega

theorem can_lt {M : Mem} {x r : Int} (h0 : 0 ≤ x) (h : M.can x r = true) : x < 16384 := by
  simp only [Mem.can, Bool.and_eq_true, decide_eq_true_eq] at h
  exact h.1

theorem IsMem.cbyte {w : World} {a pb : Nat} {M : Mem} (h : IsMem w a pb M) (x : Int) (h0 : 0 ≤ x) (h1 : x < 16384) : w.cell? ⟨pb, cellOf x, none⟩ = some (.int .u8 (M.B x.toNat)) := by
  have := h.cB (x / 256).toNat (x % 256).toNat (by omega) (by omega)
  rw [show (x / 256).toNat * 256 + (x % 256).toNat = x.toNat from by omega] at this
  exact this

theorem byte_bd {w : World} {a pb : Nat} {M : Mem} (h : IsMem w a pb M) {x : Int} (h0 : 0 ≤ x) (h1 : x < 16384) : 0 ≤ M.B x.toNat ∧ M.B x.toNat ≤ 255 := h.ok.B _

theorem get_bd {w : World} {a pb : Nat} {M : Mem} (h : IsMem w a pb M) (x : Int) (j : Nat) : 0 ≤ M.get x j ∧ M.get x j < 2 ^ (8 * j) := by
  induction j with
  | zero => simp [Mem.get]
  | succ j ih =>
    have hb := h.ok.B (plus x j).toNat
    simp only [Mem.get]
    have hp : (0 : Int) < 2 ^ (8 * j) := Int.pow_pos (by decide)
    have e : (2 : Int) ^ (8 * (j + 1)) = 256 * 2 ^ (8 * j) := by
      rw [Nat.mul_add, Int.pow_add]; simp [Int.mul_comm]
    rw [e]
    generalize (2 : Int) ^ (8 * j) = p at *
    generalize M.B (plus x j).toNat = b at *
    have h1 : 0 ≤ b * p := Int.mul_nonneg hb.1 (by omega)
    have h2 : b * p ≤ 255 * p := Int.mul_le_mul_of_nonneg_right hb.2 (by omega)
    omega

theorem or_add (g b : Int) (k : Nat) (hg0 : 0 ≤ g) (hg : g < 2 ^ k) (hb0 : 0 ≤ b) (hk : b * 2 ^ k + g < 4294967296) : bits .or .u32 g (b * 2 ^ k % 4294967296) = g + b * 2 ^ k := by
  obtain ⟨g, rfl⟩ := Int.eq_ofNat_of_zero_le hg0
  obtain ⟨b, rfl⟩ := Int.eq_ofNat_of_zero_le hb0
  have hg' : g < 2 ^ k := by exact_mod_cast hg
  have e0 : ((b : Int) * 2 ^ k) = ((b * 2 ^ k : Nat) : Int) := by
    rw [Int.natCast_mul, Int.natCast_pow]; rfl
  rw [e0] at hk
  have e2 : g ||| b * 2 ^ k = g + b * 2 ^ k := by
    rw [Nat.or_comm, nat_join k _ _ (Nat.mul_mod_left _ _) hg', Nat.add_comm]
  rw [e0]
  generalize hq : b * 2 ^ k = q at *
  have e1 : (q : Int) % 4294967296 = (q : Int) := by omega
  rw [e1, u32_or_nat _ _ (by omega) (by omega), e2]
  rfl

theorem get_or {w : World} {a pb : Nat} {M : Mem} (h : IsMem w a pb M) (x : Int) (j : Nat) (hj : j < 4) :
    bits .or .u32 (M.get x j) (M.B (plus x j).toNat * 2 ^ (8 * j) % 4294967296) = M.get x (j + 1) := by
  have hb := h.ok.B (plus x j).toNat
  have hg := get_bd h x j
  simp only [Mem.get]
  refine or_add _ _ _ hg.1 hg.2 hb.1 ?_
  have h2 := (get_bd h x (j + 1)).2
  simp only [Mem.get] at h2
  have : (2 : Int) ^ (8 * (j + 1)) ≤ 2 ^ 32 := by
    have := Nat.pow_le_pow_right (show 0 < 2 by decide) (show 8 * (j + 1) ≤ 32 by omega)
    exact_mod_cast this
  have e : (2 : Int) ^ 32 = 4294967296 := by decide
  omega

theorem ReadB.store {M : Mem} {a pb : Nat} {w w1 : World} {g : Int} (h : ReadB M a pb w g w1) (v : Int) : ReadB M a pb w v (w1.setCell ⟨w.heap.size, 0, none⟩ (.int .u32 v)) := by
  refine ⟨heap_set_same h.v 0 _, heap_set_keep _ (by simp) h.f, heap_set_keep _ (by simp; omega) h.k, h.m.keep (S := [w.heap.size]) ((Upd.refl _ _).setCell (by simp) _) ?_ ?_, h.u.setCell (by simp) _, h.al, h.pl⟩
  · have := h.al; simp; omega
  · have := h.pl; simp; omega

theorem bad_some (M : Mem) (x r : Int) (n j : Nat) (hj : j < n) (hc : ∀ t, t < j → M.can (plus x t) r = true) (hb : M.can (plus x j) r = false) : M.bad x r n = some j := by
  unfold Mem.bad
  rw [List.find?_range_eq_some]
  exact ⟨by simp [hb], by simpa using hj, fun t ht => by simp [hc t ht]⟩

theorem bad_none (M : Mem) (x r : Int) (n : Nat) (hc : ∀ t, t < n → M.can (plus x t) r = true) : M.bad x r n = none := by
  unfold Mem.bad
  rw [List.find?_eq_none]
  intro t ht
  simp [hc t (List.mem_range.1 ht)]

set_option maxRecDepth 100000 in
set_option maxHeartbeats 4000000 in
theorem Read_any (M : Mem) (a pb : Nat) (x bytes right : Int) (w : World) (hM : IsMem w a pb M) (h0 : 0 ≤ x) (h1 : x < 4294967296) :
    Calls Try.prog 50 #[.pointer (some ⟨a, 0, none⟩), .int .u32 x, .int .i64 bytes, .int .i64 right] w fun e w' =>
      e = .returned (.tuple #[.int .u32 (M.readV x bytes right), M.readF x bytes right, .bool (M.readK x bytes right)]) ∧ Upd [] w w' := by
  have hmf : ∀ (fn : Fn) (first cap : Array Value) (w : World), (Instr.makeFunc fn first cap).run Try.prog w = .ok (.func fn first cap) w := fun _ _ _ _ => rfl
  have hal := hM.al
  have hpl := hM.pl
  have hw3 := width_cases bytes
  obtain ⟨n, hn⟩ : ∃ n : Nat, widthI bytes = n := ⟨(widthI bytes).toNat, by omega⟩
  have HN := Lib.hid hn
  have hn4 : n ≤ 4 := by omega
  clear hw3 hn
  have h3 : (right = 2 ∧ rightI right = 2) ∨ (right = 4 ∧ rightI right = 4) ∨ (right ≠ 2 ∧ right ≠ 4 ∧ rightI right = 1) := by
    by_cases hr : right = 2
    · exact .inl ⟨hr, by rw [hr]; rfl⟩
    · by_cases hr4 : right = 4
      · exact .inr (.inl ⟨hr4, by rw [hr4]; rfl⟩)
      · exact .inr (.inr ⟨hr, hr4, by simp [rightI, hr, hr4]⟩)
  have hfinP : ∀ (j : Nat) (w' : World), j < n → (∀ t, t < j → M.can (plus x t) (rightI right) = true) → M.can (plus x j) (rightI right) = false → Upd [] w w' →
      (fun e w' => e = Ending.returned (.tuple #[.int .u32 (M.readV x bytes right), M.readF x bytes right, .bool (M.readK x bytes right)]) ∧ Upd [] w w') (.returned (.tuple #[.int .u32 0, pageFault (plus x j) (rightI right), .bool false])) w' := by
    intro j w' hj hc hb hU
    have hbad := bad_some M x (rightI right) n j hj hc hb
    refine ⟨?_, hU⟩
    simp only [Mem.readV, Mem.readF, Mem.readK, HN.out, Int.toNat_natCast, hbad]
    rfl
  have HFP := Lib.hid hfinP
  clear hfinP
  have hfinK : ∀ (w' : World), (∀ t, t < n → M.can (plus x t) (rightI right) = true) → Upd [] w w' →
      (fun e w' => e = Ending.returned (.tuple #[.int .u32 (M.readV x bytes right), M.readF x bytes right, .bool (M.readK x bytes right)]) ∧ Upd [] w w') (.returned (.tuple #[.int .u32 (M.get x n), .agg #[.int .i64 0, .int .u32 0, .int .u32 0, .int .i64 0], .bool true])) w' := by
    intro w' hc hU
    have hbad := bad_none M x (rightI right) n hc
    refine ⟨?_, hU⟩
    simp only [Mem.readV, Mem.readF, Mem.readK, HN.out, Int.toNat_natCast, hbad]
    rfl
  have HFK := Lib.hid hfinK
  clear hfinK
  have hstart : ReadB M a pb w (M.get x 0) (((w.alloc (Obj.cells #[Value.int IntKind.u32 0] 33)).alloc (Obj.cells #[Value.int IntKind.i64 0, Value.int IntKind.u32 0, Value.int IntKind.u32 0, Value.int IntKind.i64 0] 112)).alloc (Obj.cells #[Value.bool false] 4)) := by
    refine ⟨heap_alloc_keep _ (heap_alloc_keep _ (heap_alloc_new _ _)), heap_alloc_keep _ (heap_alloc2_new _ _ _), ?_, ?_, ?_, hal, hpl⟩
    · have := heap_alloc_new ((w.alloc (Obj.cells #[Value.int IntKind.u32 0] 33)).alloc (Obj.cells #[Value.int IntKind.i64 0, Value.int IntKind.u32 0, Value.int IntKind.u32 0, Value.int IntKind.i64 0] 112)) (Obj.cells #[Value.bool false] 4)
      simpa using this
    · exact hM.keep (S := []) ((((Upd.refl _ _).alloc _).alloc _).alloc _) (by simp) (by simp)
    · exact (((Upd.refl _ _).alloc _).alloc _).alloc _
  have HS := Lib.hid hstart
  clear hstart hM
  rcases h3 with ⟨e1, hR⟩ | ⟨e1, hR⟩ | ⟨e1, e2, hR⟩
  · have HR := Lib.hid hR
    subst e1
    clear hR
    go_enter_defers Try.func50, Try.ntmps50
    go_wp2_with (go_at_call 67; refine (width_any bytes _).mono ?_; rintro e w' ⟨rfl, rfl⟩; rw [HN.out])
    go_loopw [11, 21] (fun _ i wr => ∃ j : Nat, j ≤ n ∧ i = .int .i64 j ∧ (∀ t, t < j → M.can (plus x t) (rightI 2) = true) ∧ ReadB M a pb w (M.get x j) wr) (fun _ i _ => n - (intOf i).toNat)
    case atStart => exact ⟨0, Nat.zero_le _, rfl, by simp, HS.out⟩
    case round =>
      obtain ⟨j, hj, rfl, hcan, hB⟩ := hrel
      have HC := Lib.hid hcan
      have HB := Lib.hid hB
      clear hcan hB
      by_cases hlt : j < n
      · have hplus := plus_wrap x j h0 h1 (by omega)
        have HP := Lib.hid hplus
        clear hplus
        cases hb : M.can (plus x j) (rightI 2)
        · have HBad := Lib.hid hb
          clear hb
          go_wp2_with fail
          refine wp_draw 15 (ReadB M a pb w (M.get x j)) (fun c w1 => c = [{ v := .iface 112 (pageFault (plus x j) (rightI 2)), recovered := false }] ∧ ReadB M a pb w (M.get x j) w1) (by kernel_rfl) (by kernel_rfl) ⟨HB.out.v, HB.out.f, HB.out.k, HB.out.m.drew, HB.out.u.drew, HB.out.al, HB.out.pl⟩ ?_ ?_
          · rintro c a' w1 ⟨rfl, hB1⟩ hd hs ht
            go_wp2_with fail
            show Leaves _ _ _ _ a'.defers _ _
            rw [hd]
            refine read_door_panic M a pb w w1 _ _ _ _ _ ⟨?_, ?_, ?_⟩ hB1 (fun w' hU => HFP.out j w' hlt HC.out HBad.out hU)
            · rw [Array.getD_eq_getD_getElem?, ht 8 rfl]; rfl
            · rw [Array.getD_eq_getD_getElem?, ht 9 rfl]; rfl
            · rw [Array.getD_eq_getD_getElem?, ht 10 rfl]; rfl
          · simp only [List.take_succ_cons, List.take_zero, List.drop_succ_cons, List.drop_zero]
            repeat
              apply headW_val rfl rfl
              · intro K hK w1 hB1
                have cv : w1.cell? ⟨w.heap.size, 0, none⟩ = some (.int .u32 (M.get x j)) := (by rw [cells_of hB1.v]; rfl)
                go_wp2_with fail
                exact hB1
              · exact ⟨_, rfl⟩
            refine headW_dies rfl rfl ?_ ?_
            · intro w1 hB1
              go_wp2_with fail
              refine (at_bad a pb (plus x j) _ w1 M hB1.m (plus_nn x j) (by have := HBad.out; rw [HR.out] at this; exact this)).mono ?_
              rintro e w2 ⟨rfl, rfl⟩
              rw [HR.out]
              exact ⟨rfl, hB1⟩
            repeat
              first
              | refine headW_dead rfl ?_
              | apply headW_val rfl rfl
                · intro K hK w1 hB1
                  go_wp2_with fail
                  exact hB1
                · exact ⟨_, rfl⟩
            exact headW_nil (fun h => by cases h)
        · have HGood := Lib.hid hb
          clear hb
          have hx := can_lt (plus_nn x j) HGood.out
          have HX := Lib.hid hx
          clear hx
          go_wp2_with fail
          refine wp_draw 15 (ReadB M a pb w (M.get x j)) (fun _ _ => False) (by kernel_rfl) (by kernel_rfl) ⟨HB.out.v, HB.out.f, HB.out.k, HB.out.m.drew, HB.out.u.drew, HB.out.al, HB.out.pl⟩ (fun _ _ _ h => h.elim) ?_
          simp only [List.take_succ_cons, List.take_zero, List.drop_succ_cons, List.drop_zero]
          have hb8 := byte_bd HB.out.m (plus_nn x j) HX.out
          have hg8 := get_bd HB.out.m x j
          repeat
            apply headW_val rfl rfl
            · intro K hK w1 hB1
              have cv : w1.cell? ⟨w.heap.size, 0, none⟩ = some (.int .u32 (M.get x j)) := (by rw [cells_of hB1.v]; rfl)
              have cb := hB1.m.cbyte _ (plus_nn x j) HX.out
              go_wp2_with (go_at_call 68; refine (at_ok a pb (plus x j) _ w1 M hB1.m (plus_nn x j) (by have := HGood.out; rw [HR.out] at this; exact this)).mono ?_; rintro e w2 ⟨rfl, rfl⟩)
              exact hB1
            · exact ⟨_, rfl⟩
          refine headW_nil (fun _ w1 hB1 => ?_)
          have hor := get_or HB.out.m x j (by omega)
          have HOR := Lib.hid hor
          have HB1 := Lib.hid hB1
          have cv : w1.cell? ⟨w.heap.size, 0, none⟩ = some (.int .u32 (M.get x j)) := (by rw [cells_of hB1.v]; rfl)
          have fv : w1.frozen? ⟨w.heap.size, 0, none⟩ = false := free_of hB1.v 0
          clear hB1 hor hb8 hg8
          go_wp2_with fail
          rw [HOR.out]
          go_roundw
          case rel => exact ⟨j + 1, by omega, by go_num, fun t ht => by
              by_cases e : t = j
              · subst e; exact HGood.out
              · exact HC.out t (by omega), HB1.out.store _⟩
          case measure => simp [intOf]; omega
      · have cv : wr.cell? ⟨w.heap.size, 0, none⟩ = some (.int .u32 (M.get x j)) := (by rw [cells_of HB.out.v]; rfl)
        have fv : wr.frozen? ⟨w.heap.size, 0, none⟩ = false := free_of HB.out.v 0
        have cf : ∀ o, wr.cell? ⟨w.heap.size + 1, o, none⟩ = #[.int .i64 0, .int .u32 0, .int .u32 0, .int .i64 0][o]? := cells_of HB.out.f
        have ff : ∀ o, wr.frozen? ⟨w.heap.size + 1, o, none⟩ = false := free_of HB.out.f
        have ck : ∀ o, wr.cell? ⟨w.heap.size + 1 + 1, o, none⟩ = #[.bool false][o]? := cells_of HB.out.k
        have fk : ∀ o, wr.frozen? ⟨w.heap.size + 1 + 1, o, none⟩ = false := free_of HB.out.k
        go_wp2_with fail
        have e : j = n := by omega
        subst e
        refine read_door_ret w _ (M.get x j) _ _ ⟨rfl, rfl, rfl⟩ ?_ ?_ ?_ ?_ (fun w' hU => HFK.out w' HC.out hU)
        · exact heap_set_keep _ (by simp <;> omega) (heap_set_keep _ (by simp <;> omega) (heap_set_keep _ (by simp <;> omega) (heap_set_keep _ (by simp <;> omega) (heap_set_keep _ (by simp <;> omega) (heap_set_same HB.out.v 0 _)))))
        · refine heap_set_keep _ (by simp <;> omega) ?_
          have h := heap_set_same (heap_set_same (heap_set_same (heap_set_same (heap_set_keep (a := ⟨w.heap.size, 0, none⟩) (.int .u32 (M.get x j)) (by simp <;> omega) HB.out.f) 0 (.int .i64 0)) 1 (.int .u32 0)) 2 (.int .u32 0)) 3 (.int .i64 0)
          exact h
        · exact heap_set_same (heap_set_keep _ (by simp <;> omega) (heap_set_keep _ (by simp <;> omega) (heap_set_keep _ (by simp <;> omega) (heap_set_keep _ (by simp <;> omega) (heap_set_keep _ (by simp <;> omega) HB.out.k))))) 0 _
        · exact (((((HB.out.u.setCell (by simp <;> omega) _).setCell (by simp <;> omega) _).setCell (by simp <;> omega) _).setCell (by simp <;> omega) _).setCell (by simp <;> omega) _).setCell (by simp <;> omega) _
  · have HR := Lib.hid hR
    subst e1
    clear hR
    go_enter_defers Try.func50, Try.ntmps50
    go_wp2_with (go_at_call 67; refine (width_any bytes _).mono ?_; rintro e w' ⟨rfl, rfl⟩; rw [HN.out])
    go_loopw [11, 21] (fun _ i wr => ∃ j : Nat, j ≤ n ∧ i = .int .i64 j ∧ (∀ t, t < j → M.can (plus x t) (rightI 4) = true) ∧ ReadB M a pb w (M.get x j) wr) (fun _ i _ => n - (intOf i).toNat)
    case atStart => exact ⟨0, Nat.zero_le _, rfl, by simp, HS.out⟩
    case round =>
      obtain ⟨j, hj, rfl, hcan, hB⟩ := hrel
      have HC := Lib.hid hcan
      have HB := Lib.hid hB
      clear hcan hB
      by_cases hlt : j < n
      · have hplus := plus_wrap x j h0 h1 (by omega)
        have HP := Lib.hid hplus
        clear hplus
        cases hb : M.can (plus x j) (rightI 4)
        · have HBad := Lib.hid hb
          clear hb
          go_wp2_with fail
          refine wp_draw 15 (ReadB M a pb w (M.get x j)) (fun c w1 => c = [{ v := .iface 112 (pageFault (plus x j) (rightI 4)), recovered := false }] ∧ ReadB M a pb w (M.get x j) w1) (by kernel_rfl) (by kernel_rfl) ⟨HB.out.v, HB.out.f, HB.out.k, HB.out.m.drew, HB.out.u.drew, HB.out.al, HB.out.pl⟩ ?_ ?_
          · rintro c a' w1 ⟨rfl, hB1⟩ hd hs ht
            go_wp2_with fail
            show Leaves _ _ _ _ a'.defers _ _
            rw [hd]
            refine read_door_panic M a pb w w1 _ _ _ _ _ ⟨?_, ?_, ?_⟩ hB1 (fun w' hU => HFP.out j w' hlt HC.out HBad.out hU)
            · rw [Array.getD_eq_getD_getElem?, ht 8 rfl]; rfl
            · rw [Array.getD_eq_getD_getElem?, ht 9 rfl]; rfl
            · rw [Array.getD_eq_getD_getElem?, ht 10 rfl]; rfl
          · simp only [List.take_succ_cons, List.take_zero, List.drop_succ_cons, List.drop_zero]
            repeat
              apply headW_val rfl rfl
              · intro K hK w1 hB1
                have cv : w1.cell? ⟨w.heap.size, 0, none⟩ = some (.int .u32 (M.get x j)) := (by rw [cells_of hB1.v]; rfl)
                go_wp2_with fail
                exact hB1
              · exact ⟨_, rfl⟩
            refine headW_dies rfl rfl ?_ ?_
            · intro w1 hB1
              go_wp2_with fail
              refine (at_bad a pb (plus x j) _ w1 M hB1.m (plus_nn x j) (by have := HBad.out; rw [HR.out] at this; exact this)).mono ?_
              rintro e w2 ⟨rfl, rfl⟩
              rw [HR.out]
              exact ⟨rfl, hB1⟩
            repeat
              first
              | refine headW_dead rfl ?_
              | apply headW_val rfl rfl
                · intro K hK w1 hB1
                  go_wp2_with fail
                  exact hB1
                · exact ⟨_, rfl⟩
            exact headW_nil (fun h => by cases h)
        · have HGood := Lib.hid hb
          clear hb
          have hx := can_lt (plus_nn x j) HGood.out
          have HX := Lib.hid hx
          clear hx
          go_wp2_with fail
          refine wp_draw 15 (ReadB M a pb w (M.get x j)) (fun _ _ => False) (by kernel_rfl) (by kernel_rfl) ⟨HB.out.v, HB.out.f, HB.out.k, HB.out.m.drew, HB.out.u.drew, HB.out.al, HB.out.pl⟩ (fun _ _ _ h => h.elim) ?_
          simp only [List.take_succ_cons, List.take_zero, List.drop_succ_cons, List.drop_zero]
          have hb8 := byte_bd HB.out.m (plus_nn x j) HX.out
          have hg8 := get_bd HB.out.m x j
          repeat
            apply headW_val rfl rfl
            · intro K hK w1 hB1
              have cv : w1.cell? ⟨w.heap.size, 0, none⟩ = some (.int .u32 (M.get x j)) := (by rw [cells_of hB1.v]; rfl)
              have cb := hB1.m.cbyte _ (plus_nn x j) HX.out
              go_wp2_with (go_at_call 68; refine (at_ok a pb (plus x j) _ w1 M hB1.m (plus_nn x j) (by have := HGood.out; rw [HR.out] at this; exact this)).mono ?_; rintro e w2 ⟨rfl, rfl⟩)
              exact hB1
            · exact ⟨_, rfl⟩
          refine headW_nil (fun _ w1 hB1 => ?_)
          have hor := get_or HB.out.m x j (by omega)
          have HOR := Lib.hid hor
          have HB1 := Lib.hid hB1
          have cv : w1.cell? ⟨w.heap.size, 0, none⟩ = some (.int .u32 (M.get x j)) := (by rw [cells_of hB1.v]; rfl)
          have fv : w1.frozen? ⟨w.heap.size, 0, none⟩ = false := free_of hB1.v 0
          clear hB1 hor hb8 hg8
          go_wp2_with fail
          rw [HOR.out]
          go_roundw
          case rel => exact ⟨j + 1, by omega, by go_num, fun t ht => by
              by_cases e : t = j
              · subst e; exact HGood.out
              · exact HC.out t (by omega), HB1.out.store _⟩
          case measure => simp [intOf]; omega
      · have cv : wr.cell? ⟨w.heap.size, 0, none⟩ = some (.int .u32 (M.get x j)) := (by rw [cells_of HB.out.v]; rfl)
        have fv : wr.frozen? ⟨w.heap.size, 0, none⟩ = false := free_of HB.out.v 0
        have cf : ∀ o, wr.cell? ⟨w.heap.size + 1, o, none⟩ = #[.int .i64 0, .int .u32 0, .int .u32 0, .int .i64 0][o]? := cells_of HB.out.f
        have ff : ∀ o, wr.frozen? ⟨w.heap.size + 1, o, none⟩ = false := free_of HB.out.f
        have ck : ∀ o, wr.cell? ⟨w.heap.size + 1 + 1, o, none⟩ = #[.bool false][o]? := cells_of HB.out.k
        have fk : ∀ o, wr.frozen? ⟨w.heap.size + 1 + 1, o, none⟩ = false := free_of HB.out.k
        go_wp2_with fail
        have e : j = n := by omega
        subst e
        refine read_door_ret w _ (M.get x j) _ _ ⟨rfl, rfl, rfl⟩ ?_ ?_ ?_ ?_ (fun w' hU => HFK.out w' HC.out hU)
        · exact heap_set_keep _ (by simp <;> omega) (heap_set_keep _ (by simp <;> omega) (heap_set_keep _ (by simp <;> omega) (heap_set_keep _ (by simp <;> omega) (heap_set_keep _ (by simp <;> omega) (heap_set_same HB.out.v 0 _)))))
        · refine heap_set_keep _ (by simp <;> omega) ?_
          have h := heap_set_same (heap_set_same (heap_set_same (heap_set_same (heap_set_keep (a := ⟨w.heap.size, 0, none⟩) (.int .u32 (M.get x j)) (by simp <;> omega) HB.out.f) 0 (.int .i64 0)) 1 (.int .u32 0)) 2 (.int .u32 0)) 3 (.int .i64 0)
          exact h
        · exact heap_set_same (heap_set_keep _ (by simp <;> omega) (heap_set_keep _ (by simp <;> omega) (heap_set_keep _ (by simp <;> omega) (heap_set_keep _ (by simp <;> omega) (heap_set_keep _ (by simp <;> omega) HB.out.k))))) 0 _
        · exact (((((HB.out.u.setCell (by simp <;> omega) _).setCell (by simp <;> omega) _).setCell (by simp <;> omega) _).setCell (by simp <;> omega) _).setCell (by simp <;> omega) _).setCell (by simp <;> omega) _
  · have HR := Lib.hid hR
    have f1 : (right != 2) = true := by simpa using e1
    have f2 : (right != 4) = true := by simpa using e2
    clear hR e1 e2
    go_enter_defers Try.func50, Try.ntmps50
    go_wp2_with (go_at_call 67; refine (width_any bytes _).mono ?_; rintro e w' ⟨rfl, rfl⟩; rw [HN.out])
    go_loopw [11, 21] (fun _ i wr => ∃ j : Nat, j ≤ n ∧ i = .int .i64 j ∧ (∀ t, t < j → M.can (plus x t) (rightI right) = true) ∧ ReadB M a pb w (M.get x j) wr) (fun _ i _ => n - (intOf i).toNat)
    case atStart => exact ⟨0, Nat.zero_le _, rfl, by simp, HS.out⟩
    case round =>
      obtain ⟨j, hj, rfl, hcan, hB⟩ := hrel
      have HC := Lib.hid hcan
      have HB := Lib.hid hB
      clear hcan hB
      by_cases hlt : j < n
      · have hplus := plus_wrap x j h0 h1 (by omega)
        have HP := Lib.hid hplus
        clear hplus
        cases hb : M.can (plus x j) (rightI right)
        · have HBad := Lib.hid hb
          clear hb
          go_wp2_with fail
          refine wp_draw 15 (ReadB M a pb w (M.get x j)) (fun c w1 => c = [{ v := .iface 112 (pageFault (plus x j) (rightI right)), recovered := false }] ∧ ReadB M a pb w (M.get x j) w1) (by kernel_rfl) (by kernel_rfl) ⟨HB.out.v, HB.out.f, HB.out.k, HB.out.m.drew, HB.out.u.drew, HB.out.al, HB.out.pl⟩ ?_ ?_
          · rintro c a' w1 ⟨rfl, hB1⟩ hd hs ht
            go_wp2_with fail
            show Leaves _ _ _ _ a'.defers _ _
            rw [hd]
            refine read_door_panic M a pb w w1 _ _ _ _ _ ⟨?_, ?_, ?_⟩ hB1 (fun w' hU => HFP.out j w' hlt HC.out HBad.out hU)
            · rw [Array.getD_eq_getD_getElem?, ht 8 rfl]; rfl
            · rw [Array.getD_eq_getD_getElem?, ht 9 rfl]; rfl
            · rw [Array.getD_eq_getD_getElem?, ht 10 rfl]; rfl
          · simp only [List.take_succ_cons, List.take_zero, List.drop_succ_cons, List.drop_zero]
            repeat
              apply headW_val rfl rfl
              · intro K hK w1 hB1
                have cv : w1.cell? ⟨w.heap.size, 0, none⟩ = some (.int .u32 (M.get x j)) := (by rw [cells_of hB1.v]; rfl)
                go_wp2_with fail
                exact hB1
              · exact ⟨_, rfl⟩
            refine headW_dies rfl rfl ?_ ?_
            · intro w1 hB1
              go_wp2_with fail
              refine (at_bad a pb (plus x j) _ w1 M hB1.m (plus_nn x j) (by have := HBad.out; rw [HR.out] at this; exact this)).mono ?_
              rintro e w2 ⟨rfl, rfl⟩
              rw [HR.out]
              exact ⟨rfl, hB1⟩
            repeat
              first
              | refine headW_dead rfl ?_
              | apply headW_val rfl rfl
                · intro K hK w1 hB1
                  go_wp2_with fail
                  exact hB1
                · exact ⟨_, rfl⟩
            exact headW_nil (fun h => by cases h)
        · have HGood := Lib.hid hb
          clear hb
          have hx := can_lt (plus_nn x j) HGood.out
          have HX := Lib.hid hx
          clear hx
          go_wp2_with fail
          refine wp_draw 15 (ReadB M a pb w (M.get x j)) (fun _ _ => False) (by kernel_rfl) (by kernel_rfl) ⟨HB.out.v, HB.out.f, HB.out.k, HB.out.m.drew, HB.out.u.drew, HB.out.al, HB.out.pl⟩ (fun _ _ _ h => h.elim) ?_
          simp only [List.take_succ_cons, List.take_zero, List.drop_succ_cons, List.drop_zero]
          have hb8 := byte_bd HB.out.m (plus_nn x j) HX.out
          have hg8 := get_bd HB.out.m x j
          repeat
            apply headW_val rfl rfl
            · intro K hK w1 hB1
              have cv : w1.cell? ⟨w.heap.size, 0, none⟩ = some (.int .u32 (M.get x j)) := (by rw [cells_of hB1.v]; rfl)
              have cb := hB1.m.cbyte _ (plus_nn x j) HX.out
              go_wp2_with (go_at_call 68; refine (at_ok a pb (plus x j) _ w1 M hB1.m (plus_nn x j) (by have := HGood.out; rw [HR.out] at this; exact this)).mono ?_; rintro e w2 ⟨rfl, rfl⟩)
              exact hB1
            · exact ⟨_, rfl⟩
          refine headW_nil (fun _ w1 hB1 => ?_)
          have hor := get_or HB.out.m x j (by omega)
          have HOR := Lib.hid hor
          have HB1 := Lib.hid hB1
          have cv : w1.cell? ⟨w.heap.size, 0, none⟩ = some (.int .u32 (M.get x j)) := (by rw [cells_of hB1.v]; rfl)
          have fv : w1.frozen? ⟨w.heap.size, 0, none⟩ = false := free_of hB1.v 0
          clear hB1 hor hb8 hg8
          go_wp2_with fail
          rw [HOR.out]
          go_roundw
          case rel => exact ⟨j + 1, by omega, by go_num, fun t ht => by
              by_cases e : t = j
              · subst e; exact HGood.out
              · exact HC.out t (by omega), HB1.out.store _⟩
          case measure => simp [intOf]; omega
      · have cv : wr.cell? ⟨w.heap.size, 0, none⟩ = some (.int .u32 (M.get x j)) := (by rw [cells_of HB.out.v]; rfl)
        have fv : wr.frozen? ⟨w.heap.size, 0, none⟩ = false := free_of HB.out.v 0
        have cf : ∀ o, wr.cell? ⟨w.heap.size + 1, o, none⟩ = #[.int .i64 0, .int .u32 0, .int .u32 0, .int .i64 0][o]? := cells_of HB.out.f
        have ff : ∀ o, wr.frozen? ⟨w.heap.size + 1, o, none⟩ = false := free_of HB.out.f
        have ck : ∀ o, wr.cell? ⟨w.heap.size + 1 + 1, o, none⟩ = #[.bool false][o]? := cells_of HB.out.k
        have fk : ∀ o, wr.frozen? ⟨w.heap.size + 1 + 1, o, none⟩ = false := free_of HB.out.k
        go_wp2_with fail
        have e : j = n := by omega
        subst e
        refine read_door_ret w _ (M.get x j) _ _ ⟨rfl, rfl, rfl⟩ ?_ ?_ ?_ ?_ (fun w' hU => HFK.out w' HC.out hU)
        · exact heap_set_keep _ (by simp <;> omega) (heap_set_keep _ (by simp <;> omega) (heap_set_keep _ (by simp <;> omega) (heap_set_keep _ (by simp <;> omega) (heap_set_keep _ (by simp <;> omega) (heap_set_same HB.out.v 0 _)))))
        · refine heap_set_keep _ (by simp <;> omega) ?_
          have h := heap_set_same (heap_set_same (heap_set_same (heap_set_same (heap_set_keep (a := ⟨w.heap.size, 0, none⟩) (.int .u32 (M.get x j)) (by simp <;> omega) HB.out.f) 0 (.int .i64 0)) 1 (.int .u32 0)) 2 (.int .u32 0)) 3 (.int .i64 0)
          exact h
        · exact heap_set_same (heap_set_keep _ (by simp <;> omega) (heap_set_keep _ (by simp <;> omega) (heap_set_keep _ (by simp <;> omega) (heap_set_keep _ (by simp <;> omega) (heap_set_keep _ (by simp <;> omega) HB.out.k))))) 0 _
        · exact (((((HB.out.u.setCell (by simp <;> omega) _).setCell (by simp <;> omega) _).setCell (by simp <;> omega) _).setCell (by simp <;> omega) _).setCell (by simp <;> omega) _).setCell (by simp <;> omega) _

theorem IsMem.store {w1 : World} {a pb : Nat} {M : Mem} (h : IsMem w1 a pb M) {y : Int} (h0 : 0 ≤ y) (h1 : y < 16384) {b : Int} (hb0 : 0 ≤ b) (hb1 : b ≤ 255) :
    IsMem (w1.setCell ⟨pb, cellOf y, none⟩ (.int .u8 b)) a pb (M.setB y.toNat b) := by
  refine h.set _ _ (by unfold cellOf; omega) ?_ (Mem.setB_ok h.ok _ hb0 hb1)
  rw [cellOf, Mem.cells_setB _ _ _ _ (by omega) (by omega), show (y / 256).toNat * 256 + (y % 256).toNat = y.toNat from by omega]

end Go.Proofs.Ytdgclmibbmofcaa

/-
  Package page: Peek, Poke: each by its contract.
-/
namespace Go.Proofs.Ytdgclmibbmofcaa
open Go Go.RowKit
set_option linter.unusedVariables false
set_option linter.unusedSimpArgs false

theorem info_u8 : (Try.prog.info? 5).map (fun i => (i.zero, i.size, i.bytes)) = some (some (.int .u8 0), 1, 1) := by kernel_rfl

/-- How many bytes from x on are mapped, at most c. -/
def Mem.peekN (M : Mem) (x : Int) (c : Nat) : Nat := ((List.range c).find? fun i => !M.mappedB (plus x i)).getD c

def Mem.peekL (M : Mem) (x : Int) (k : Nat) : List Int := (List.range k).map fun i => M.B (plus x i).toNat

theorem peekL_succ (M : Mem) (x : Int) (k : Nat) : M.peekL x (k + 1) = M.peekL x k ++ [M.B (plus x k).toNat] := by
  simp [Mem.peekL, List.range_succ]

theorem peekL_length (M : Mem) (x : Int) (k : Nat) : (M.peekL x k).length = k := by simp [Mem.peekL]

theorem peekN_stop (M : Mem) (x : Int) (c j : Nat) (hj : j < c) (hc : ∀ t, t < j → M.mappedB (plus x t) = true) (hb : M.mappedB (plus x j) = false) : M.peekN x c = j := by
  have : (List.range c).find? (fun i => !M.mappedB (plus x i)) = some j := by
    rw [List.find?_range_eq_some]
    exact ⟨by simp [hb], by simpa using hj, fun t ht => by simp [hc t ht]⟩
  simp [Mem.peekN, this]

theorem peekN_all (M : Mem) (x : Int) (c : Nat) (hc : ∀ t, t < c → M.mappedB (plus x t) = true) : M.peekN x c = c := by
  have : (List.range c).find? (fun i => !M.mappedB (plus x i)) = none := by
    rw [List.find?_eq_none]
    intro t ht
    simp [hc t (List.mem_range.1 ht)]
  simp [Mem.peekN, this]

theorem mapped_lt {M : Mem} {x : Int} (h : M.mappedB x = true) : x < 16384 := by
  simp only [Mem.mappedB, Bool.and_eq_true, decide_eq_true_eq] at h
  exact h.1

theorem plus_zero (x : Int) (h0 : 0 ≤ x) (h1 : x < 4294967296) : plus x 0 = x := by
  unfold plus; omega

theorem plus_succ' (x : Int) (j : Nat) (h : plus x j < 16384) : plus x j + 1 = plus x (j + 1) := by
  unfold plus at *; omega

theorem plus_lt (x : Int) (j : Nat) : plus x j < 4294967296 := by unfold plus; omega

/-- The list that Peek tells. -/
def Mem.peek (M : Mem) (x n : Int) : List Int := M.peekL x (M.peekN x (min n 16384).toNat)

set_option maxRecDepth 100000 in
set_option maxHeartbeats 2000000 in
theorem Peek_any (M : Mem) (a pb : Nat) (x n : Int) (w : World) (hM : IsMem w a pb M) (h0 : 0 ≤ x) (h1 : x < 4294967296) (hn : -9223372036854775808 ≤ n) (hn' : n ≤ 9223372036854775807) :
    Calls Try.prog 21 #[.pointer (some ⟨a, 0, none⟩), .int .u32 x, .int .i64 n] w fun e w' =>
      ∃ v, e = .returned v ∧ w'.ownsRow w.heap.size 5 1 v (M.peek x n).length ((M.peek x n).map (Value.int .u8)) ∧ Upd [] w w' := by
  obtain ⟨i0, hi, hz0, hz1, hz2⟩ := info_parts info_u8
  have HI := Lib.hid (And.intro hi (And.intro hz0 (And.intro hz1 hz2)))
  clear hi hz0 hz1 hz2
  obtain ⟨k, hk⟩ : ∃ k : Nat, (min n 16384).toNat = k := ⟨_, rfl⟩
  have hk2 : Hid (k ≤ 16384) := Lib.hid (by omega)
  have HK := Lib.hid hk
  have hz := plus_zero x h0 h1
  have HZ := Lib.hid hz
  have hmin : (min n 16384 < 0 ∧ k = 0) ∨ (0 ≤ min n 16384 ∧ min n 16384 = k) := by omega
  have HMin := Lib.hid hmin
  clear hk hz hmin
  have hfin : ∀ (j : Nat) (v : Value) (w' : World), j = M.peekN x k → w'.ownsRow w.heap.size 5 1 v j ((M.peekL x j).map (Value.int .u8)) → Upd [] w w' →
      ∃ u, Ending.returned v = .returned u ∧ w'.ownsRow w.heap.size 5 1 u (M.peek x n).length ((M.peek x n).map (Value.int .u8)) ∧ Upd [] w w' := by
    intro j v w' hj ho hU
    refine ⟨v, rfl, ?_, hU⟩
    simp only [Mem.peek, HK.out, ← hj, peekL_length]
    exact ho
  have HF := Lib.hid hfin
  clear hfin
  have hal := hM.al
  have hpl := hM.pl
  go_enter Try.func21, Try.ntmps21
  go_wp2_with fail
  go_loopw [7, 8] (fun v y wr => ∃ j : Nat, j ≤ k ∧ y = .int .u32 (plus x j) ∧ (∀ t, t < j → M.mappedB (plus x t) = true) ∧ IsMem wr a pb M ∧ Upd [] w wr ∧ wr.ownsRow w.heap.size 5 1 v j ((M.peekL x j).map (Value.int .u8))) (fun v _ _ => k - slLen v)
  case atStart => exact ⟨0, Nat.zero_le _, by rw [HZ.out], by simp, hM, Upd.refl _ _, World.ownsRow_nil _ _ _ _⟩
  case round =>
    obtain ⟨j, hj, rfl, hc, hm, hU, ho⟩ := hrel
    have HC := Lib.hid hc
    have HM := Lib.hid hm
    have HU := Lib.hid hU
    have HO := Lib.hid ho
    clear hc hm hU ho hM
    obtain ⟨sb, sc, rfl⟩ := ownsRow_form HO.out
    have hplt := plus_lt x j
    have hpn := plus_nn x j
    by_cases h16 : n ≤ 16384
    · by_cases hlt : j < k
      · have hmn : (j : Int) < n := by have := HMin.out; omega
        cases hb : M.mappedB (plus x j)
        · have HB := Lib.hid hb
          clear hb
          go_wp2_with (go_at_call 46; refine (mapped_any a pb (plus x j) _ M HM.out (plus_nn x j)).mono ?_; rintro e w' ⟨rfl, rfl⟩; rw [HB.out])
          go_ret
          exact HF.out j _ _ (peekN_stop M x k j hlt HC.out HB.out).symm HO.out HU.out
        · have HB := Lib.hid hb
          clear hb
          have hx := mapped_lt HB.out
          obtain ⟨c, hc, c0⟩ := HM.out.c0
          have cb := HM.out.cB (plus x j / 256).toNat (plus x j % 256).toNat (by omega) (by omega)
          rw [show (plus x j / 256).toNat * 256 + (plus x j % 256).toNat = (plus x j).toNat from by omega] at cb
          go_wp2_with (first | (go_at_call 46; refine (mapped_any a pb (plus x j) _ M HM.out (plus_nn x j)).mono ?_; rintro e w' ⟨rfl, rfl⟩; rw [HB.out]) | (at_builtin; refine wpList_append_own _ rfl _ _ 67 rfl w.heap.size 5 i0 (.int .u8 0) 1 1 Try.underlying67 HI.out.1 HI.out.2.1 HI.out.2.2.1 HI.out.2.2.2 rfl (by decide) _ _ _ rfl (HO.out.alloc _) ⟨wr.heap.size, 0, none⟩ 1 1 [.int .u8 (M.B (plus x j).toNat)] rfl rfl (one_new _ _ _) (one_oneCell _ _) (by have := hk2.out; unfold maxLen; omega) (by have := hk2.out; omega) (by have := HU.out.size; simp; omega) ?_))
          intro v' w1 hown' hgrow _
          have hU1 := Upd.of_grown hgrow
          have hlt' := HO.out.lt
          have hU2 : Upd (Value.slice sb j sc).ownBlock.toList wr w1 := ((Upd.refl [] wr).alloc _).trans hU1 (by simp) (fun z hz => .inl hz)
          have hne : ∀ z, z ∈ (Value.slice sb j sc).ownBlock.toList → w.heap.size ≤ z := fun z hz => (hlt' z (by simpa using hz)).1
          have hm' := HM.out.keep hU2 (fun h => by have := hne _ h; omega) (fun h => by have := hne _ h; omega)
          have hu' := HU.out.new hU2 hne
          have HM' := Lib.hid hm'
          have HU' := Lib.hid hu'
          have HO' := Lib.hid hown'
          clear hm' hu' hown' hgrow hU1 hU2 hne hlt' cb c0 hc
          go_wp2_with fail
          rw [plus_succ' _ _ (mapped_lt HB.out)]
          go_roundw
          case rel => exact ⟨j + 1, by omega, rfl, fun t ht => by
              by_cases e : t = j
              · subst e; exact HB.out
              · exact HC.out t (by omega), HM'.out, HU'.out, by rw [peekL_succ, List.map_append]; exact HO'.out⟩
          case measure => rw [slLen_own HO'.out]; simp [slLen]; omega
      · have hmn : ¬ (j : Int) < n := by have := HMin.out; omega
        go_wp2_with fail
        go_ret
        have e : j = k := by omega
        exact HF.out j _ _ (by rw [e]; exact (peekN_all M x k (fun t ht => HC.out t (by omega))).symm) HO.out HU.out
    · by_cases hlt : j < k
      · have hmn : decide ((j : Int) < 16384) = true := by have := HMin.out; simp; omega
        cases hb : M.mappedB (plus x j)
        · have HB := Lib.hid hb
          clear hb
          go_wp2_with (go_at_call 46; refine (mapped_any a pb (plus x j) _ M HM.out (plus_nn x j)).mono ?_; rintro e w' ⟨rfl, rfl⟩; rw [HB.out])
          go_ret
          exact HF.out j _ _ (peekN_stop M x k j hlt HC.out HB.out).symm HO.out HU.out
        · have HB := Lib.hid hb
          clear hb
          have hx := mapped_lt HB.out
          obtain ⟨c, hc, c0⟩ := HM.out.c0
          have cb := HM.out.cB (plus x j / 256).toNat (plus x j % 256).toNat (by omega) (by omega)
          rw [show (plus x j / 256).toNat * 256 + (plus x j % 256).toNat = (plus x j).toNat from by omega] at cb
          go_wp2_with (first | (go_at_call 46; refine (mapped_any a pb (plus x j) _ M HM.out (plus_nn x j)).mono ?_; rintro e w' ⟨rfl, rfl⟩; rw [HB.out]) | (at_builtin; refine wpList_append_own _ rfl _ _ 67 rfl w.heap.size 5 i0 (.int .u8 0) 1 1 Try.underlying67 HI.out.1 HI.out.2.1 HI.out.2.2.1 HI.out.2.2.2 rfl (by decide) _ _ _ rfl (HO.out.alloc _) ⟨wr.heap.size, 0, none⟩ 1 1 [.int .u8 (M.B (plus x j).toNat)] rfl rfl (one_new _ _ _) (one_oneCell _ _) (by have := hk2.out; unfold maxLen; omega) (by have := hk2.out; omega) (by have := HU.out.size; simp; omega) ?_))
          intro v' w1 hown' hgrow _
          have hU1 := Upd.of_grown hgrow
          have hlt' := HO.out.lt
          have hU2 : Upd (Value.slice sb j sc).ownBlock.toList wr w1 := ((Upd.refl [] wr).alloc _).trans hU1 (by simp) (fun z hz => .inl hz)
          have hne : ∀ z, z ∈ (Value.slice sb j sc).ownBlock.toList → w.heap.size ≤ z := fun z hz => (hlt' z (by simpa using hz)).1
          have hm' := HM.out.keep hU2 (fun h => by have := hne _ h; omega) (fun h => by have := hne _ h; omega)
          have hu' := HU.out.new hU2 hne
          have HM' := Lib.hid hm'
          have HU' := Lib.hid hu'
          have HO' := Lib.hid hown'
          clear hm' hu' hown' hgrow hU1 hU2 hne hlt' cb c0 hc
          go_wp2_with fail
          rw [plus_succ' _ _ (mapped_lt HB.out)]
          go_roundw
          case rel => exact ⟨j + 1, by omega, rfl, fun t ht => by
              by_cases e : t = j
              · subst e; exact HB.out
              · exact HC.out t (by omega), HM'.out, HU'.out, by rw [peekL_succ, List.map_append]; exact HO'.out⟩
          case measure => rw [slLen_own HO'.out]; simp [slLen]; omega
      · have hmn : decide ((j : Int) < 16384) = false := by have := HMin.out; simp; omega
        go_wp2_with fail
        go_ret
        have e : j = k := by omega
        exact HF.out j _ _ (by rw [e]; exact (peekN_all M x k (fun t ht => HC.out t (by omega))).symm) HO.out HU.out

def Mem.pokeN (M : Mem) (x : Int) (l : List Int) : Nat → Mem
  | 0 => M
  | j + 1 => (M.pokeN x l j).setB (plus x j).toNat (l.getD j 0)

def Mem.pokeB (M : Mem) (x : Int) (l : List Int) : Bool := decide (l.length ≤ 16384) && (List.range l.length).all fun i => M.mappedB (plus x i)

def Mem.poke (M : Mem) (x : Int) (l : List Int) : Mem := if M.pokeB x l then M.pokeN x l l.length else M

def errI (b : Bool) (n : Int) : Int := if b then 0 else n

end Go.Proofs.Ytdgclmibbmofcaa

/-
  Package page: Poke, by its contract.
-/
namespace Go.Proofs.Ytdgclmibbmofcaa
open Go Go.RowKit
set_option linter.unusedVariables false
set_option linter.unusedSimpArgs false

set_option maxRecDepth 100000 in
set_option maxHeartbeats 2000000 in
theorem Poke_any (M : Mem) (a pb : Nat) (x : Int) (v : Value) (l : List Int) (g : Nat) (w : World) (hM : IsMem w a pb M) (h0 : 0 ≤ x) (h1 : x < 4294967296) (hv : BySl w v l g) (hg : g ≠ pb) (hl : ∀ i, 0 ≤ l.getD i 0 ∧ l.getD i 0 ≤ 255) (hlen : l.length ≤ maxLen) :
    Calls Try.prog 55 #[.pointer (some ⟨a, 0, none⟩), .int .u32 x, v] w fun e w' =>
      e = .returned (.int .i64 (errI (M.pokeB x l) 61)) ∧ IsMem w' a pb (M.poke x l) ∧ Upd [pb] w w' := by
  have HL := Lib.hid hl
  have HV := Lib.hid hv
  obtain ⟨sb, sc, rfl⟩ := hv.form
  have HLen := Lib.hid hlen
  have hpl := hM.pl
  unfold maxLen at hlen
  have hfinN : M.pokeB x l = false → (Ending.returned (.int .i64 61) = .returned (.int .i64 (errI (M.pokeB x l) 61)) ∧ IsMem w a pb (M.poke x l) ∧ Upd [pb] w w) := by
    intro h
    rw [Mem.poke, h]
    exact ⟨rfl, hM, Upd.refl _ _⟩
  have HFN := Lib.hid hfinN
  have hfinY : ∀ w', M.pokeB x l = true → IsMem w' a pb (M.pokeN x l l.length) → Upd [pb] w w' → (Ending.returned (.int .i64 0) = .returned (.int .i64 (errI (M.pokeB x l) 61)) ∧ IsMem w' a pb (M.poke x l) ∧ Upd [pb] w w') := by
    intro w' h hm hu
    rw [Mem.poke, h]
    exact ⟨rfl, hm, hu⟩
  have HFY := Lib.hid hfinY
  clear hl hv hfinN hfinY hlen
  have HM := Lib.hid hM
  clear hM
  by_cases hbig : l.length ≤ 16384
  · have hb1 : decide (16384 < (l.length : Int)) = false := by simp; omega
    have hb2 : (l.length : Int) ≤ 9223372036854775807 := by omega
    have HBig := Lib.hid hbig
    clear hbig
    go_enter Try.func55, Try.ntmps55
    go_wp2_with fail
    go_loopw [7, 16] (fun _ i wr => ∃ j : Nat, j ≤ l.length ∧ i = .int .i64 j ∧ (∀ t, t < j → M.mappedB (plus x t) = true) ∧ w = wr) (fun _ i _ => l.length - (intOf i).toNat)
    case atStart => exact ⟨0, Nat.zero_le _, rfl, by simp, rfl⟩
    case round =>
      obtain ⟨j, hj, rfl, hc, rfl⟩ := hrel
      have HC := Lib.hid hc
      clear hc
      by_cases hlt : j < l.length
      · cases hb : M.mappedB (plus x j)
        · have HB := Lib.hid hb
          clear hb
          go_wp2_with (go_at_call 46; refine (mapped_any a pb (plus x j) _ M HM.out (plus_nn x j)).mono ?_; rintro e w' ⟨rfl, rfl⟩; rw [HB.out])
          go_ret
          exact HFN.out (by
            simp only [Mem.pokeB, Bool.and_eq_false_iff, List.all_eq_false]
            exact .inr ⟨j, List.mem_range.2 hlt, by rw [HB.out]; simp⟩)
        · have HB := Lib.hid hb
          clear hb
          go_wp2_with (go_at_call 46; refine (mapped_any a pb (plus x j) _ M HM.out (plus_nn x j)).mono ?_; rintro e w' ⟨rfl, rfl⟩; rw [HB.out])
          go_roundw
          case rel => exact ⟨j + 1, by omega, by go_num, fun t ht => by
              by_cases e : t = j
              · subst e; exact HB.out
              · exact HC.out t (by omega), trivial⟩
          case measure => simp [intOf]; omega
      · have hall : ∀ t, t < l.length → M.mappedB (plus x t) = true := fun t ht => HC.out t (by omega)
        have hyes : M.pokeB x l = true := by
          simp only [Mem.pokeB, Bool.and_eq_true, decide_eq_true_eq, List.all_eq_true, List.mem_range]
          exact ⟨HBig.out, hall⟩
        have HAll := Lib.hid hall
        have HYes := Lib.hid hyes
        clear hall hyes HC
        go_wp2_with fail
        go_loopw [8, 9, 10, 29] (fun _ _ _ i w2 => ∃ t : Nat, t ≤ l.length ∧ i = .int .i64 t ∧ IsMem w2 a pb (M.pokeN x l t) ∧ Upd [pb] w w2) (fun _ _ _ i _ => l.length - (intOf i).toNat)
        case atStart => exact ⟨0, Nat.zero_le _, rfl, HM.out, Upd.refl _ _⟩
        case round =>
          obtain ⟨t, ht, rfl, hm, hu⟩ := hrel
          have HM2 := Lib.hid hm
          have HU2 := Lib.hid hu
          clear hm hu
          by_cases hlt2 : t < l.length
          · rcases HV.out with ⟨_, hnil⟩ | ⟨o, c, C, T, f, hs, hC, hcell⟩
            · rw [hnil] at hlt2; simp at hlt2
            · simp only [Value.slice.injEq, true_and] at hs
              obtain ⟨rfl, rfl⟩ := hs
              have cg : wr.cell? ⟨g, o + t, none⟩ = some (.int .u8 (l.getD t 0)) := by rw [cells_of (HU2.out.get hC (by simpa using hg))]; exact hcell t hlt2
              have hx : (x + (t : Int)) % 4294967296 < 16384 := mapped_lt (HAll.out t hlt2)
              have hxn : 0 ≤ (x + (t : Int)) % 4294967296 := plus_nn x t
              have ecell : cellOf (plus x t) = ((x + (t : Int)) % 4294967296 / 256).toNat * 257 + 1 + ((x + (t : Int)) % 256).toNat := by
                unfold cellOf plus; omega
              have cb := HM2.out.cbyte _ (plus_nn x t) (mapped_lt (HAll.out t hlt2))
              obtain ⟨cc, hcc, c0⟩ := HM2.out.c0
              have fb : wr.frozen? ⟨pb, cellOf (plus x t), none⟩ = false := HM2.out.free _
              rw [ecell] at cb fb
              have ECell := Lib.hid ecell
              have hgd : l.getD t 0 = l[t] := by rw [List.getD_eq_getElem?_getD, List.getElem?_eq_getElem hlt2]; rfl
              rw [hgd] at cg
              have HGD := Lib.hid hgd
              clear hC hcell ecell hgd
              go_wp2_with fail
              go_roundw
              case rel =>
                refine ⟨t + 1, by omega, by go_num, ?_, HU2.out.setCell (by simp) _⟩
                rw [← ECell.out, ← HGD.out]
                exact HM2.out.store (plus_nn x t) (mapped_lt (HAll.out t hlt2)) (HL.out t).1 (HL.out t).2
              case measure => simp [intOf]; omega
          · go_wp2_with fail
            go_ret
            have e : t = l.length := by omega
            rw [e] at HM2
            exact HFY.out _ HYes.out HM2.out HU2.out
  · have hb1 : decide (16384 < (l.length : Int)) = true := by simp; omega
    have HBig := Lib.hid hbig
    clear hbig
    go_enter Try.func55, Try.ntmps55
    go_wp2_with fail
    go_ret
    exact HFN.out (by simp [Mem.pokeB, HBig.out])

end Go.Proofs.Ytdgclmibbmofcaa

/-
  Structs held against one another, field by field. No condition.
-/
namespace Go.Proofs.Ytdgclmibbmofcaa
open Go Go.RowKit
set_option linter.unusedVariables false
set_option linter.unusedSimpArgs false

theorem part_range {P : Program} {t : TypeId} {xs : Array Value} {off n : Nat} {i : TypeInfo} (w : World) (ht : (isAgg t).run P w = .ok true w) (hi : P.info? t = some i) (hn : i.size = n) : (part t xs off).run P w = .ok (.agg (xs.extract off (off + n))) w := by
  subst hn
  simp [part, ht, sizeOf, typeInfo, hi]

theorem eqFields_cons {P : Program} {w : World} {d : Nat} {xs ys : Array Value} {f : Field} {fs : List Field} {u v : Value} {b c : Bool} (hne : (f.name ≠ "_") = True)
    (hx : (part f.type xs f.offset).run P w = .ok u w) (hy : (part f.type ys f.offset).run P w = .ok v w) (he : (Op.equalIn d f.type u v).run P w = .ok b w) (hr : (Op.eqFields d xs ys fs).run P w = .ok c w) :
    (Op.eqFields d xs ys (f :: fs)).run P w = .ok (b && c) w := by
  simp only [Op.eqFields, hne, if_true]
  rw [Sem.run_bind, hx, Result.andThen_ok, Sem.run_bind, hy, Result.andThen_ok, Sem.run_bind, he, Result.andThen_ok]
  cases b
  · rfl
  · simp only [Bool.not_true, Bool.false_eq_true, if_false]
    rw [hr]; rfl

theorem eqFields_nil {P : Program} {w : World} {d : Nat} {xs ys : Array Value} : (Op.eqFields d xs ys []).run P w = .ok true w := rfl

theorem eqItems_int {P : Program} (w : World) (d : Nat) {e : TypeId} {k : IntKind} (he : P.underlying e = some (.int k)) (xs ys : Array Value) (f g : Nat → Int) :
    ∀ is : List Nat, (∀ i, i ∈ is → xs[i]? = some (.int k (f i)) ∧ ys[i]? = some (.int k (g i))) → (Op.eqItems (d + 1) e 1 xs ys is).run P w = .ok (is.all fun i => f i == g i) w
  | [], _ => by simp [Op.eqItems]
  | i :: is, h => by
    have h1 := h i (by simp)
    have ih := eqItems_int w d he xs ys f g is (fun j hj => h j (by simp [hj]))
    have hp : P.plainKey e = true := by simp [Program.plainKey, he]
    simp only [Op.eqItems, Nat.mul_one, Sem.run_bind, run_part_plain w hp h1.1, run_part_plain w hp h1.2, Result.andThen_ok, run_equalIn_int w d e k k _ _ he, List.all_cons]
    cases hb : f i == g i
    · simp
    · simpa using ih

end Go.Proofs.Ytdgclmibbmofcaa

/-
  Package page: Copy (slices.Clone), Same (slices.Equal): each by its contract.
-/
namespace Go.Proofs.Ytdgclmibbmofcaa
open Go Go.RowKit
set_option linter.unusedVariables false
set_option linter.unusedSimpArgs false

/-! ### Two pages held against one another -/
/-- Are the pages p of two memories alike? -/
def Mem.samePage (M N : Mem) (p : Nat) : Bool := (M.R p == N.R p) && (List.range 256).all fun j => M.B (p * 256 + j) == N.B (p * 256 + j)

def Mem.same (M N : Mem) : Bool := (List.range 64).all fun p => M.samePage N p

end Go.Proofs.Ytdgclmibbmofcaa
