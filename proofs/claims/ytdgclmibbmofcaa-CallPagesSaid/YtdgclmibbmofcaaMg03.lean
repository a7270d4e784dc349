/-
  Parts of the proof (their names shortened by a program). No condition.
-/
import Derived.Test.YtdgclmibbmofcaaMg01
import Derived.Recover
import Derived.StillTailTactics
import Derived.Test.YtdgclmibbmofcaaMg02
import Derived.ChangeKeysEq
import Derived.Lib.SliceRun
import Derived.WalkKit
import Derived.Deep.MidRow
import Derived.Test.YtdgclmibbmofcaaRows
import Derived.Laws.BitsAllLaws
import Derived.WalkLawsBesides
import Derived.Lib.Hide
import Derived.Laws.IdiomCopy
import Derived.ChangeSlices
namespace Go.Proofs.Ytdgclmibbmofcaa
open Go Go.RowKit
set_option linter.unusedVariables false
set_option linter.unusedSimpArgs false
set_option maxRecDepth 100000
set_option maxHeartbeats 16000000
theorem Yfv (v : Value) (w : World) : (Instr.typeAssert (.iface 112 v) 20 112 true).run Try.prog w = .ok (.tuple #[v, .bool true]) w := by
 unfold Instr.typeAssert
 simp [Sem.run_bind]
theorem Yce (fb kb : Nat) (y0 y1 y2 y3 k0 : Value) (x0 x1 x2 x3 : Int) (older : List PanicEntry) (w : World)
  (hf : w.heap[fb]? = some (.cells #[y0, y1, y2, y3] 112 (0, 0))) (hk : w.heap[kb]? = some (.cells #[k0] 4 (0, 0))) (hne : fb ≠ kb) :
  CallsD Try.prog 66 #[.pointer (some ⟨fb, 0, none⟩), .pointer (some ⟨kb, 0, none⟩)] (.panicking ({ v := .iface 112 (.agg #[.int .i64 x0, .int .u32 x1, .int .u32 x2, .int .i64 x3]), recovered := false } :: older)) w fun e u' w' =>
   e = .returned (.tuple #[]) ∧ u' = .panicking ({ v := .iface 112 (.agg #[.int .i64 x0, .int .u32 x1, .int .u32 x2, .int .i64 x3]), recovered := true } :: older) ∧
    w'.heap[fb]? = some (.cells #[.int .i64 x0, .int .u32 x1, .int .u32 x2, .int .i64 x3] 112 (0, 0)) ∧ w'.heap[kb]? = some (.cells #[.bool false] 4 (0, 0)) ∧ Upd [fb, kb] w w' := by
 refine callsD_of_wpS Try.func66 rfl fun c₀ cs hu => ?_
 simp only [Try.ntmps66, List.size_toArray, List.length_cons, List.length_nil, Nat.reduceAdd, Nat.reduceSub, Array.replicate_succ, Array.replicate_zero, List.push_toArray, List.append_toArray, List.nil_append, List.cons_append]
 apply wpS_seq
 apply wpS_region
 simp [wpOpsS, go_sem, recoverD, hu, Try.ntmps66, Exit.thenS]
 refine wpS_of_wp ?_
 clear hu
 have hfl := Yl hf
 have hkl := Yl hk
 have hcf : ∀ o, w.cell? ⟨fb, o, none⟩ = #[y0, y1, y2, y3][o]? := Ya hf
 have hck : ∀ o, w.cell? ⟨kb, o, none⟩ = #[k0][o]? := Ya hk
 have hff : ∀ o, w.frozen? ⟨fb, o, none⟩ = false := Yg hf
 have hfk : ∀ o, w.frozen? ⟨kb, o, none⟩ = false := Yg hk
 have HF := Yh_ hf
 have HK := Yh_ hk
 clear hf hk
 have hta := Yfv
 go_wp2_with fail
 refine ⟨rfl, _, rfl, _, results_none rfl _ _ _, rfl, rfl, ?_, ?_, ?_⟩
 ·refine Yz _ (Yc _ hne ?_)
  have h := Ye (Ye (Ye (Ye HF.out 0 (.int .i64 x0)) 1 (.int .u32 x1)) 2 (.int .u32 x2)) 3 (.int .i64 x3)
  exact h
 ·refine Yz _ ?_
  have h := Yc (a := ⟨fb, 3, none⟩) (.int .i64 x3) hne.symm (Yc (a := ⟨fb, 2, none⟩) (.int .u32 x2) hne.symm (Yc (a := ⟨fb, 1, none⟩) (.int .u32 x1) hne.symm (Yc (a := ⟨fb, 0, none⟩) (.int .i64 x0) hne.symm HK.out)))
  exact Ye h 0 (.bool false)
 ·exact ((((((Upd.refl _ _).setCell (by simp) _).setCell (by simp) _).setCell (by simp) _).setCell (by simp) _).setCell (by simp) _).alloc _
theorem Ydu (fb kb : Nat) (w : World) :
  CallsD Try.prog 66 #[.pointer (some ⟨fb, 0, none⟩), .pointer (some ⟨kb, 0, none⟩)] .returning w fun e u' w' => e = .returned (.tuple #[]) ∧ u' = .returning ∧ w = w' := by
 refine callsD_of_wpS Try.func66 rfl fun c₀ cs hu => ?_
 simp only [Try.ntmps66, List.size_toArray, List.length_cons, List.length_nil, Nat.reduceAdd, Nat.reduceSub, Array.replicate_succ, Array.replicate_zero, List.push_toArray, List.append_toArray, List.nil_append, List.cons_append]
 apply wpS_seq
 apply wpS_region
 simp [wpOpsS, go_sem, recoverD, hu, Try.ntmps66, Exit.thenS]
 refine wpS_of_wp ?_
 have HU := Yh_ hu
 clear hu
 go_wp2_with fail
 refine ⟨rfl, .returning, ?_, _, results_none rfl _ _ _, rfl, rfl, rfl⟩
 rw [← HU.out]
theorem Yfd (kb vb : Nat) (ok : Bool) (v : Int) (u : FrameMode) (w : World) (hk : w.heap[kb]? = some (.cells #[.bool ok] 4 (0, 0))) (hv : w.heap[vb]? = some (.cells #[.int .u32 v] 33 (0, 0))) :
  CallsD Try.prog 69 #[.pointer (some ⟨kb, 0, none⟩), .pointer (some ⟨vb, 0, none⟩)] u w fun e u' w' =>
   u' = u ∧ (e = .returned (.tuple #[]) ∧ w'.heap[vb]? = some (.cells #[.int .u32 (if ok then v else 0)] 33 (0, 0)) ∧ Upd [vb] w w') := by
 have hck : w.cell? ⟨kb, 0, none⟩ = some (.bool ok) := by rw [Ya hk]; rfl
 have hcv : w.cell? ⟨vb, 0, none⟩ = some (.int .u32 v) := by rw [Ya hv]; rfl
 have hfv : w.frozen? ⟨vb, 0, none⟩ = false := Yg hv 0
 have HV := Yh_ hv
 clear hk hv
 cases ok
 ·go_enter_d Try.func69, Try.ntmps69
  go_wp2
  go_end0
  exact ⟨rfl, Ye HV.out 0 (.int .u32 0), (Upd.refl _ _).setCell (by simp) _⟩
 ·go_enter_d Try.func69, Try.ntmps69
  go_wp2
  go_end0
  exact ⟨rfl, HV.out, Upd.refl _ _⟩
structure Yaz (M : Mem) (a pb : Nat) (w : World) (g : Int) (w1 : World) : Prop where
 v : w1.heap[w.heap.size]? = some (.cells #[.int .u32 g] 33 (0, 0))
 f : w1.heap[w.heap.size + 1]? = some (.cells #[.int .i64 0, .int .u32 0, .int .u32 0, .int .i64 0] 112 (0, 0))
 k : w1.heap[w.heap.size + 1 + 1]? = some (.cells #[.bool false] 4 (0, 0))
 m : Yd w1 a pb M
 u : Upd [] w w1
 al : a < w.heap.size
 pl : pb < w.heap.size
def Yu (r : Int) : Int := if r ≠ 2 ∧ r ≠ 4 then 1 else r
def Yf (x : Int) (i : Nat) : Int := (x + i) % 4294967296
def Mem.get (M : Mem) (x : Int) : Nat → Int
 |0 => 0
 |i + 1 => M.get x i + M.B (Yf x i).toNat * 2 ^ (8 * i)
def Mem.bad (M : Mem) (x right : Int) (n : Nat) : Option Nat := (List.range n).find? fun i => !M.can (Yf x i) right
def Mem.readV (M : Mem) (x bytes right : Int) : Int :=
 match M.bad x (Yu right) (Yt bytes).toNat with | none => M.get x (Yt bytes).toNat | some _ => 0
def Mem.readF (M : Mem) (x bytes right : Int) : Value :=
 match M.bad x (Yu right) (Yt bytes).toNat with | none => .agg #[.int .i64 0, .int .u32 0, .int .u32 0, .int .i64 0] | some i => Yae (Yf x i) (Yu right)
def Mem.readK (M : Mem) (x bytes right : Int) : Bool := (M.bad x (Yu right) (Yt bytes).toNat).isNone
theorem Ydv (n : Int) : Yt n = 1 ∨ Yt n = 2 ∨ Yt n = 4 := by
 unfold Yt; split <;> omega
theorem Yc7 (tmps : Array Value) (vb fb kb : Nat) (v y0 y1 y2 y3 : Int) (k : Bool) (w : World) (h8 : tmps.getD 8 undef = .pointer (some ⟨vb, 0, none⟩)) (h9 : tmps.getD 9 undef = .pointer (some ⟨fb, 0, none⟩)) (h10 : tmps.getD 10 undef = .pointer (some ⟨kb, 0, none⟩))
  (hv : w.heap[vb]? = some (.cells #[.int .u32 v] 33 (0, 0))) (hf : w.heap[fb]? = some (.cells #[.int .i64 y0, .int .u32 y1, .int .u32 y2, .int .i64 y3] 112 (0, 0))) (hk : w.heap[kb]? = some (.cells #[.bool k] 4 (0, 0))) :
  (results Try.f50 tmps).run Try.prog w = .ok (.tuple #[.int .u32 v, .agg #[.int .i64 y0, .int .u32 y1, .int .u32 y2, .int .i64 y3], .bool k]) w := by
 have cv : ∀ o, w.cell? ⟨vb, o, none⟩ = #[.int .u32 v][o]? := Ya hv
 have cf : ∀ o, w.cell? ⟨fb, o, none⟩ = #[.int .i64 y0, .int .u32 y1, .int .u32 y2, .int .i64 y3][o]? := Ya hf
 have ck : ∀ o, w.cell? ⟨kb, o, none⟩ = #[.bool k][o]? := Ya hk
 rw [Array.getD_eq_getD_getElem?] at h8 h9 h10
 simp [results, Try.results50, go_sem, h8, h9, h10, cv, cf, ck]
def Yev (w : World) : List Deferred :=
 [{ target := .fn (.func 66) #[], args := #[.pointer (some ⟨w.heap.size + 1, 0, none⟩), .pointer (some ⟨w.heap.size + 1 + 1, 0, none⟩)] },
  { target := .fn (.func 69) #[.pointer (some ⟨w.heap.size + 1 + 1, 0, none⟩), .pointer (some ⟨w.heap.size, 0, none⟩)], args := #[] }]
structure ReadT (w : World) (tmps : Array Value) : Prop where
 h8 : tmps.getD 8 undef = .pointer (some ⟨w.heap.size, 0, none⟩)
 h9 : tmps.getD 9 undef = .pointer (some ⟨w.heap.size + 1, 0, none⟩)
 h10 : tmps.getD 10 undef = .pointer (some ⟨w.heap.size + 1 + 1, 0, none⟩)
theorem Ybw (M : Mem) (a pb : Nat) (w w1 : World) (g y r : Int) (tmps : Array Value) (R : Ending → World → Prop) (ht : ReadT w tmps) (hB : Yaz M a pb w g w1)
  (hR : ∀ w', Upd [] w w' → R (.returned (.tuple #[.int .u32 0, Yae y r, .bool false])) w') :
  Leaves Try.prog Try.f50 tmps R (Yev w) (.panicking [{ v := .iface 112 (Yae y r), recovered := false }]) w1 := by
 refine leaves_cons (f := 66) (args := #[.pointer (some ⟨w.heap.size + 1, 0, none⟩), .pointer (some ⟨w.heap.size + 1 + 1, 0, none⟩)]) (by simp) (by simp [go_sem]) ?_
 refine (Yce _ _ _ _ _ _ _ _ _ _ _ [] w1 hB.f hB.k (by omega)).mono ?_
 rintro e u' w2 ⟨rfl, rfl, hf, hk, hU⟩
 have hv := hU.get hB.v (by simp; omega)
 simp only [settle, List.dropWhile_nil]
 refine leaves_cons (f := 69) (args := #[.pointer (some ⟨w.heap.size + 1 + 1, 0, none⟩), .pointer (some ⟨w.heap.size, 0, none⟩)]) (by simp) (by simp [go_sem]) ?_
 refine (Yfd _ _ false g _ w2 hk hv).mono ?_
 rintro e u' w3 ⟨rfl, rfl, hv', hU'⟩
 have hf' := hU'.get hf (by simp)
 have hk' := hU'.get hk (by simp; omega)
 exact ⟨_, Yc7 _ _ _ _ _ _ _ _ _ _ w3 ht.h8 ht.h9 ht.h10 hv' hf' hk', hR _ ((hB.u.new hU (by simp; omega)).new hU' (by simp))⟩
theorem Yb6 (w w1 : World) (v : Int) (tmps : Array Value) (R : Ending → World → Prop) (ht : ReadT w tmps)
  (hv : w1.heap[w.heap.size]? = some (.cells #[.int .u32 v] 33 (0, 0))) (hf : w1.heap[w.heap.size + 1]? = some (.cells #[.int .i64 0, .int .u32 0, .int .u32 0, .int .i64 0] 112 (0, 0)))
  (hk : w1.heap[w.heap.size + 1 + 1]? = some (.cells #[.bool true] 4 (0, 0))) (hU : Upd [] w w1)
  (hR : ∀ w', Upd [] w w' → R (.returned (.tuple #[.int .u32 v, .agg #[.int .i64 0, .int .u32 0, .int .u32 0, .int .i64 0], .bool true])) w') :
  Leaves Try.prog Try.f50 tmps R (Yev w) .returning w1 := by
 refine leaves_cons (f := 66) (args := #[.pointer (some ⟨w.heap.size + 1, 0, none⟩), .pointer (some ⟨w.heap.size + 1 + 1, 0, none⟩)]) (by simp) (by simp [go_sem]) ?_
 refine (Ydu _ _ w1).mono ?_
 rintro e u' w2 ⟨rfl, rfl, rfl⟩
 simp only [settle]
 refine leaves_cons (f := 69) (args := #[.pointer (some ⟨w.heap.size + 1 + 1, 0, none⟩), .pointer (some ⟨w.heap.size, 0, none⟩)]) (by simp) (by simp [go_sem]) ?_
 refine (Yfd _ _ true v _ w1 hk hv).mono ?_
 rintro e u' w3 ⟨rfl, rfl, hv', hU'⟩
 have hf' := hU'.get hf (by simp)
 have hk' := hU'.get hk (by simp; omega)
 exact ⟨_, Yc7 _ _ _ _ _ _ _ _ _ _ w3 ht.h8 ht.h9 ht.h10 hv' hf' hk', hR _ (hU.new hU' (by simp))⟩
theorem Yc8 (x : Int) (j : Nat) (h0 : 0 ≤ x) (h1 : x < 4294967296) (hj : j < 4294967296) : IntKind.u32.wrap (x + IntKind.u32.wrap (j : Int)) = Yf x j := by
 have : IntKind.u32.wrap (j : Int) = j := by simp [IntKind.wrap, IntKind.signed, IntKind.bits]; omega
 rw [this]
 simp [IntKind.wrap, IntKind.signed, IntKind.bits, Yf]
theorem Yp (x : Int) (j : Nat) : 0 ≤ Yf x j := by unfold Yf; omega
theorem Yem {M : Mem} {x r : Int} (h0 : 0 ≤ x) (h : M.can x r = true) : x < 16384 := by
 simp only [Mem.can, Bool.and_eq_true, decide_eq_true_eq] at h
 exact h.1
theorem Yd.cbyte {w : World} {a pb : Nat} {M : Mem} (h : Yd w a pb M) (x : Int) (h0 : 0 ≤ x) (h1 : x < 16384) : w.cell? ⟨pb, Ya5 x, none⟩ = some (.int .u8 (M.B x.toNat)) := by
 have := h.cB (x / 256).toNat (x % 256).toNat (by omega) (by omega)
 rw [show (x / 256).toNat * 256 + (x % 256).toNat = x.toNat from by omega] at this
 exact this
theorem Yez {w : World} {a pb : Nat} {M : Mem} (h : Yd w a pb M) {x : Int} (h0 : 0 ≤ x) (h1 : x < 16384) : 0 ≤ M.B x.toNat ∧ M.B x.toNat ≤ 255 := h.ok.B _
theorem Yc5 {w : World} {a pb : Nat} {M : Mem} (h : Yd w a pb M) (x : Int) (j : Nat) : 0 ≤ M.get x j ∧ M.get x j < 2 ^ (8 * j) := by
 induction j with
 |zero => simp [Mem.get]
 |succ j ih =>
  have hb := h.ok.B (Yf x j).toNat
  simp only [Mem.get]
  have hp : (0 : Int) < 2 ^ (8 * j) := Int.pow_pos (by decide)
  have e : (2 : Int) ^ (8 * (j + 1)) = 256 * 2 ^ (8 * j) := by
   rw [Nat.mul_add, Int.pow_add]; simp [Int.mul_comm]
  rw [e]
  generalize (2 : Int) ^ (8 * j) = p at *
  generalize M.B (Yf x j).toNat = b at *
  have h1 : 0 ≤ b * p := Int.mul_nonneg hb.1 (by omega)
  have h2 : b * p ≤ 255 * p := Int.mul_le_mul_of_nonneg_right hb.2 (by omega)
  omega
theorem or_add (g b : Int) (k : Nat) (hg0 : 0 ≤ g) (hg : g < 2 ^ k) (hb0 : 0 ≤ b) (hk : b * 2 ^ k + g < 4294967296) : bits .or .u32 g (b * 2 ^ k % 4294967296) = g + b * 2 ^ k := by
 obtain ⟨g, rfl⟩ := Int.eq_ofNat_of_zero_le hg0
 obtain ⟨b, rfl⟩ := Int.eq_ofNat_of_zero_le hb0
 have hg' : g < 2 ^ k := by exact_mod_cast hg
 have e0 : ((b : Int) * 2 ^ k) = ((b * 2 ^ k : Nat) : Int) := by
  rw [Int.natCast_mul, Int.natCast_pow]; rfl
 rw [e0] at hk
 have e2 : g ||| b * 2 ^ k = g + b * 2 ^ k := by
  rw [Nat.or_comm, nat_join k _ _ (Nat.mul_mod_left _ _) hg', Nat.add_comm]
 rw [e0]
 generalize hq : b * 2 ^ k = q at *
 have e1 : (q : Int) % 4294967296 = (q : Int) := by omega
 rw [e1, u32_or_nat _ _ (by omega) (by omega), e2]
 rfl
theorem Yfz {w : World} {a pb : Nat} {M : Mem} (h : Yd w a pb M) (x : Int) (j : Nat) (hj : j < 4) :
  bits .or .u32 (M.get x j) (M.B (Yf x j).toNat * 2 ^ (8 * j) % 4294967296) = M.get x (j + 1) := by
 have hb := h.ok.B (Yf x j).toNat
 have hg := Yc5 h x j
 simp only [Mem.get]
 refine or_add _ _ _ hg.1 hg.2 hb.1 ?_
 have h2 := (Yc5 h x (j + 1)).2
 simp only [Mem.get] at h2
 have : (2 : Int) ^ (8 * (j + 1)) ≤ 2 ^ 32 := by
  have := Nat.pow_le_pow_right (show 0 < 2 by decide) (show 8 * (j + 1) ≤ 32 by omega)
  exact_mod_cast this
 have e : (2 : Int) ^ 32 = 4294967296 := by decide
 omega
theorem Yaz.store {M : Mem} {a pb : Nat} {w w1 : World} {g : Int} (h : Yaz M a pb w g w1) (v : Int) : Yaz M a pb w v (w1.setCell ⟨w.heap.size, 0, none⟩ (.int .u32 v)) := by
 refine ⟨Ye h.v 0 _, Yc _ (by simp) h.f, Yc _ (by simp; omega) h.k, h.m.keep (S := [w.heap.size]) ((Upd.refl _ _).setCell (by simp) _) ?_ ?_, h.u.setCell (by simp) _, h.al, h.pl⟩
 ·have := h.al; simp; omega
 ·have := h.pl; simp; omega
theorem Yf3 (M : Mem) (x r : Int) (n j : Nat) (hj : j < n) (hc : ∀ t, t < j → M.can (Yf x t) r = true) (hb : M.can (Yf x j) r = false) : M.bad x r n = some j := by
 unfold Mem.bad
 rw [List.find?_range_eq_some]
 exact ⟨by simp [hb], by simpa using hj, fun t ht => by simp [hc t ht]⟩
theorem Yf4 (M : Mem) (x r : Int) (n : Nat) (hc : ∀ t, t < n → M.can (Yf x t) r = true) : M.bad x r n = none := by
 unfold Mem.bad
 rw [List.find?_eq_none]
 intro t ht
 simp [hc t (List.mem_range.1 ht)]
theorem Yfu (M : Mem) (a pb : Nat) (x bytes right : Int) (w : World) (hM : Yd w a pb M) (h0 : 0 ≤ x) (h1 : x < 4294967296) :
  Calls Try.prog 50 #[.pointer (some ⟨a, 0, none⟩), .int .u32 x, .int .i64 bytes, .int .i64 right] w fun e w' =>
   e = .returned (.tuple #[.int .u32 (M.readV x bytes right), M.readF x bytes right, .bool (M.readK x bytes right)]) ∧ Upd [] w w' := by
 have hmf : ∀ (fn : Fn) (first cap : Array Value) (w : World), (Instr.makeFunc fn first cap).run Try.prog w = .ok (.func fn first cap) w := fun _ _ _ _ => rfl
 have hal := hM.al
 have hpl := hM.pl
 have hw3 := Ydv bytes
 obtain ⟨n, hn⟩ : ∃ n : Nat, Yt bytes = n := ⟨(Yt bytes).toNat, by omega⟩
 have HN := Yh_ hn
 have hn4 : n ≤ 4 := by omega
 clear hw3 hn
 have h3 : (right = 2 ∧ Yu right = 2) ∨ (right = 4 ∧ Yu right = 4) ∨ (right ≠ 2 ∧ right ≠ 4 ∧ Yu right = 1) := by
  by_cases hr : right = 2
  ·exact .inl ⟨hr, by rw [hr]; rfl⟩
  ·by_cases hr4 : right = 4
   ·exact .inr (.inl ⟨hr4, by rw [hr4]; rfl⟩)
   ·exact .inr (.inr ⟨hr, hr4, by simp [Yu, hr, hr4]⟩)
 have hfinP : ∀ (j : Nat) (w' : World), j < n → (∀ t, t < j → M.can (Yf x t) (Yu right) = true) → M.can (Yf x j) (Yu right) = false → Upd [] w w' →
   (fun e w' => e = Ending.returned (.tuple #[.int .u32 (M.readV x bytes right), M.readF x bytes right, .bool (M.readK x bytes right)]) ∧ Upd [] w w') (.returned (.tuple #[.int .u32 0, Yae (Yf x j) (Yu right), .bool false])) w' := by
  intro j w' hj hc hb hU
  have hbad := Yf3 M x (Yu right) n j hj hc hb
  refine ⟨?_, hU⟩
  simp only [Mem.readV, Mem.readF, Mem.readK, HN.out, Int.toNat_natCast, hbad]
  rfl
 have HFP := Yh_ hfinP
 clear hfinP
 have hfinK : ∀ (w' : World), (∀ t, t < n → M.can (Yf x t) (Yu right) = true) → Upd [] w w' →
   (fun e w' => e = Ending.returned (.tuple #[.int .u32 (M.readV x bytes right), M.readF x bytes right, .bool (M.readK x bytes right)]) ∧ Upd [] w w') (.returned (.tuple #[.int .u32 (M.get x n), .agg #[.int .i64 0, .int .u32 0, .int .u32 0, .int .i64 0], .bool true])) w' := by
  intro w' hc hU
  have hbad := Yf4 M x (Yu right) n hc
  refine ⟨?_, hU⟩
  simp only [Mem.readV, Mem.readF, Mem.readK, HN.out, Int.toNat_natCast, hbad]
  rfl
 have HFK := Yh_ hfinK
 clear hfinK
 have hstart : Yaz M a pb w (M.get x 0) (((w.alloc (Obj.cells #[Value.int IntKind.u32 0] 33)).alloc (Obj.cells #[Value.int IntKind.i64 0, Value.int IntKind.u32 0, Value.int IntKind.u32 0, Value.int IntKind.i64 0] 112)).alloc (Obj.cells #[Value.bool false] 4)) := by
  refine ⟨Yz _ (Yz _ (heap_alloc_new _ _)), Yz _ (heap_alloc2_new _ _ _), ?_, ?_, ?_, hal, hpl⟩
  ·have := heap_alloc_new ((w.alloc (Obj.cells #[Value.int IntKind.u32 0] 33)).alloc (Obj.cells #[Value.int IntKind.i64 0, Value.int IntKind.u32 0, Value.int IntKind.u32 0, Value.int IntKind.i64 0] 112)) (Obj.cells #[Value.bool false] 4)
   simpa using this
  ·exact hM.keep (S := []) ((((Upd.refl _ _).alloc _).alloc _).alloc _) (by simp) (by simp)
  ·exact (((Upd.refl _ _).alloc _).alloc _).alloc _
 have HS := Yh_ hstart
 clear hstart hM
 rcases h3 with ⟨e1, hR⟩ | ⟨e1, hR⟩ | ⟨e1, e2, hR⟩
 ·have HR := Yh_ hR
  subst e1
  clear hR
  go_enter_defers Try.func50, Try.ntmps50
  go_wp2_with (go_at_call 67; refine (Yck bytes _).mono ?_; rintro e w' ⟨rfl, rfl⟩; rw [HN.out])
  go_loopw [11, 21] (fun _ i wr => ∃ j : Nat, j ≤ n ∧ i = .int .i64 j ∧ (∀ t, t < j → M.can (Yf x t) (Yu 2) = true) ∧ Yaz M a pb w (M.get x j) wr) (fun _ i _ => n - (intOf i).toNat)
  case atStart => exact ⟨0, Nat.zero_le _, rfl, by simp, HS.out⟩
  case round =>
   obtain ⟨j, hj, rfl, hcan, hB⟩ := hrel
   have HC := Yh_ hcan
   have HB := Yh_ hB
   clear hcan hB
   by_cases hlt : j < n
   ·have hplus := Yc8 x j h0 h1 (by omega)
    have HP := Yh_ hplus
    clear hplus
    cases hb : M.can (Yf x j) (Yu 2)
    ·have HBad := Yh_ hb
     clear hb
     go_wp2_with fail
     refine Yr 15 (Yaz M a pb w (M.get x j)) (fun c w1 => c = [{ v := .iface 112 (Yae (Yf x j) (Yu 2)), recovered := false }] ∧ Yaz M a pb w (M.get x j) w1) (by kernel_rfl) (by kernel_rfl) ⟨HB.out.v, HB.out.f, HB.out.k, HB.out.m.drew, HB.out.u.drew, HB.out.al, HB.out.pl⟩ ?_ ?_
     ·rintro c a' w1 ⟨rfl, hB1⟩ hd hs ht
      go_wp2_with fail
      show Leaves _ _ _ _ a'.defers _ _
      rw [hd]
      refine Ybw M a pb w w1 _ _ _ _ _ ⟨?_, ?_, ?_⟩ hB1 (fun w' hU => HFP.out j w' hlt HC.out HBad.out hU)
      ·rw [Array.getD_eq_getD_getElem?, ht 8 rfl]; rfl
      ·rw [Array.getD_eq_getD_getElem?, ht 9 rfl]; rfl
      ·rw [Array.getD_eq_getD_getElem?, ht 10 rfl]; rfl
     ·simp only [List.take_succ_cons, List.take_zero, List.drop_succ_cons, List.drop_zero]
      repeat
       apply Yj rfl rfl
       ·intro K hK w1 hB1
        have cv : w1.cell? ⟨w.heap.size, 0, none⟩ = some (.int .u32 (M.get x j)) := (by rw [Ya hB1.v]; rfl)
        go_wp2_with fail
        exact hB1
       ·exact ⟨_, rfl⟩
      refine Ycu rfl rfl ?_ ?_
      ·intro w1 hB1
       go_wp2_with fail
       refine (Yee a pb (Yf x j) _ w1 M hB1.m (Yp x j) (by have := HBad.out; rw [HR.out] at this; exact this)).mono ?_
       rintro e w2 ⟨rfl, rfl⟩
       rw [HR.out]
       exact ⟨rfl, hB1⟩
      repeat
       first
       |refine Ycv rfl ?_
       |apply Yj rfl rfl
        ·intro K hK w1 hB1
         go_wp2_with fail
         exact hB1
        ·exact ⟨_, rfl⟩
      exact Yk (fun h => by cases h)
    ·have HGood := Yh_ hb
     clear hb
     have hx := Yem (Yp x j) HGood.out
     have HX := Yh_ hx
     clear hx
     go_wp2_with fail
     refine Yr 15 (Yaz M a pb w (M.get x j)) (fun _ _ => False) (by kernel_rfl) (by kernel_rfl) ⟨HB.out.v, HB.out.f, HB.out.k, HB.out.m.drew, HB.out.u.drew, HB.out.al, HB.out.pl⟩ (fun _ _ _ h => h.elim) ?_
     simp only [List.take_succ_cons, List.take_zero, List.drop_succ_cons, List.drop_zero]
     have hb8 := Yez HB.out.m (Yp x j) HX.out
     have hg8 := Yc5 HB.out.m x j
     repeat
      apply Yj rfl rfl
      ·intro K hK w1 hB1
       have cv : w1.cell? ⟨w.heap.size, 0, none⟩ = some (.int .u32 (M.get x j)) := (by rw [Ya hB1.v]; rfl)
       have cb := hB1.m.cbyte _ (Yp x j) HX.out
       go_wp2_with (go_at_call 68; refine (at_ok a pb (Yf x j) _ w1 M hB1.m (Yp x j) (by have := HGood.out; rw [HR.out] at this; exact this)).mono ?_; rintro e w2 ⟨rfl, rfl⟩)
       exact hB1
      ·exact ⟨_, rfl⟩
     refine Yk (fun _ w1 hB1 => ?_)
     have hor := Yfz HB.out.m x j (by omega)
     have HOR := Yh_ hor
     have HB1 := Yh_ hB1
     have cv : w1.cell? ⟨w.heap.size, 0, none⟩ = some (.int .u32 (M.get x j)) := (by rw [Ya hB1.v]; rfl)
     have fv : w1.frozen? ⟨w.heap.size, 0, none⟩ = false := Yg hB1.v 0
     clear hB1 hor hb8 hg8
     go_wp2_with fail
     rw [HOR.out]
     go_roundw
     case rel => exact ⟨j + 1, by omega, by go_num, fun t ht => by
       by_cases e : t = j
       ·subst e; exact HGood.out
       ·exact HC.out t (by omega), HB1.out.store _⟩
     case measure => simp [intOf]; omega
   ·have cv : wr.cell? ⟨w.heap.size, 0, none⟩ = some (.int .u32 (M.get x j)) := (by rw [Ya HB.out.v]; rfl)
    have fv : wr.frozen? ⟨w.heap.size, 0, none⟩ = false := Yg HB.out.v 0
    have cf : ∀ o, wr.cell? ⟨w.heap.size + 1, o, none⟩ = #[.int .i64 0, .int .u32 0, .int .u32 0, .int .i64 0][o]? := Ya HB.out.f
    have ff : ∀ o, wr.frozen? ⟨w.heap.size + 1, o, none⟩ = false := Yg HB.out.f
    have ck : ∀ o, wr.cell? ⟨w.heap.size + 1 + 1, o, none⟩ = #[.bool false][o]? := Ya HB.out.k
    have fk : ∀ o, wr.frozen? ⟨w.heap.size + 1 + 1, o, none⟩ = false := Yg HB.out.k
    go_wp2_with fail
    have e : j = n := by omega
    subst e
    refine Yb6 w _ (M.get x j) _ _ ⟨rfl, rfl, rfl⟩ ?_ ?_ ?_ ?_ (fun w' hU => HFK.out w' HC.out hU)
    ·exact Yc _ (by simp <;> omega) (Yc _ (by simp <;> omega) (Yc _ (by simp <;> omega) (Yc _ (by simp <;> omega) (Yc _ (by simp <;> omega) (Ye HB.out.v 0 _)))))
    ·refine Yc _ (by simp <;> omega) ?_
     have h := Ye (Ye (Ye (Ye (Yc (a := ⟨w.heap.size, 0, none⟩) (.int .u32 (M.get x j)) (by simp <;> omega) HB.out.f) 0 (.int .i64 0)) 1 (.int .u32 0)) 2 (.int .u32 0)) 3 (.int .i64 0)
     exact h
    ·exact Ye (Yc _ (by simp <;> omega) (Yc _ (by simp <;> omega) (Yc _ (by simp <;> omega) (Yc _ (by simp <;> omega) (Yc _ (by simp <;> omega) HB.out.k))))) 0 _
    ·exact (((((HB.out.u.setCell (by simp <;> omega) _).setCell (by simp <;> omega) _).setCell (by simp <;> omega) _).setCell (by simp <;> omega) _).setCell (by simp <;> omega) _).setCell (by simp <;> omega) _
 ·have HR := Yh_ hR
  subst e1
  clear hR
  go_enter_defers Try.func50, Try.ntmps50
  go_wp2_with (go_at_call 67; refine (Yck bytes _).mono ?_; rintro e w' ⟨rfl, rfl⟩; rw [HN.out])
  go_loopw [11, 21] (fun _ i wr => ∃ j : Nat, j ≤ n ∧ i = .int .i64 j ∧ (∀ t, t < j → M.can (Yf x t) (Yu 4) = true) ∧ Yaz M a pb w (M.get x j) wr) (fun _ i _ => n - (intOf i).toNat)
  case atStart => exact ⟨0, Nat.zero_le _, rfl, by simp, HS.out⟩
  case round =>
   obtain ⟨j, hj, rfl, hcan, hB⟩ := hrel
   have HC := Yh_ hcan
   have HB := Yh_ hB
   clear hcan hB
   by_cases hlt : j < n
   ·have hplus := Yc8 x j h0 h1 (by omega)
    have HP := Yh_ hplus
    clear hplus
    cases hb : M.can (Yf x j) (Yu 4)
    ·have HBad := Yh_ hb
     clear hb
     go_wp2_with fail
     refine Yr 15 (Yaz M a pb w (M.get x j)) (fun c w1 => c = [{ v := .iface 112 (Yae (Yf x j) (Yu 4)), recovered := false }] ∧ Yaz M a pb w (M.get x j) w1) (by kernel_rfl) (by kernel_rfl) ⟨HB.out.v, HB.out.f, HB.out.k, HB.out.m.drew, HB.out.u.drew, HB.out.al, HB.out.pl⟩ ?_ ?_
     ·rintro c a' w1 ⟨rfl, hB1⟩ hd hs ht
      go_wp2_with fail
      show Leaves _ _ _ _ a'.defers _ _
      rw [hd]
      refine Ybw M a pb w w1 _ _ _ _ _ ⟨?_, ?_, ?_⟩ hB1 (fun w' hU => HFP.out j w' hlt HC.out HBad.out hU)
      ·rw [Array.getD_eq_getD_getElem?, ht 8 rfl]; rfl
      ·rw [Array.getD_eq_getD_getElem?, ht 9 rfl]; rfl
      ·rw [Array.getD_eq_getD_getElem?, ht 10 rfl]; rfl
     ·simp only [List.take_succ_cons, List.take_zero, List.drop_succ_cons, List.drop_zero]
      repeat
       apply Yj rfl rfl
       ·intro K hK w1 hB1
        have cv : w1.cell? ⟨w.heap.size, 0, none⟩ = some (.int .u32 (M.get x j)) := (by rw [Ya hB1.v]; rfl)
        go_wp2_with fail
        exact hB1
       ·exact ⟨_, rfl⟩
      refine Ycu rfl rfl ?_ ?_
      ·intro w1 hB1
       go_wp2_with fail
       refine (Yee a pb (Yf x j) _ w1 M hB1.m (Yp x j) (by have := HBad.out; rw [HR.out] at this; exact this)).mono ?_
       rintro e w2 ⟨rfl, rfl⟩
       rw [HR.out]
       exact ⟨rfl, hB1⟩
      repeat
       first
       |refine Ycv rfl ?_
       |apply Yj rfl rfl
        ·intro K hK w1 hB1
         go_wp2_with fail
         exact hB1
        ·exact ⟨_, rfl⟩
      exact Yk (fun h => by cases h)
    ·have HGood := Yh_ hb
     clear hb
     have hx := Yem (Yp x j) HGood.out
     have HX := Yh_ hx
     clear hx
     go_wp2_with fail
     refine Yr 15 (Yaz M a pb w (M.get x j)) (fun _ _ => False) (by kernel_rfl) (by kernel_rfl) ⟨HB.out.v, HB.out.f, HB.out.k, HB.out.m.drew, HB.out.u.drew, HB.out.al, HB.out.pl⟩ (fun _ _ _ h => h.elim) ?_
     simp only [List.take_succ_cons, List.take_zero, List.drop_succ_cons, List.drop_zero]
     have hb8 := Yez HB.out.m (Yp x j) HX.out
     have hg8 := Yc5 HB.out.m x j
     repeat
      apply Yj rfl rfl
      ·intro K hK w1 hB1
       have cv : w1.cell? ⟨w.heap.size, 0, none⟩ = some (.int .u32 (M.get x j)) := (by rw [Ya hB1.v]; rfl)
       have cb := hB1.m.cbyte _ (Yp x j) HX.out
       go_wp2_with (go_at_call 68; refine (at_ok a pb (Yf x j) _ w1 M hB1.m (Yp x j) (by have := HGood.out; rw [HR.out] at this; exact this)).mono ?_; rintro e w2 ⟨rfl, rfl⟩)
       exact hB1
      ·exact ⟨_, rfl⟩
     refine Yk (fun _ w1 hB1 => ?_)
     have hor := Yfz HB.out.m x j (by omega)
     have HOR := Yh_ hor
     have HB1 := Yh_ hB1
     have cv : w1.cell? ⟨w.heap.size, 0, none⟩ = some (.int .u32 (M.get x j)) := (by rw [Ya hB1.v]; rfl)
     have fv : w1.frozen? ⟨w.heap.size, 0, none⟩ = false := Yg hB1.v 0
     clear hB1 hor hb8 hg8
     go_wp2_with fail
     rw [HOR.out]
     go_roundw
     case rel => exact ⟨j + 1, by omega, by go_num, fun t ht => by
       by_cases e : t = j
       ·subst e; exact HGood.out
       ·exact HC.out t (by omega), HB1.out.store _⟩
     case measure => simp [intOf]; omega
   ·have cv : wr.cell? ⟨w.heap.size, 0, none⟩ = some (.int .u32 (M.get x j)) := (by rw [Ya HB.out.v]; rfl)
    have fv : wr.frozen? ⟨w.heap.size, 0, none⟩ = false := Yg HB.out.v 0
    have cf : ∀ o, wr.cell? ⟨w.heap.size + 1, o, none⟩ = #[.int .i64 0, .int .u32 0, .int .u32 0, .int .i64 0][o]? := Ya HB.out.f
    have ff : ∀ o, wr.frozen? ⟨w.heap.size + 1, o, none⟩ = false := Yg HB.out.f
    have ck : ∀ o, wr.cell? ⟨w.heap.size + 1 + 1, o, none⟩ = #[.bool false][o]? := Ya HB.out.k
    have fk : ∀ o, wr.frozen? ⟨w.heap.size + 1 + 1, o, none⟩ = false := Yg HB.out.k
    go_wp2_with fail
    have e : j = n := by omega
    subst e
    refine Yb6 w _ (M.get x j) _ _ ⟨rfl, rfl, rfl⟩ ?_ ?_ ?_ ?_ (fun w' hU => HFK.out w' HC.out hU)
    ·exact Yc _ (by simp <;> omega) (Yc _ (by simp <;> omega) (Yc _ (by simp <;> omega) (Yc _ (by simp <;> omega) (Yc _ (by simp <;> omega) (Ye HB.out.v 0 _)))))
    ·refine Yc _ (by simp <;> omega) ?_
     have h := Ye (Ye (Ye (Ye (Yc (a := ⟨w.heap.size, 0, none⟩) (.int .u32 (M.get x j)) (by simp <;> omega) HB.out.f) 0 (.int .i64 0)) 1 (.int .u32 0)) 2 (.int .u32 0)) 3 (.int .i64 0)
     exact h
    ·exact Ye (Yc _ (by simp <;> omega) (Yc _ (by simp <;> omega) (Yc _ (by simp <;> omega) (Yc _ (by simp <;> omega) (Yc _ (by simp <;> omega) HB.out.k))))) 0 _
    ·exact (((((HB.out.u.setCell (by simp <;> omega) _).setCell (by simp <;> omega) _).setCell (by simp <;> omega) _).setCell (by simp <;> omega) _).setCell (by simp <;> omega) _).setCell (by simp <;> omega) _
 ·have HR := Yh_ hR
  have f1 : (right != 2) = true := by simpa using e1
  have f2 : (right != 4) = true := by simpa using e2
  clear hR e1 e2
  go_enter_defers Try.func50, Try.ntmps50
  go_wp2_with (go_at_call 67; refine (Yck bytes _).mono ?_; rintro e w' ⟨rfl, rfl⟩; rw [HN.out])
  go_loopw [11, 21] (fun _ i wr => ∃ j : Nat, j ≤ n ∧ i = .int .i64 j ∧ (∀ t, t < j → M.can (Yf x t) (Yu right) = true) ∧ Yaz M a pb w (M.get x j) wr) (fun _ i _ => n - (intOf i).toNat)
  case atStart => exact ⟨0, Nat.zero_le _, rfl, by simp, HS.out⟩
  case round =>
   obtain ⟨j, hj, rfl, hcan, hB⟩ := hrel
   have HC := Yh_ hcan
   have HB := Yh_ hB
   clear hcan hB
   by_cases hlt : j < n
   ·have hplus := Yc8 x j h0 h1 (by omega)
    have HP := Yh_ hplus
    clear hplus
    cases hb : M.can (Yf x j) (Yu right)
    ·have HBad := Yh_ hb
     clear hb
     go_wp2_with fail
     refine Yr 15 (Yaz M a pb w (M.get x j)) (fun c w1 => c = [{ v := .iface 112 (Yae (Yf x j) (Yu right)), recovered := false }] ∧ Yaz M a pb w (M.get x j) w1) (by kernel_rfl) (by kernel_rfl) ⟨HB.out.v, HB.out.f, HB.out.k, HB.out.m.drew, HB.out.u.drew, HB.out.al, HB.out.pl⟩ ?_ ?_
     ·rintro c a' w1 ⟨rfl, hB1⟩ hd hs ht
      go_wp2_with fail
      show Leaves _ _ _ _ a'.defers _ _
      rw [hd]
      refine Ybw M a pb w w1 _ _ _ _ _ ⟨?_, ?_, ?_⟩ hB1 (fun w' hU => HFP.out j w' hlt HC.out HBad.out hU)
      ·rw [Array.getD_eq_getD_getElem?, ht 8 rfl]; rfl
      ·rw [Array.getD_eq_getD_getElem?, ht 9 rfl]; rfl
      ·rw [Array.getD_eq_getD_getElem?, ht 10 rfl]; rfl
     ·simp only [List.take_succ_cons, List.take_zero, List.drop_succ_cons, List.drop_zero]
      repeat
       apply Yj rfl rfl
       ·intro K hK w1 hB1
        have cv : w1.cell? ⟨w.heap.size, 0, none⟩ = some (.int .u32 (M.get x j)) := (by rw [Ya hB1.v]; rfl)
        go_wp2_with fail
        exact hB1
       ·exact ⟨_, rfl⟩
      refine Ycu rfl rfl ?_ ?_
      ·intro w1 hB1
       go_wp2_with fail
       refine (Yee a pb (Yf x j) _ w1 M hB1.m (Yp x j) (by have := HBad.out; rw [HR.out] at this; exact this)).mono ?_
       rintro e w2 ⟨rfl, rfl⟩
       rw [HR.out]
       exact ⟨rfl, hB1⟩
      repeat
       first
       |refine Ycv rfl ?_
       |apply Yj rfl rfl
        ·intro K hK w1 hB1
         go_wp2_with fail
         exact hB1
        ·exact ⟨_, rfl⟩
      exact Yk (fun h => by cases h)
    ·have HGood := Yh_ hb
     clear hb
     have hx := Yem (Yp x j) HGood.out
     have HX := Yh_ hx
     clear hx
     go_wp2_with fail
     refine Yr 15 (Yaz M a pb w (M.get x j)) (fun _ _ => False) (by kernel_rfl) (by kernel_rfl) ⟨HB.out.v, HB.out.f, HB.out.k, HB.out.m.drew, HB.out.u.drew, HB.out.al, HB.out.pl⟩ (fun _ _ _ h => h.elim) ?_
     simp only [List.take_succ_cons, List.take_zero, List.drop_succ_cons, List.drop_zero]
     have hb8 := Yez HB.out.m (Yp x j) HX.out
     have hg8 := Yc5 HB.out.m x j
     repeat
      apply Yj rfl rfl
      ·intro K hK w1 hB1
       have cv : w1.cell? ⟨w.heap.size, 0, none⟩ = some (.int .u32 (M.get x j)) := (by rw [Ya hB1.v]; rfl)
       have cb := hB1.m.cbyte _ (Yp x j) HX.out
       go_wp2_with (go_at_call 68; refine (at_ok a pb (Yf x j) _ w1 M hB1.m (Yp x j) (by have := HGood.out; rw [HR.out] at this; exact this)).mono ?_; rintro e w2 ⟨rfl, rfl⟩)
       exact hB1
      ·exact ⟨_, rfl⟩
     refine Yk (fun _ w1 hB1 => ?_)
     have hor := Yfz HB.out.m x j (by omega)
     have HOR := Yh_ hor
     have HB1 := Yh_ hB1
     have cv : w1.cell? ⟨w.heap.size, 0, none⟩ = some (.int .u32 (M.get x j)) := (by rw [Ya hB1.v]; rfl)
     have fv : w1.frozen? ⟨w.heap.size, 0, none⟩ = false := Yg hB1.v 0
     clear hB1 hor hb8 hg8
     go_wp2_with fail
     rw [HOR.out]
     go_roundw
     case rel => exact ⟨j + 1, by omega, by go_num, fun t ht => by
       by_cases e : t = j
       ·subst e; exact HGood.out
       ·exact HC.out t (by omega), HB1.out.store _⟩
     case measure => simp [intOf]; omega
   ·have cv : wr.cell? ⟨w.heap.size, 0, none⟩ = some (.int .u32 (M.get x j)) := (by rw [Ya HB.out.v]; rfl)
    have fv : wr.frozen? ⟨w.heap.size, 0, none⟩ = false := Yg HB.out.v 0
    have cf : ∀ o, wr.cell? ⟨w.heap.size + 1, o, none⟩ = #[.int .i64 0, .int .u32 0, .int .u32 0, .int .i64 0][o]? := Ya HB.out.f
    have ff : ∀ o, wr.frozen? ⟨w.heap.size + 1, o, none⟩ = false := Yg HB.out.f
    have ck : ∀ o, wr.cell? ⟨w.heap.size + 1 + 1, o, none⟩ = #[.bool false][o]? := Ya HB.out.k
    have fk : ∀ o, wr.frozen? ⟨w.heap.size + 1 + 1, o, none⟩ = false := Yg HB.out.k
    go_wp2_with fail
    have e : j = n := by omega
    subst e
    refine Yb6 w _ (M.get x j) _ _ ⟨rfl, rfl, rfl⟩ ?_ ?_ ?_ ?_ (fun w' hU => HFK.out w' HC.out hU)
    ·exact Yc _ (by simp <;> omega) (Yc _ (by simp <;> omega) (Yc _ (by simp <;> omega) (Yc _ (by simp <;> omega) (Yc _ (by simp <;> omega) (Ye HB.out.v 0 _)))))
    ·refine Yc _ (by simp <;> omega) ?_
     have h := Ye (Ye (Ye (Ye (Yc (a := ⟨w.heap.size, 0, none⟩) (.int .u32 (M.get x j)) (by simp <;> omega) HB.out.f) 0 (.int .i64 0)) 1 (.int .u32 0)) 2 (.int .u32 0)) 3 (.int .i64 0)
     exact h
    ·exact Ye (Yc _ (by simp <;> omega) (Yc _ (by simp <;> omega) (Yc _ (by simp <;> omega) (Yc _ (by simp <;> omega) (Yc _ (by simp <;> omega) HB.out.k))))) 0 _
    ·exact (((((HB.out.u.setCell (by simp <;> omega) _).setCell (by simp <;> omega) _).setCell (by simp <;> omega) _).setCell (by simp <;> omega) _).setCell (by simp <;> omega) _).setCell (by simp <;> omega) _
theorem Yd.store {w1 : World} {a pb : Nat} {M : Mem} (h : Yd w1 a pb M) {y : Int} (h0 : 0 ≤ y) (h1 : y < 16384) {b : Int} (hb0 : 0 ≤ b) (hb1 : b ≤ 255) :
  Yd (w1.setCell ⟨pb, Ya5 y, none⟩ (.int .u8 b)) a pb (M.setB y.toNat b) := by
 refine h.set _ _ (by unfold Ya5; omega) ?_ (Mem.setB_ok h.ok _ hb0 hb1)
 rw [Ya5, Mem.cells_setB _ _ _ _ (by omega) (by omega), show (y / 256).toNat * 256 + (y % 256).toNat = y.toNat from by omega]
theorem Ye8 : (Try.prog.info? 5).map (fun i => (i.zero, i.size, i.bytes)) = some (some (.int .u8 0), 1, 1) := by kernel_rfl
def Mem.peekN (M : Mem) (x : Int) (c : Nat) : Nat := ((List.range c).find? fun i => !M.mappedB (Yf x i)).getD c
def Mem.peekL (M : Mem) (x : Int) (k : Nat) : List Int := (List.range k).map fun i => M.B (Yf x i).toNat
theorem Yb8 (M : Mem) (x : Int) (k : Nat) : M.peekL x (k + 1) = M.peekL x k ++ [M.B (Yf x k).toNat] := by
 simp [Mem.peekL, List.range_succ]
theorem Ybu (M : Mem) (x : Int) (k : Nat) : (M.peekL x k).length = k := by simp [Mem.peekL]
theorem Ycy (M : Mem) (x : Int) (c j : Nat) (hj : j < c) (hc : ∀ t, t < j → M.mappedB (Yf x t) = true) (hb : M.mappedB (Yf x j) = false) : M.peekN x c = j := by
 have : (List.range c).find? (fun i => !M.mappedB (Yf x i)) = some j := by
  rw [List.find?_range_eq_some]
  exact ⟨by simp [hb], by simpa using hj, fun t ht => by simp [hc t ht]⟩
 simp [Mem.peekN, this]
theorem Ycl (M : Mem) (x : Int) (c : Nat) (hc : ∀ t, t < c → M.mappedB (Yf x t) = true) : M.peekN x c = c := by
 have : (List.range c).find? (fun i => !M.mappedB (Yf x i)) = none := by
  rw [List.find?_eq_none]
  intro t ht
  simp [hc t (List.mem_range.1 ht)]
 simp [Mem.peekN, this]
theorem Yb2 {M : Mem} {x : Int} (h : M.mappedB x = true) : x < 16384 := by
 simp only [Mem.mappedB, Bool.and_eq_true, decide_eq_true_eq] at h
 exact h.1
theorem Yg9 (x : Int) (h0 : 0 ≤ x) (h1 : x < 4294967296) : Yf x 0 = x := by
 unfold Yf; omega
theorem Yew (x : Int) (j : Nat) (h : Yf x j < 16384) : Yf x j + 1 = Yf x (j + 1) := by
 unfold Yf at *; omega
theorem Ygi (x : Int) (j : Nat) : Yf x j < 4294967296 := by unfold Yf; omega
def Mem.peek (M : Mem) (x n : Int) : List Int := M.peekL x (M.peekN x (min n 16384).toNat)
theorem Yfs (M : Mem) (a pb : Nat) (x n : Int) (w : World) (hM : Yd w a pb M) (h0 : 0 ≤ x) (h1 : x < 4294967296) (hn : -9223372036854775808 ≤ n) (hn' : n ≤ 9223372036854775807) :
  Calls Try.prog 21 #[.pointer (some ⟨a, 0, none⟩), .int .u32 x, .int .i64 n] w fun e w' =>
   ∃ v, e = .returned v ∧ w'.ownsRow w.heap.size 5 1 v (M.peek x n).length ((M.peek x n).map (Value.int .u8)) ∧ Upd [] w w' := by
 obtain ⟨i0, hi, hz0, hz1, hz2⟩ := info_parts Ye8
 have HI := Yh_ (And.intro hi (And.intro hz0 (And.intro hz1 hz2)))
 clear hi hz0 hz1 hz2
 obtain ⟨k, hk⟩ : ∃ k : Nat, (min n 16384).toNat = k := ⟨_, rfl⟩
 have hk2 : Hid (k ≤ 16384) := Yh_ (by omega)
 have HK := Yh_ hk
 have hz := Yg9 x h0 h1
 have HZ := Yh_ hz
 have hmin : (min n 16384 < 0 ∧ k = 0) ∨ (0 ≤ min n 16384 ∧ min n 16384 = k) := by omega
 have HMin := Yh_ hmin
 clear hk hz hmin
 have hfin : ∀ (j : Nat) (v : Value) (w' : World), j = M.peekN x k → w'.ownsRow w.heap.size 5 1 v j ((M.peekL x j).map (Value.int .u8)) → Upd [] w w' →
   ∃ u, Ending.returned v = .returned u ∧ w'.ownsRow w.heap.size 5 1 u (M.peek x n).length ((M.peek x n).map (Value.int .u8)) ∧ Upd [] w w' := by
  intro j v w' hj ho hU
  refine ⟨v, rfl, ?_, hU⟩
  simp only [Mem.peek, HK.out, ← hj, Ybu]
  exact ho
 have HF := Yh_ hfin
 clear hfin
 have hal := hM.al
 have hpl := hM.pl
 go_enter Try.func21, Try.ntmps21
 go_wp2_with fail
 go_loopw [7, 8] (fun v y wr => ∃ j : Nat, j ≤ k ∧ y = .int .u32 (Yf x j) ∧ (∀ t, t < j → M.mappedB (Yf x t) = true) ∧ Yd wr a pb M ∧ Upd [] w wr ∧ wr.ownsRow w.heap.size 5 1 v j ((M.peekL x j).map (Value.int .u8))) (fun v _ _ => k - Ydm v)
 case atStart => exact ⟨0, Nat.zero_le _, by rw [HZ.out], by simp, hM, Upd.refl _ _, World.ownsRow_nil _ _ _ _⟩
 case round =>
  obtain ⟨j, hj, rfl, hc, hm, hU, ho⟩ := hrel
  have HC := Yh_ hc
  have HM := Yh_ hm
  have HU := Yh_ hU
  have HO := Yh_ ho
  clear hc hm hU ho hM
  obtain ⟨sb, sc, rfl⟩ := Ycg HO.out
  have hplt := Ygi x j
  have hpn := Yp x j
  by_cases h16 : n ≤ 16384
  ·by_cases hlt : j < k
   ·have hmn : (j : Int) < n := by have := HMin.out; omega
    cases hb : M.mappedB (Yf x j)
    ·have HB := Yh_ hb
     clear hb
     go_wp2_with (go_at_call 46; refine (Ycb a pb (Yf x j) _ M HM.out (Yp x j)).mono ?_; rintro e w' ⟨rfl, rfl⟩; rw [HB.out])
     go_ret
     exact HF.out j _ _ (Ycy M x k j hlt HC.out HB.out).symm HO.out HU.out
    ·have HB := Yh_ hb
     clear hb
     have hx := Yb2 HB.out
     obtain ⟨c, hc, c0⟩ := HM.out.c0
     have cb := HM.out.cB (Yf x j / 256).toNat (Yf x j % 256).toNat (by omega) (by omega)
     rw [show (Yf x j / 256).toNat * 256 + (Yf x j % 256).toNat = (Yf x j).toNat from by omega] at cb
     go_wp2_with (first | (go_at_call 46; refine (Ycb a pb (Yf x j) _ M HM.out (Yp x j)).mono ?_; rintro e w' ⟨rfl, rfl⟩; rw [HB.out]) | (at_builtin; refine wpList_append_own _ rfl _ _ 67 rfl w.heap.size 5 i0 (.int .u8 0) 1 1 Try.underlying67 HI.out.1 HI.out.2.1 HI.out.2.2.1 HI.out.2.2.2 rfl (by decide) _ _ _ rfl (HO.out.alloc _) ⟨wr.heap.size, 0, none⟩ 1 1 [.int .u8 (M.B (Yf x j).toNat)] rfl rfl (Ye9 _ _ _) (Ycn _ _) (by have := hk2.out; unfold maxLen; omega) (by have := hk2.out; omega) (by have := HU.out.size; simp; omega) ?_))
     intro v' w1 hown' hgrow _
     have hU1 := Upd.of_grown hgrow
     have hlt' := HO.out.lt
     have hU2 : Upd (Value.slice sb j sc).ownBlock.toList wr w1 := ((Upd.refl [] wr).alloc _).trans hU1 (by simp) (fun z hz => .inl hz)
     have hne : ∀ z, z ∈ (Value.slice sb j sc).ownBlock.toList → w.heap.size ≤ z := fun z hz => (hlt' z (by simpa using hz)).1
     have hm' := HM.out.keep hU2 (fun h => by have := hne _ h; omega) (fun h => by have := hne _ h; omega)
     have hu' := HU.out.new hU2 hne
     have HM' := Yh_ hm'
     have HU' := Yh_ hu'
     have HO' := Yh_ hown'
     clear hm' hu' hown' hgrow hU1 hU2 hne hlt' cb c0 hc
     go_wp2_with fail
     rw [Yew _ _ (Yb2 HB.out)]
     go_roundw
     case rel => exact ⟨j + 1, by omega, rfl, fun t ht => by
       by_cases e : t = j
       ·subst e; exact HB.out
       ·exact HC.out t (by omega), HM'.out, HU'.out, by rw [Yb8, List.map_append]; exact HO'.out⟩
     case measure => rw [Yde HO'.out]; simp [Ydm]; omega
   ·have hmn : ¬ (j : Int) < n := by have := HMin.out; omega
    go_wp2_with fail
    go_ret
    have e : j = k := by omega
    exact HF.out j _ _ (by rw [e]; exact (Ycl M x k (fun t ht => HC.out t (by omega))).symm) HO.out HU.out
  ·by_cases hlt : j < k
   ·have hmn : decide ((j : Int) < 16384) = true := by have := HMin.out; simp; omega
    cases hb : M.mappedB (Yf x j)
    ·have HB := Yh_ hb
     clear hb
     go_wp2_with (go_at_call 46; refine (Ycb a pb (Yf x j) _ M HM.out (Yp x j)).mono ?_; rintro e w' ⟨rfl, rfl⟩; rw [HB.out])
     go_ret
     exact HF.out j _ _ (Ycy M x k j hlt HC.out HB.out).symm HO.out HU.out
    ·have HB := Yh_ hb
     clear hb
     have hx := Yb2 HB.out
     obtain ⟨c, hc, c0⟩ := HM.out.c0
     have cb := HM.out.cB (Yf x j / 256).toNat (Yf x j % 256).toNat (by omega) (by omega)
     rw [show (Yf x j / 256).toNat * 256 + (Yf x j % 256).toNat = (Yf x j).toNat from by omega] at cb
     go_wp2_with (first | (go_at_call 46; refine (Ycb a pb (Yf x j) _ M HM.out (Yp x j)).mono ?_; rintro e w' ⟨rfl, rfl⟩; rw [HB.out]) | (at_builtin; refine wpList_append_own _ rfl _ _ 67 rfl w.heap.size 5 i0 (.int .u8 0) 1 1 Try.underlying67 HI.out.1 HI.out.2.1 HI.out.2.2.1 HI.out.2.2.2 rfl (by decide) _ _ _ rfl (HO.out.alloc _) ⟨wr.heap.size, 0, none⟩ 1 1 [.int .u8 (M.B (Yf x j).toNat)] rfl rfl (Ye9 _ _ _) (Ycn _ _) (by have := hk2.out; unfold maxLen; omega) (by have := hk2.out; omega) (by have := HU.out.size; simp; omega) ?_))
     intro v' w1 hown' hgrow _
     have hU1 := Upd.of_grown hgrow
     have hlt' := HO.out.lt
     have hU2 : Upd (Value.slice sb j sc).ownBlock.toList wr w1 := ((Upd.refl [] wr).alloc _).trans hU1 (by simp) (fun z hz => .inl hz)
     have hne : ∀ z, z ∈ (Value.slice sb j sc).ownBlock.toList → w.heap.size ≤ z := fun z hz => (hlt' z (by simpa using hz)).1
     have hm' := HM.out.keep hU2 (fun h => by have := hne _ h; omega) (fun h => by have := hne _ h; omega)
     have hu' := HU.out.new hU2 hne
     have HM' := Yh_ hm'
     have HU' := Yh_ hu'
     have HO' := Yh_ hown'
     clear hm' hu' hown' hgrow hU1 hU2 hne hlt' cb c0 hc
     go_wp2_with fail
     rw [Yew _ _ (Yb2 HB.out)]
     go_roundw
     case rel => exact ⟨j + 1, by omega, rfl, fun t ht => by
       by_cases e : t = j
       ·subst e; exact HB.out
       ·exact HC.out t (by omega), HM'.out, HU'.out, by rw [Yb8, List.map_append]; exact HO'.out⟩
     case measure => rw [Yde HO'.out]; simp [Ydm]; omega
   ·have hmn : decide ((j : Int) < 16384) = false := by have := HMin.out; simp; omega
    go_wp2_with fail
    go_ret
    have e : j = k := by omega
    exact HF.out j _ _ (by rw [e]; exact (Ycl M x k (fun t ht => HC.out t (by omega))).symm) HO.out HU.out
def Ybz (b : Bool) (n : Int) : Int := if b then 0 else n
def Mem.samePage (M N : Mem) (p : Nat) : Bool := (M.R p == N.R p) && (List.range 256).all fun j => M.B (p * 256 + j) == N.B (p * 256 + j)
def Mem.same (M N : Mem) : Bool := (List.range 64).all fun p => M.samePage N p
section
def Ybx (tmps : Array Value) : ResultVar → Sem Value
 |.tmp t => pure (tmps.getD t undef)
 |.cell a t => do loadVar t (← asAddr (tmps.getD a undef))
theorem Yec (fn : Func) (tmps : Array Value) : results fn tmps = (do
  let vs ← fn.results.mapM (Ybx tmps)
  pure (if h : vs.size = 1 then vs[0] else .tuple vs)) := by
 unfold results
 congr 1
section
variable {P : Program} {fn : Func} {tmps : Array Value} {w : World} {r0 r1 r2 : ResultVar} {v0 v1 v2 : Value}
theorem Yf2 (h : fn.results = #[r0]) (h0 : (Ybx tmps r0).run P w = .ok v0 w) : (results fn tmps).run P w = .ok v0 w := by
 rw [Yec, h]
 simp [Sem.run_bind, h0]
theorem Ya1 (h : fn.results = #[r0, r1]) (h0 : (Ybx tmps r0).run P w = .ok v0 w) (h1 : (Ybx tmps r1).run P w = .ok v1 w) : (results fn tmps).run P w = .ok (.tuple #[v0, v1]) w := by
 rw [Yec, h]
 simp [Sem.run_bind, h0, h1]
theorem Ycc (t : Tmp) (h : tmps.getD t undef = v0) : (Ybx tmps (.tmp t)).run P w = .ok v0 w := by
 simp only [Ybx, Sem.run_pure, h]
theorem Ygm (a : Tmp) (ty : TypeId) (b : Nat) (cs : Array Value) {t : TypeId} {f : Nat × Nat} (d : TypeDesc) (ha : tmps.getD a undef = .pointer (some ⟨b, 0, none⟩)) (hb : w.heap[b]? = some (.cells cs t f))
  (hu : P.underlying ty = some d) (hd : d.isRow = true) (hi : (P.info? ty).map (·.size) = some cs.size) : (Ybx tmps (.cell a ty)).run P w = .ok (.agg cs) w := by
 have h := run_loadVar_mid (P := P) w b 0 ty cs.toList d (Ydp hb) hu hd (by rw [Array.length_toList]; exact hi)
 rw [Array.toArray_toList] at h
 simp only [Ybx, Sem.run_bind, ha]
 simp [asAddr, h]
end
theorem Ybl {P : Program} {ops : Array Oper} {rest : List Oper} {op : Oper} {a : Act} {w : World} {Q : Exit → Act → World → Prop} (ty : TypeId) {x y : Operand} (ho : op.op = .store ty x y) (h : wpList P ops Q (op :: rest) a w) : wpList P ops Q (op :: rest) a w := h
theorem Ycq {P : Program} {ops : Array Oper} {rest : List Oper} {op : Oper} {a : Act} {w : World} {Q : Exit → Act → World → Prop} (ty : TypeId) {x : Operand} (ho : op.op = .load ty x) (h : wpList P ops Q (op :: rest) a w) : wpList P ops Q (op :: rest) a w := h
end
structure Opd where
 k : Int
 r : Int
 imm : Int
 b : Int
 x : Int
 sc : Int
structure Opd.Ok (o : Opd) : Prop where
 imm : 0 ≤ o.imm ∧ o.imm < 4294967296
 sc : 0 ≤ o.sc ∧ o.sc < 4294967296
def Opd.val (o : Opd) : Value := .agg #[.int .i64 o.k, .int .i64 o.r, .int .u32 o.imm, .int .i64 o.b, .int .i64 o.x, .int .u32 o.sc]
theorem Opd.ext' {a b : Opd} (h1 : a.k = b.k) (h2 : a.r = b.r) (h3 : a.imm = b.imm) (h4 : a.b = b.b) (h5 : a.x = b.x) (h6 : a.sc = b.sc) : a = b := by
 cases a; cases b; simp_all
def Opd.none : Opd := ⟨0, 0, 0, 0, 0, 0⟩
structure Ins where
 op : Int
 cond : Int
 a : Opd
 b : Opd
 rep : Bool
 len : Int
def Ins.zero : Ins := ⟨0, 0, Opd.none, Opd.none, false, 0⟩
def Ins.cells (i : Ins) : Array Value := #[.int .i64 i.op, .int .i64 i.cond,
 .int .i64 i.a.k, .int .i64 i.a.r, .int .u32 i.a.imm, .int .i64 i.a.b, .int .i64 i.a.x, .int .u32 i.a.sc,
 .int .i64 i.b.k, .int .i64 i.b.r, .int .u32 i.b.imm, .int .i64 i.b.b, .int .i64 i.b.x, .int .u32 i.b.sc,
 .bool i.rep, .int .i64 i.len]
theorem Ins.size (i : Ins) : i.cells.size = 16 := rfl
theorem Ins.one (i : Ins) : i.cells.all (·.oneCell') = true := by simp [Ins.cells, Value.oneCell']
structure St where
 R : Nat → Int
 pc : Int
 cf : Bool
 pf : Bool
 af : Bool
 zf : Bool
 sf : Bool
 of_ : Bool
 df : Bool
 f : Int
structure St.Ok (s : St) : Prop where
 R : ∀ i, 0 ≤ s.R i ∧ s.R i < 4294967296
 pc : 0 ≤ s.pc ∧ s.pc < 4294967296
 f : 0 ≤ s.f ∧ s.f < 18446744073709551616
def St.cells (s : St) : Array Value := #[.int .u32 (s.R 0), .int .u32 (s.R 1), .int .u32 (s.R 2), .int .u32 (s.R 3), .int .u32 (s.R 4), .int .u32 (s.R 5), .int .u32 (s.R 6), .int .u32 (s.R 7), .int .u32 s.pc,
 .bool s.cf, .bool s.pf, .bool s.af, .bool s.zf, .bool s.sf, .bool s.of_, .bool s.df, .int .u64 s.f]
def St.setR (s : St) (i : Nat) (v : Int) : St := { s with R := fun j => if j = i then v else s.R j }
def St.zero : St := ⟨fun _ => 0, 0, false, false, false, false, false, false, false, 0⟩
theorem St.zero_ok : St.zero.Ok := ⟨fun _ => by simp [St.zero], by simp [St.zero], by simp [St.zero]⟩
theorem St.setR_ok {s : St} (h : s.Ok) (i : Nat) {v : Int} (h0 : 0 ≤ v) (h1 : v < 4294967296) : (s.setR i v).Ok :=
 ⟨fun j => by simp only [St.setR]; split; exact ⟨h0, h1⟩; exact h.R j, h.pc, h.f⟩
theorem St.size (s : St) : s.cells.size = 17 := rfl
theorem St.cR (s : St) (i : Nat) (h : i < 8) : s.cells[i]? = some (.int .u32 (s.R i)) := by
 match i, h with
 |0, _ => rfl
 |1, _ => rfl
 |2, _ => rfl
 |3, _ => rfl
 |4, _ => rfl
 |5, _ => rfl
 |6, _ => rfl
 |7, _ => rfl
theorem St.cells_setR (s : St) (i : Nat) (v : Int) (h : i < 8) : s.cells.setIfInBounds i (.int .u32 v) = (s.setR i v).cells := by
 match i, h with
 |0, _ => rfl
 |1, _ => rfl
 |2, _ => rfl
 |3, _ => rfl
 |4, _ => rfl
 |5, _ => rfl
 |6, _ => rfl
 |7, _ => rfl
theorem St.one (s : St) : s.cells.all (·.oneCell') = true := by simp [St.cells, Value.oneCell']
theorem Yca : (Try.prog.info? 39).map (·.size) = some 17 := by kernel_rfl
def St.reg (s : St) (r : Int) : Int := if r = -1 then 0 else s.R (r % 8).toNat
theorem Yam {op : Oper} {a : Act} {w : World} {K : Act → World → Prop} {Q : Exit → Act → World → Prop} (s : St) (b : Nat) (x : Operand) (ho : op.op = .load 39 x) (hx : a.eval x = .pointer (some ⟨b, 0, none⟩))
  (hb : w.heap[b]? = some (.cells s.cells 39 (0, 0))) (hK : K (a.put op.dst (.agg s.cells)) w) : op.wp Try.prog a w K Q :=
 wp_load_mid 39 x ho b 0 hx s.cells.toList _ (Ydp hb) Try.underlying39 rfl (by rw [Array.length_toList, St.size]; exact Yca) (by rw [Array.toArray_toList]; exact hK)
theorem Yan {ops : Array Oper} {rest : List Oper} {op : Oper} {a : Act} {w : World} {Q : Exit → Act → World → Prop} (s : St) (b : Nat) (hgd : op.guard = none) (x : Operand) (ho : op.op = .load 39 x) (hx : a.eval x = .pointer (some ⟨b, 0, none⟩))
  (hb : w.heap[b]? = some (.cells s.cells 39 (0, 0))) (h : wpList Try.prog ops Q rest (a.put op.dst (.agg s.cells)) w) : wpList Try.prog ops Q (op :: rest) a w :=
 wpList_plain hgd fun _ hK => Yam s b x ho hx hb (hK _ _ h)
theorem Yc3 {ops : Array Oper} {rest : List Oper} {op : Oper} {a : Act} {w : World} {Q : Exit → Act → World → Prop} (s : St) (b : Nat) (hgd : op.guard = none) (x y : Operand) (ho : op.op = .store 39 x y) (hx : a.eval x = .pointer (some ⟨b, 0, none⟩)) (hy : a.eval y = .agg s.cells)
  {c : Array Value} (hb : w.heap[b]? = some (.cells c 39 (0, 0))) (hc : c.size = 17) (h : wpList Try.prog ops Q rest (a.put op.dst undef) (w.setCells b 0 s.cells.toList)) : wpList Try.prog ops Q (op :: rest) a w :=
 Ycj hgd 39 x y ho b 0 s.cells hx hy hb (by rw [hc, St.size]; exact Nat.le_refl _) (by rw [St.size]; exact Yca) s.one h
theorem Yx {ops : Array Oper} {rest : List Oper} {op : Oper} {a : Act} {w : World} {Q : Exit → Act → World → Prop} (s : St) (b : Nat) (hgd : op.guard = none) (x y : Operand) (ho : op.op = .store 39 x y) (hx : a.eval x = .pointer (some ⟨b, 0, none⟩)) (hy : a.eval y = .agg s.cells)
  {c : Array Value} (hb : w.heap[b]? = some (.cells c 39 (0, 0))) (hc : c.size = 17) (h : ∀ w', w.setCells b 0 s.cells.toList = w' → wpList Try.prog ops Q rest (a.put op.dst undef) w') : wpList Try.prog ops Q (op :: rest) a w :=
 Yc3 s b hgd x y ho hx hy hb hc (h _ rfl)
theorem Yfy (c : Array Value) (s : St) (hc : c.size = 17) : wr c 0 s.cells.toList = s.cells := by
 apply Array.ext_getElem?
 intro k
 have hl : s.cells.toList.length = 17 := rfl
 rw [Ydj _ _ _ _ (by rw [hl, hc]; exact Nat.le_refl _), hl]
 by_cases h : k < 17
 ·rw [if_pos (by omega), Nat.sub_zero, Array.getElem?_toList]
 ·rw [if_neg (by omega), Array.getElem?_eq_none (by omega), Array.getElem?_eq_none (by rw [St.size]; omega)]
theorem Yd8 {w : World} {b : Nat} {c : Array Value} (s : St) (hb : w.heap[b]? = some (.cells c 39 (0, 0))) (hc : c.size = 17) : (w.setCells b 0 s.cells.toList).heap[b]? = some (.cells s.cells 39 (0, 0)) := by
 rw [Yax _ _ _ _ hb, Yfy c s hc]
theorem Yfp (w : World) : (Instr.buildSlice 71 0 #[]).run Try.prog w = .ok (.slice (some ⟨w.heap.size, 0, none⟩) 0 0) (w.alloc (.cells #[] 108)) := by
 simp [Instr.buildSlice, run_underlying Try.underlying71, sizeOf, typeInfo, zeroValue, Ydc, Yb3, newRow, Instr.fill]
 exact congrArg (fun x => w.alloc (.cells x 108)) (by simp)
theorem Yd6 {ops : Array Oper} {rest : List Oper} {op : Oper} {a : Act} {w : World} {Q : Exit → Act → World → Prop} (hgd : op.guard = none) (ho : op.op = .buildSlice 71 0 #[])
  (h : wpList Try.prog ops Q rest (a.put op.dst (.slice (some ⟨w.heap.size, 0, none⟩) 0 0)) (w.alloc (.cells #[] 108))) : wpList Try.prog ops Q (op :: rest) a w :=
 wpList_plain hgd fun _ hK => by
  unfold Oper.wp execOp
  simp only [ho, Array.map_empty, Sem.run_bind, Yfp, Result.andThen_ok, Sem.run_pure]
  exact hK _ _ h
theorem Yhd (w : World) {a pb : Nat} {M : Mem} (hM : Yd w a pb M) : ∀ j u, M.cells.toList[j]? = some u → w.cell? ((⟨pb, 0, none⟩ : Addr).add j) = some u := by
 intro j u hu
 obtain ⟨C, hC, hb⟩ := hM.pg
 have hj : j < 16448 := by
  by_cases h : j < 16448
  ·exact h
  ·rw [List.getElem?_eq_none (by rw [Array.length_toList, Mem.size_cells]; omega)] at hu; cases hu
 have e : (⟨pb, 0, none⟩ : Addr).add j = ⟨pb, j, none⟩ := by
  rcases j with _ | j <;> simp [Addr.add]
 rw [e, Ya hb, hC.get j hj, ← hu, Array.getElem?_toList, Mem.getElem?_cells _ _ hj]
theorem Yfo (M : Mem) : ∀ u ∈ M.cells.toList, u.oneCell' = true := by
 intro u hu
 rw [Array.mem_toList_iff, Mem.cells, Array.mem_map] at hu
 obtain ⟨k, _, rfl⟩ := hu
 rw [Mem.at_]; split <;> rfl
theorem Ygt {w : World} {base : Nat} {v : Value} {M : Mem} (h : w.ownsRow base 108 257 v (0 + 64) M.cells.toList) : ∃ g c C, v = .slice (some ⟨g, 0, none⟩) 64 c ∧ 64 ≤ c ∧ base ≤ g ∧ Ya0 C M ∧ w.heap[g]? = some (.cells C 108 (0, 0)) := by
 obtain ⟨_, ⟨_, h2⟩ | ⟨g, cap, cur, h1, h2, h3, h4, h5, h6, h7⟩⟩ := h
 ·cases h2
 ·refine ⟨g, cap, cur, h1, h4, h2, ⟨by rw [h6]; omega, fun k hk => ?_⟩, h3⟩
  have : (cur.toList.take (64 * 257))[k]? = some (M.at_ k) := by rw [h7, Array.getElem?_toList, Mem.getElem?_cells _ _ hk]
  rw [List.getElem?_take, if_pos (by omega), Array.getElem?_toList] at this
  exact this
theorem Yhj (M : Mem) (a pb c : Nat) (w : World) (hM : Yd w a pb M) :
  Calls Try.prog 65 #[.slice (some ⟨pb, 0, none⟩) 64 c] w fun e w' => ∃ g d C, e = .returned (.slice (some ⟨g, 0, none⟩) 64 d) ∧ 64 ≤ d ∧ w.heap.size ≤ g ∧ Ya0 C M ∧ w'.heap[g]? = some (.cells C 108 (0, 0)) ∧ Upd [] w w' := by
 have hnil := fun w : World => Lib.run_eql_slice_nil w 71 108 (some ⟨pb, 0, none⟩) 64 c 0 0 Try.underlying71
 have HM := Yh_ hM
 clear hM
 go_enter Try.func65, Try.ntmps65
 have hown : (w.alloc (.cells #[] 108)).ownsRow w.heap.size 108 257 (.slice (some ⟨w.heap.size, 0, none⟩) 0 0) 0 [] := ⟨by simp, .inr ⟨w.heap.size, 0, #[], rfl, Nat.le_refl _, heap_alloc_new _ _, Nat.le_refl _, Nat.zero_le _, rfl, rfl⟩⟩
 have HO := Yh_ hown
 clear hown
 have hsz : Try.t108.size = 257 := by kernel_rfl
 have hby : Try.t108.bytes = 264 := by kernel_rfl
 have HS := Yh_ (And.intro hsz hby)
 clear hsz hby
 go_wp2_with (first | (refine Yd6 rfl rfl ?_) | (at_builtin; refine wpList_append_own _ rfl _ _ 71 rfl w.heap.size 108 Try.t108 (.agg Yn) 257 264 Try.underlying71 Ydc Yb3 HS.out.1 HS.out.2 (by simp [Value.cells, Yw]) (by decide) _ _ _ rfl HO.out ⟨pb, 0, none⟩ 64 c M.cells.toList rfl (by rw [Array.length_toList, Mem.size_cells]) (Yhd _ (HM.out.keep ((Upd.refl [] w).alloc _) (by simp) (by simp))) (Yfo M) (by unfold maxLen; omega) (by omega) (by simp) ?_; intro v' w' hv hg _))
 have e1 : ∀ l : List Value, [] ++ l = l := fun l => List.nil_append l
 rw [e1] at hv
 have hg' : Upd [w.heap.size] (w.alloc (.cells #[] 108)) w' := Upd.of_grown (row := some w.heap.size) hg
 clear hg
 have hx := Ygt hv
 clear hv
 go_ret
 obtain ⟨g, d, C, he, hd, hge, hC, hb⟩ := hx
 exact ⟨g, d, C, ret_of he, hd, hge, hC, hb, ((Upd.refl [] w).alloc _).new hg' (by simp)⟩
theorem Copy_any (M : Mem) (a pb : Nat) (w : World) (hM : Yd w a pb M) :
  Calls Try.prog 48 #[.pointer (some ⟨a, 0, none⟩)] w fun e w' => ∃ b qb, e = .returned (.pointer (some ⟨b, 0, none⟩)) ∧ w.heap.size ≤ b ∧ w.heap.size ≤ qb ∧ Yd w' b qb M ∧ Upd [] w w' := by
 obtain ⟨c, hc, c0⟩ := hM.c0
 have HM := Yh_ hM
 clear hM
 go_enter Try.func48, Try.ntmps48
 go_wp2_with (go_at_call 65; refine (Yhj M a pb c _ HM.out).mono ?_; rintro e w1 ⟨g, d, C, rfl, hd, hge, hC, hb, hU⟩; have HB := Yh_ hb; have HU := Yh_ hU; clear hb hU)
 go_ret
 refine ⟨w1.heap.size, g, rfl, HU.out.size, hge, ?_, HU.out.alloc _⟩
 exact ⟨⟨d, hd, heap_alloc_new _ _⟩, ⟨C, hC, Yz _ HB.out⟩, HM.out.ok⟩
section
open Go.WideShapes Go.ChangeShapes
def Rp (w : World) (v : Value) (l : List Int) (g : Nat) : Prop :=
 (v = .slice none 0 0 ∧ l = []) ∨ ∃ o c C T f, v = .slice (some ⟨g, o, none⟩) l.length c ∧ l.length ≤ c ∧ w.heap[g]? = some (.cells C T f) ∧ ∀ i, i < l.length → C[o + i]? = some (.int .u32 (l.getD i 0))
theorem Rp.form {w : World} {v : Value} {l : List Int} {g : Nat} (h : Rp w v l g) : ∃ b c, v = .slice b l.length c := by
 rcases h with ⟨h1, h2⟩ | ⟨o, c, _, _, _, h1, _⟩
 ·exact ⟨none, 0, by rw [h1, h2]; rfl⟩
 ·exact ⟨_, _, h1⟩
theorem Rp.keep {w w' : World} {v : Value} {l : List Int} {g : Nat} {S : List Nat} (h : Rp w v l g) (u : Upd S w w') (hg : g ∉ S) : Rp w' v l g := by
 rcases h with h | ⟨o, c, C, T, f, h1, h2, h3, h4⟩
 ·exact .inl h
 ·exact .inr ⟨o, c, C, T, f, h1, h2, u.get h3 hg, h4⟩
theorem Rp.old {w w' : World} {v : Value} {l : List Int} {g : Nat} (h : Rp w v l g) (u : Upd [] w w') : Rp w' v l g := h.keep u (by simp)
theorem Rp.cell {w : World} {b : Option Addr} {n c : Nat} {l : List Int} {g : Nat} (h : Rp w (.slice b n c) l g) (hl : 0 < l.length) : ∃ o, b = some ⟨g, o, none⟩ ∧ n = l.length ∧ ∀ i, i < l.length → w.cell? ⟨g, o + i, none⟩ = some (.int .u32 (l.getD i 0)) := by
 rcases h with ⟨h1, h2⟩ | ⟨o, c', C, T, f, h1, h2, h3, h4⟩
 ·rw [h2] at hl; cases hl
 ·injection h1 with e1 e2 e3
  exact ⟨o, e1, e2, fun i hi => by rw [Ya h3]; exact h4 i hi⟩
theorem wf_word {z : Int} (h : (Lit.int .u32 z).wf = true) : 0 ≤ z ∧ z < 4294967296 := by
 simp [Lit.wf, IntKind.min, IntKind.max, IntKind.signed, IntKind.bits] at h
 omega
end
end Go.Proofs.Ytdgclmibbmofcaa
