/-
  Parts of the proof (their names shortened by a program). No condition.
-/
import Derived.Test.YtjkolegknpflfaaDoorMg01
import Derived.Recover
import Derived.StillTailTactics
import Derived.Test.YtjkolegknpflfaaDoorMg02
import Derived.WalkKit
import Derived.Deep.MidRow
import Derived.Test.YtjkolegknpflfaaDoorRows
import Derived.Laws.BitsAllLaws
import Derived.WalkLawsBesides
import Derived.Lib.Hide
import Derived.Laws.IdiomCopy
namespace Go.Proofs.YtjkolegknpflfaaDoor
open Go Go.RowKit
set_option linter.unusedVariables false
set_option linter.unusedSimpArgs false
set_option maxRecDepth 100000
set_option maxHeartbeats 16000000
theorem Yea (v : Value) (w : World) : (Instr.typeAssert (.iface 37 v) 20 37 true).run Tryd.prog w = .ok (.tuple #[v, .bool true]) w := by
 unfold Instr.typeAssert
 simp [Sem.run_bind]
theorem Yd6 (fb kb : Nat) (y0 y1 y2 y3 k0 : Value) (x0 x1 x2 x3 : Int) (older : List PanicEntry) (w : World)
  (hf : w.heap[fb]? = some (.cells #[y0, y1, y2, y3] 37 (0, 0))) (hk : w.heap[kb]? = some (.cells #[k0] 4 (0, 0))) (hne : fb ≠ kb) :
  CallsD Tryd.prog 55 #[.pointer (some ⟨fb, 0, none⟩), .pointer (some ⟨kb, 0, none⟩)] (.panicking ({ v := .iface 37 (.agg #[.int .i64 x0, .int .u32 x1, .int .u32 x2, .int .i64 x3]), recovered := false } :: older)) w fun e u' w' =>
   e = .returned (.tuple #[]) ∧ u' = .panicking ({ v := .iface 37 (.agg #[.int .i64 x0, .int .u32 x1, .int .u32 x2, .int .i64 x3]), recovered := true } :: older) ∧
    w'.heap[fb]? = some (.cells #[.int .i64 x0, .int .u32 x1, .int .u32 x2, .int .i64 x3] 37 (0, 0)) ∧ w'.heap[kb]? = some (.cells #[.bool false] 4 (0, 0)) ∧ Upd [fb, kb] w w' := by
 refine callsD_of_wpS Tryd.func55 rfl fun c₀ cs hu => ?_
 simp only [Tryd.ntmps55, List.size_toArray, List.length_cons, List.length_nil, Nat.reduceAdd, Nat.reduceSub, Array.replicate_succ, Array.replicate_zero, List.push_toArray, List.append_toArray, List.nil_append, List.cons_append]
 apply wpS_seq
 apply wpS_region
 simp [wpOpsS, go_sem, recoverD, hu, Tryd.ntmps55, Exit.thenS]
 refine wpS_of_wp ?_
 clear hu
 have hfl := Yr hf
 have hkl := Yr hk
 have hcf : ∀ o, w.cell? ⟨fb, o, none⟩ = #[y0, y1, y2, y3][o]? := Ya hf
 have hck : ∀ o, w.cell? ⟨kb, o, none⟩ = #[k0][o]? := Ya hk
 have hff : ∀ o, w.frozen? ⟨fb, o, none⟩ = false := Yc hf
 have hfk : ∀ o, w.frozen? ⟨kb, o, none⟩ = false := Yc hk
 have HF := Yh_ hf
 have HK := Yh_ hk
 clear hf hk
 have hta := Yea
 go_wp2_with fail
 refine ⟨rfl, _, rfl, _, results_none rfl _ _ _, rfl, rfl, ?_, ?_, ?_⟩
 ·refine Ym _ (Yd _ hne ?_)
  have h := Yf (Yf (Yf (Yf HF.out 0 (.int .i64 x0)) 1 (.int .u32 x1)) 2 (.int .u32 x2)) 3 (.int .i64 x3)
  exact h
 ·refine Ym _ ?_
  have h := Yd (a := ⟨fb, 3, none⟩) (.int .i64 x3) hne.symm (Yd (a := ⟨fb, 2, none⟩) (.int .u32 x2) hne.symm (Yd (a := ⟨fb, 1, none⟩) (.int .u32 x1) hne.symm (Yd (a := ⟨fb, 0, none⟩) (.int .i64 x0) hne.symm HK.out)))
  exact Yf h 0 (.bool false)
 ·exact ((((((Upd.refl _ _).setCell (by simp) _).setCell (by simp) _).setCell (by simp) _).setCell (by simp) _).setCell (by simp) _).alloc _
theorem Ygm (fb kb : Nat) (w : World) :
  CallsD Tryd.prog 55 #[.pointer (some ⟨fb, 0, none⟩), .pointer (some ⟨kb, 0, none⟩)] .returning w fun e u' w' => e = .returned (.tuple #[]) ∧ u' = .returning ∧ w = w' := by
 refine callsD_of_wpS Tryd.func55 rfl fun c₀ cs hu => ?_
 simp only [Tryd.ntmps55, List.size_toArray, List.length_cons, List.length_nil, Nat.reduceAdd, Nat.reduceSub, Array.replicate_succ, Array.replicate_zero, List.push_toArray, List.append_toArray, List.nil_append, List.cons_append]
 apply wpS_seq
 apply wpS_region
 simp [wpOpsS, go_sem, recoverD, hu, Tryd.ntmps55, Exit.thenS]
 refine wpS_of_wp ?_
 have HU := Yh_ hu
 clear hu
 go_wp2_with fail
 refine ⟨rfl, .returning, ?_, _, results_none rfl _ _ _, rfl, rfl, rfl⟩
 rw [← HU.out]
theorem Yie (kb vb : Nat) (ok : Bool) (v : Int) (u : FrameMode) (w : World) (hk : w.heap[kb]? = some (.cells #[.bool ok] 4 (0, 0))) (hv : w.heap[vb]? = some (.cells #[.int .u32 v] 22 (0, 0))) :
  CallsD Tryd.prog 54 #[.pointer (some ⟨kb, 0, none⟩), .pointer (some ⟨vb, 0, none⟩)] u w fun e u' w' =>
   u' = u ∧ (e = .returned (.tuple #[]) ∧ w'.heap[vb]? = some (.cells #[.int .u32 (if ok then v else 0)] 22 (0, 0)) ∧ Upd [vb] w w') := by
 have hck : w.cell? ⟨kb, 0, none⟩ = some (.bool ok) := by rw [Ya hk]; rfl
 have hcv : w.cell? ⟨vb, 0, none⟩ = some (.int .u32 v) := by rw [Ya hv]; rfl
 have hfv : w.frozen? ⟨vb, 0, none⟩ = false := Yc hv 0
 have HV := Yh_ hv
 clear hk hv
 cases ok
 ·go_enter_d Tryd.func54, Tryd.ntmps54
  go_wp2
  go_end0
  exact ⟨rfl, Yf HV.out 0 (.int .u32 0), (Upd.refl _ _).setCell (by simp) _⟩
 ·go_enter_d Tryd.func54, Tryd.ntmps54
  go_wp2
  go_end0
  exact ⟨rfl, HV.out, Upd.refl _ _⟩
structure Ybx (M : Mem) (a pb : Nat) (w : World) (g : Int) (w1 : World) : Prop where
 v : w1.heap[w.heap.size]? = some (.cells #[.int .u32 g] 22 (0, 0))
 f : w1.heap[w.heap.size + 1]? = some (.cells #[.int .i64 0, .int .u32 0, .int .u32 0, .int .i64 0] 37 (0, 0))
 k : w1.heap[w.heap.size + 1 + 1]? = some (.cells #[.bool false] 4 (0, 0))
 m : Yi w1 a pb M
 u : Upd [] w w1
 al : a < w.heap.size
 pl : pb < w.heap.size
def Yav (r : Int) : Int := if r ≠ 2 ∧ r ≠ 4 then 1 else r
def Yn (x : Int) (i : Nat) : Int := (x + i) % 4294967296
def Mem.get (M : Mem) (x : Int) : Nat → Int
 |0 => 0
 |i + 1 => M.get x i + M.B (Yn x i).toNat * 2 ^ (8 * i)
def Mem.bad (M : Mem) (x right : Int) (n : Nat) : Option Nat := (List.range n).find? fun i => !M.can (Yn x i) right
def Mem.readV (M : Mem) (x bytes right : Int) : Int :=
 match M.bad x (Yav right) (Yap bytes).toNat with | none => M.get x (Yap bytes).toNat | some _ => 0
def Mem.readF (M : Mem) (x bytes right : Int) : Value :=
 match M.bad x (Yav right) (Yap bytes).toNat with | none => .agg #[.int .i64 0, .int .u32 0, .int .u32 0, .int .i64 0] | some i => Ybb (Yn x i) (Yav right)
def Mem.readK (M : Mem) (x bytes right : Int) : Bool := (M.bad x (Yav right) (Yap bytes).toNat).isNone
theorem Yel (n : Int) : Yap n = 1 ∨ Yap n = 2 ∨ Yap n = 4 := by
 unfold Yap; split <;> omega
theorem Yf0 (tmps : Array Value) (vb fb kb : Nat) (v y0 y1 y2 y3 : Int) (k : Bool) (w : World) (h8 : tmps.getD 8 undef = .pointer (some ⟨vb, 0, none⟩)) (h9 : tmps.getD 9 undef = .pointer (some ⟨fb, 0, none⟩)) (h10 : tmps.getD 10 undef = .pointer (some ⟨kb, 0, none⟩))
  (hv : w.heap[vb]? = some (.cells #[.int .u32 v] 22 (0, 0))) (hf : w.heap[fb]? = some (.cells #[.int .i64 y0, .int .u32 y1, .int .u32 y2, .int .i64 y3] 37 (0, 0))) (hk : w.heap[kb]? = some (.cells #[.bool k] 4 (0, 0))) :
  (results Tryd.f36 tmps).run Tryd.prog w = .ok (.tuple #[.int .u32 v, .agg #[.int .i64 y0, .int .u32 y1, .int .u32 y2, .int .i64 y3], .bool k]) w := by
 have cv : ∀ o, w.cell? ⟨vb, o, none⟩ = #[.int .u32 v][o]? := Ya hv
 have cf : ∀ o, w.cell? ⟨fb, o, none⟩ = #[.int .i64 y0, .int .u32 y1, .int .u32 y2, .int .i64 y3][o]? := Ya hf
 have ck : ∀ o, w.cell? ⟨kb, o, none⟩ = #[.bool k][o]? := Ya hk
 rw [Array.getD_eq_getD_getElem?] at h8 h9 h10
 simp [results, Tryd.results36, go_sem, h8, h9, h10, cv, cf, ck]
def Yho (w : World) : List Deferred :=
 [{ target := .fn (.func 55) #[], args := #[.pointer (some ⟨w.heap.size + 1, 0, none⟩), .pointer (some ⟨w.heap.size + 1 + 1, 0, none⟩)] },
  { target := .fn (.func 54) #[.pointer (some ⟨w.heap.size + 1 + 1, 0, none⟩), .pointer (some ⟨w.heap.size, 0, none⟩)], args := #[] }]
structure ReadT (w : World) (tmps : Array Value) : Prop where
 h8 : tmps.getD 8 undef = .pointer (some ⟨w.heap.size, 0, none⟩)
 h9 : tmps.getD 9 undef = .pointer (some ⟨w.heap.size + 1, 0, none⟩)
 h10 : tmps.getD 10 undef = .pointer (some ⟨w.heap.size + 1 + 1, 0, none⟩)
theorem Yc9 (M : Mem) (a pb : Nat) (w w1 : World) (g y r : Int) (tmps : Array Value) (R : Ending → World → Prop) (ht : ReadT w tmps) (hB : Ybx M a pb w g w1)
  (hR : ∀ w', Upd [] w w' → R (.returned (.tuple #[.int .u32 0, Ybb y r, .bool false])) w') :
  Leaves Tryd.prog Tryd.f36 tmps R (Yho w) (.panicking [{ v := .iface 37 (Ybb y r), recovered := false }]) w1 := by
 refine leaves_cons (f := 55) (args := #[.pointer (some ⟨w.heap.size + 1, 0, none⟩), .pointer (some ⟨w.heap.size + 1 + 1, 0, none⟩)]) (by simp) (by simp [go_sem]) ?_
 refine (Yd6 _ _ _ _ _ _ _ _ _ _ _ [] w1 hB.f hB.k (by omega)).mono ?_
 rintro e u' w2 ⟨rfl, rfl, hf, hk, hU⟩
 have hv := hU.get hB.v (by simp; omega)
 simp only [settle, List.dropWhile_nil]
 refine leaves_cons (f := 54) (args := #[.pointer (some ⟨w.heap.size + 1 + 1, 0, none⟩), .pointer (some ⟨w.heap.size, 0, none⟩)]) (by simp) (by simp [go_sem]) ?_
 refine (Yie _ _ false g _ w2 hk hv).mono ?_
 rintro e u' w3 ⟨rfl, rfl, hv', hU'⟩
 have hf' := hU'.get hf (by simp)
 have hk' := hU'.get hk (by simp; omega)
 exact ⟨_, Yf0 _ _ _ _ _ _ _ _ _ _ w3 ht.h8 ht.h9 ht.h10 hv' hf' hk', hR _ ((hB.u.new hU (by simp; omega)).new hU' (by simp))⟩
theorem Ydy (w w1 : World) (v : Int) (tmps : Array Value) (R : Ending → World → Prop) (ht : ReadT w tmps)
  (hv : w1.heap[w.heap.size]? = some (.cells #[.int .u32 v] 22 (0, 0))) (hf : w1.heap[w.heap.size + 1]? = some (.cells #[.int .i64 0, .int .u32 0, .int .u32 0, .int .i64 0] 37 (0, 0)))
  (hk : w1.heap[w.heap.size + 1 + 1]? = some (.cells #[.bool true] 4 (0, 0))) (hU : Upd [] w w1)
  (hR : ∀ w', Upd [] w w' → R (.returned (.tuple #[.int .u32 v, .agg #[.int .i64 0, .int .u32 0, .int .u32 0, .int .i64 0], .bool true])) w') :
  Leaves Tryd.prog Tryd.f36 tmps R (Yho w) .returning w1 := by
 refine leaves_cons (f := 55) (args := #[.pointer (some ⟨w.heap.size + 1, 0, none⟩), .pointer (some ⟨w.heap.size + 1 + 1, 0, none⟩)]) (by simp) (by simp [go_sem]) ?_
 refine (Ygm _ _ w1).mono ?_
 rintro e u' w2 ⟨rfl, rfl, rfl⟩
 simp only [settle]
 refine leaves_cons (f := 54) (args := #[.pointer (some ⟨w.heap.size + 1 + 1, 0, none⟩), .pointer (some ⟨w.heap.size, 0, none⟩)]) (by simp) (by simp [go_sem]) ?_
 refine (Yie _ _ true v _ w1 hk hv).mono ?_
 rintro e u' w3 ⟨rfl, rfl, hv', hU'⟩
 have hf' := hU'.get hf (by simp)
 have hk' := hU'.get hk (by simp; omega)
 exact ⟨_, Yf0 _ _ _ _ _ _ _ _ _ _ w3 ht.h8 ht.h9 ht.h10 hv' hf' hk', hR _ (hU.new hU' (by simp))⟩
theorem Yfz (x : Int) (j : Nat) (h0 : 0 ≤ x) (h1 : x < 4294967296) (hj : j < 4294967296) : IntKind.u32.wrap (x + IntKind.u32.wrap (j : Int)) = Yn x j := by
 have : IntKind.u32.wrap (j : Int) = j := by simp [IntKind.wrap, IntKind.signed, IntKind.bits]; omega
 rw [this]
 simp [IntKind.wrap, IntKind.signed, IntKind.bits, Yn]
theorem Yat (x : Int) (j : Nat) : 0 ≤ Yn x j := by unfold Yn; omega
theorem Yhn {M : Mem} {x r : Int} (h0 : 0 ≤ x) (h : M.can x r = true) : x < 16384 := by
 simp only [Mem.can, Bool.and_eq_true, decide_eq_true_eq] at h
 exact h.1
theorem Yi.cbyte {w : World} {a pb : Nat} {M : Mem} (h : Yi w a pb M) (x : Int) (h0 : 0 ≤ x) (h1 : x < 16384) : w.cell? ⟨pb, Ycb x, none⟩ = some (.int .u8 (M.B x.toNat)) := by
 have := h.cB (x / 256).toNat (x % 256).toNat (by omega) (by omega)
 rw [show (x / 256).toNat * 256 + (x % 256).toNat = x.toNat from by omega] at this
 exact this
theorem Yh6 {w : World} {a pb : Nat} {M : Mem} (h : Yi w a pb M) {x : Int} (h0 : 0 ≤ x) (h1 : x < 16384) : 0 ≤ M.B x.toNat ∧ M.B x.toNat ≤ 255 := h.ok.B _
theorem Yev {w : World} {a pb : Nat} {M : Mem} (h : Yi w a pb M) (x : Int) (j : Nat) : 0 ≤ M.get x j ∧ M.get x j < 2 ^ (8 * j) := by
 induction j with
 |zero => simp [Mem.get]
 |succ j ih =>
  have hb := h.ok.B (Yn x j).toNat
  simp only [Mem.get]
  have hp : (0 : Int) < 2 ^ (8 * j) := Int.pow_pos (by decide)
  have e : (2 : Int) ^ (8 * (j + 1)) = 256 * 2 ^ (8 * j) := by
   rw [Nat.mul_add, Int.pow_add]; simp [Int.mul_comm]
  rw [e]
  generalize (2 : Int) ^ (8 * j) = p at *
  generalize M.B (Yn x j).toNat = b at *
  have h1 : 0 ≤ b * p := Int.mul_nonneg hb.1 (by omega)
  have h2 : b * p ≤ 255 * p := Int.mul_le_mul_of_nonneg_right hb.2 (by omega)
  omega
theorem or_add (g b : Int) (k : Nat) (hg0 : 0 ≤ g) (hg : g < 2 ^ k) (hb0 : 0 ≤ b) (hk : b * 2 ^ k + g < 4294967296) : bits .or .u32 g (b * 2 ^ k % 4294967296) = g + b * 2 ^ k := by
 obtain ⟨g, rfl⟩ := Int.eq_ofNat_of_zero_le hg0
 obtain ⟨b, rfl⟩ := Int.eq_ofNat_of_zero_le hb0
 have hg' : g < 2 ^ k := by exact_mod_cast hg
 have e0 : ((b : Int) * 2 ^ k) = ((b * 2 ^ k : Nat) : Int) := by
  rw [Int.natCast_mul, Int.natCast_pow]; rfl
 rw [e0] at hk
 have e2 : g ||| b * 2 ^ k = g + b * 2 ^ k := by
  rw [Nat.or_comm, nat_join k _ _ (Nat.mul_mod_left _ _) hg', Nat.add_comm]
 rw [e0]
 generalize hq : b * 2 ^ k = q at *
 have e1 : (q : Int) % 4294967296 = (q : Int) := by omega
 rw [e1, u32_or_nat _ _ (by omega) (by omega), e2]
 rfl
theorem Yjh {w : World} {a pb : Nat} {M : Mem} (h : Yi w a pb M) (x : Int) (j : Nat) (hj : j < 4) :
  bits .or .u32 (M.get x j) (M.B (Yn x j).toNat * 2 ^ (8 * j) % 4294967296) = M.get x (j + 1) := by
 have hb := h.ok.B (Yn x j).toNat
 have hg := Yev h x j
 simp only [Mem.get]
 refine or_add _ _ _ hg.1 hg.2 hb.1 ?_
 have h2 := (Yev h x (j + 1)).2
 simp only [Mem.get] at h2
 have : (2 : Int) ^ (8 * (j + 1)) ≤ 2 ^ 32 := by
  have := Nat.pow_le_pow_right (show 0 < 2 by decide) (show 8 * (j + 1) ≤ 32 by omega)
  exact_mod_cast this
 have e : (2 : Int) ^ 32 = 4294967296 := by decide
 omega
theorem Ybx.store {M : Mem} {a pb : Nat} {w w1 : World} {g : Int} (h : Ybx M a pb w g w1) (v : Int) : Ybx M a pb w v (w1.setCell ⟨w.heap.size, 0, none⟩ (.int .u32 v)) := by
 refine ⟨Yf h.v 0 _, Yd _ (by simp) h.f, Yd _ (by simp; omega) h.k, h.m.keep (S := [w.heap.size]) ((Upd.refl _ _).setCell (by simp) _) ?_ ?_, h.u.setCell (by simp) _, h.al, h.pl⟩
 ·have := h.al; simp; omega
 ·have := h.pl; simp; omega
theorem Yjn (M : Mem) (x r : Int) (n j : Nat) (hj : j < n) (hc : ∀ t, t < j → M.can (Yn x t) r = true) (hb : M.can (Yn x j) r = false) : M.bad x r n = some j := by
 unfold Mem.bad
 rw [List.find?_range_eq_some]
 exact ⟨by simp [hb], by simpa using hj, fun t ht => by simp [hc t ht]⟩
theorem Yi8 (M : Mem) (x r : Int) (n : Nat) (hc : ∀ t, t < n → M.can (Yn x t) r = true) : M.bad x r n = none := by
 unfold Mem.bad
 rw [List.find?_eq_none]
 intro t ht
 simp [hc t (List.mem_range.1 ht)]
theorem Ydd (M : Mem) (a pb : Nat) (x bytes right : Int) (w : World) (hM : Yi w a pb M) (h0 : 0 ≤ x) (h1 : x < 4294967296) :
  Calls Tryd.prog 36 #[.pointer (some ⟨a, 0, none⟩), .int .u32 x, .int .i64 bytes, .int .i64 right] w fun e w' =>
   e = .returned (.tuple #[.int .u32 (M.readV x bytes right), M.readF x bytes right, .bool (M.readK x bytes right)]) ∧ Upd [] w w' := by
 have hmf : ∀ (fn : Fn) (first cap : Array Value) (w : World), (Instr.makeFunc fn first cap).run Tryd.prog w = .ok (.func fn first cap) w := fun _ _ _ _ => rfl
 have hal := hM.al
 have hpl := hM.pl
 have hw3 := Yel bytes
 obtain ⟨n, hn⟩ : ∃ n : Nat, Yap bytes = n := ⟨(Yap bytes).toNat, by omega⟩
 have HN := Yh_ hn
 have hn4 : n ≤ 4 := by omega
 clear hw3 hn
 have h3 : (right = 2 ∧ Yav right = 2) ∨ (right = 4 ∧ Yav right = 4) ∨ (right ≠ 2 ∧ right ≠ 4 ∧ Yav right = 1) := by
  by_cases hr : right = 2
  ·exact .inl ⟨hr, by rw [hr]; rfl⟩
  ·by_cases hr4 : right = 4
   ·exact .inr (.inl ⟨hr4, by rw [hr4]; rfl⟩)
   ·exact .inr (.inr ⟨hr, hr4, by simp [Yav, hr, hr4]⟩)
 have hfinP : ∀ (j : Nat) (w' : World), j < n → (∀ t, t < j → M.can (Yn x t) (Yav right) = true) → M.can (Yn x j) (Yav right) = false → Upd [] w w' →
   (fun e w' => e = Ending.returned (.tuple #[.int .u32 (M.readV x bytes right), M.readF x bytes right, .bool (M.readK x bytes right)]) ∧ Upd [] w w') (.returned (.tuple #[.int .u32 0, Ybb (Yn x j) (Yav right), .bool false])) w' := by
  intro j w' hj hc hb hU
  have hbad := Yjn M x (Yav right) n j hj hc hb
  refine ⟨?_, hU⟩
  simp only [Mem.readV, Mem.readF, Mem.readK, HN.out, Int.toNat_natCast, hbad]
  rfl
 have HFP := Yh_ hfinP
 clear hfinP
 have hfinK : ∀ (w' : World), (∀ t, t < n → M.can (Yn x t) (Yav right) = true) → Upd [] w w' →
   (fun e w' => e = Ending.returned (.tuple #[.int .u32 (M.readV x bytes right), M.readF x bytes right, .bool (M.readK x bytes right)]) ∧ Upd [] w w') (.returned (.tuple #[.int .u32 (M.get x n), .agg #[.int .i64 0, .int .u32 0, .int .u32 0, .int .i64 0], .bool true])) w' := by
  intro w' hc hU
  have hbad := Yi8 M x (Yav right) n hc
  refine ⟨?_, hU⟩
  simp only [Mem.readV, Mem.readF, Mem.readK, HN.out, Int.toNat_natCast, hbad]
  rfl
 have HFK := Yh_ hfinK
 clear hfinK
 have hstart : Ybx M a pb w (M.get x 0) (((w.alloc (Obj.cells #[Value.int IntKind.u32 0] 22)).alloc (Obj.cells #[Value.int IntKind.i64 0, Value.int IntKind.u32 0, Value.int IntKind.u32 0, Value.int IntKind.i64 0] 37)).alloc (Obj.cells #[Value.bool false] 4)) := by
  refine ⟨Ym _ (Ym _ (heap_alloc_new _ _)), Ym _ (heap_alloc2_new _ _ _), ?_, ?_, ?_, hal, hpl⟩
  ·have := heap_alloc_new ((w.alloc (Obj.cells #[Value.int IntKind.u32 0] 22)).alloc (Obj.cells #[Value.int IntKind.i64 0, Value.int IntKind.u32 0, Value.int IntKind.u32 0, Value.int IntKind.i64 0] 37)) (Obj.cells #[Value.bool false] 4)
   simpa using this
  ·exact hM.keep (S := []) ((((Upd.refl _ _).alloc _).alloc _).alloc _) (by simp) (by simp)
  ·exact (((Upd.refl _ _).alloc _).alloc _).alloc _
 have HS := Yh_ hstart
 clear hstart hM
 rcases h3 with ⟨e1, hR⟩ | ⟨e1, hR⟩ | ⟨e1, e2, hR⟩
 ·have HR := Yh_ hR
  subst e1
  clear hR
  go_enter_defers Tryd.func36, Tryd.ntmps36
  go_wp2_with (go_at_call 56; refine (Yek bytes _).mono ?_; rintro e w' ⟨rfl, rfl⟩; rw [HN.out])
  go_loopw [11, 21] (fun _ i wr => ∃ j : Nat, j ≤ n ∧ i = .int .i64 j ∧ (∀ t, t < j → M.can (Yn x t) (Yav 2) = true) ∧ Ybx M a pb w (M.get x j) wr) (fun _ i _ => n - (intOf i).toNat)
  case atStart => exact ⟨0, Nat.zero_le _, rfl, by simp, HS.out⟩
  case round =>
   obtain ⟨j, hj, rfl, hcan, hB⟩ := hrel
   have HC := Yh_ hcan
   have HB := Yh_ hB
   clear hcan hB
   by_cases hlt : j < n
   ·have hplus := Yfz x j h0 h1 (by omega)
    have HP := Yh_ hplus
    clear hplus
    cases hb : M.can (Yn x j) (Yav 2)
    ·have HBad := Yh_ hb
     clear hb
     go_wp2_with fail
     refine Yx 15 (Ybx M a pb w (M.get x j)) (fun c w1 => c = [{ v := .iface 37 (Ybb (Yn x j) (Yav 2)), recovered := false }] ∧ Ybx M a pb w (M.get x j) w1) (by kernel_rfl) (by kernel_rfl) ⟨HB.out.v, HB.out.f, HB.out.k, HB.out.m.drew, HB.out.u.drew, HB.out.al, HB.out.pl⟩ ?_ ?_
     ·rintro c a' w1 ⟨rfl, hB1⟩ hd hs ht
      go_wp2_with fail
      show Leaves _ _ _ _ a'.defers _ _
      rw [hd]
      refine Yc9 M a pb w w1 _ _ _ _ _ ⟨?_, ?_, ?_⟩ hB1 (fun w' hU => HFP.out j w' hlt HC.out HBad.out hU)
      ·rw [Array.getD_eq_getD_getElem?, ht 8 rfl]; rfl
      ·rw [Array.getD_eq_getD_getElem?, ht 9 rfl]; rfl
      ·rw [Array.getD_eq_getD_getElem?, ht 10 rfl]; rfl
     ·simp only [List.take_succ_cons, List.take_zero, List.drop_succ_cons, List.drop_zero]
      repeat
       apply Yg rfl rfl
       ·intro K hK w1 hB1
        have cv : w1.cell? ⟨w.heap.size, 0, none⟩ = some (.int .u32 (M.get x j)) := (by rw [Ya hB1.v]; rfl)
        go_wp2_with fail
        exact hB1
       ·exact ⟨_, rfl⟩
      refine Ye2 rfl rfl ?_ ?_
      ·intro w1 hB1
       go_wp2_with fail
       refine (Yg6 a pb (Yn x j) _ w1 M hB1.m (Yat x j) (by have := HBad.out; rw [HR.out] at this; exact this)).mono ?_
       rintro e w2 ⟨rfl, rfl⟩
       rw [HR.out]
       exact ⟨rfl, hB1⟩
      repeat
       first
       |refine Yfb rfl ?_
       |apply Yg rfl rfl
        ·intro K hK w1 hB1
         go_wp2_with fail
         exact hB1
        ·exact ⟨_, rfl⟩
      exact Yo (fun h => by cases h)
    ·have HGood := Yh_ hb
     clear hb
     have hx := Yhn (Yat x j) HGood.out
     have HX := Yh_ hx
     clear hx
     go_wp2_with fail
     refine Yx 15 (Ybx M a pb w (M.get x j)) (fun _ _ => False) (by kernel_rfl) (by kernel_rfl) ⟨HB.out.v, HB.out.f, HB.out.k, HB.out.m.drew, HB.out.u.drew, HB.out.al, HB.out.pl⟩ (fun _ _ _ h => h.elim) ?_
     simp only [List.take_succ_cons, List.take_zero, List.drop_succ_cons, List.drop_zero]
     have hb8 := Yh6 HB.out.m (Yat x j) HX.out
     have hg8 := Yev HB.out.m x j
     repeat
      apply Yg rfl rfl
      ·intro K hK w1 hB1
       have cv : w1.cell? ⟨w.heap.size, 0, none⟩ = some (.int .u32 (M.get x j)) := (by rw [Ya hB1.v]; rfl)
       have cb := hB1.m.cbyte _ (Yat x j) HX.out
       go_wp2_with (go_at_call 57; refine (at_ok a pb (Yn x j) _ w1 M hB1.m (Yat x j) (by have := HGood.out; rw [HR.out] at this; exact this)).mono ?_; rintro e w2 ⟨rfl, rfl⟩)
       exact hB1
      ·exact ⟨_, rfl⟩
     refine Yo (fun _ w1 hB1 => ?_)
     have hor := Yjh HB.out.m x j (by omega)
     have HOR := Yh_ hor
     have HB1 := Yh_ hB1
     have cv : w1.cell? ⟨w.heap.size, 0, none⟩ = some (.int .u32 (M.get x j)) := (by rw [Ya hB1.v]; rfl)
     have fv : w1.frozen? ⟨w.heap.size, 0, none⟩ = false := Yc hB1.v 0
     clear hB1 hor hb8 hg8
     go_wp2_with fail
     rw [HOR.out]
     go_roundw
     case rel => exact ⟨j + 1, by omega, by go_num, fun t ht => by
       by_cases e : t = j
       ·subst e; exact HGood.out
       ·exact HC.out t (by omega), HB1.out.store _⟩
     case measure => simp [intOf]; omega
   ·have cv : wr.cell? ⟨w.heap.size, 0, none⟩ = some (.int .u32 (M.get x j)) := (by rw [Ya HB.out.v]; rfl)
    have fv : wr.frozen? ⟨w.heap.size, 0, none⟩ = false := Yc HB.out.v 0
    have cf : ∀ o, wr.cell? ⟨w.heap.size + 1, o, none⟩ = #[.int .i64 0, .int .u32 0, .int .u32 0, .int .i64 0][o]? := Ya HB.out.f
    have ff : ∀ o, wr.frozen? ⟨w.heap.size + 1, o, none⟩ = false := Yc HB.out.f
    have ck : ∀ o, wr.cell? ⟨w.heap.size + 1 + 1, o, none⟩ = #[.bool false][o]? := Ya HB.out.k
    have fk : ∀ o, wr.frozen? ⟨w.heap.size + 1 + 1, o, none⟩ = false := Yc HB.out.k
    go_wp2_with fail
    have e : j = n := by omega
    subst e
    refine Ydy w _ (M.get x j) _ _ ⟨rfl, rfl, rfl⟩ ?_ ?_ ?_ ?_ (fun w' hU => HFK.out w' HC.out hU)
    ·exact Yd _ (by simp <;> omega) (Yd _ (by simp <;> omega) (Yd _ (by simp <;> omega) (Yd _ (by simp <;> omega) (Yd _ (by simp <;> omega) (Yf HB.out.v 0 _)))))
    ·refine Yd _ (by simp <;> omega) ?_
     have h := Yf (Yf (Yf (Yf (Yd (a := ⟨w.heap.size, 0, none⟩) (.int .u32 (M.get x j)) (by simp <;> omega) HB.out.f) 0 (.int .i64 0)) 1 (.int .u32 0)) 2 (.int .u32 0)) 3 (.int .i64 0)
     exact h
    ·exact Yf (Yd _ (by simp <;> omega) (Yd _ (by simp <;> omega) (Yd _ (by simp <;> omega) (Yd _ (by simp <;> omega) (Yd _ (by simp <;> omega) HB.out.k))))) 0 _
    ·exact (((((HB.out.u.setCell (by simp <;> omega) _).setCell (by simp <;> omega) _).setCell (by simp <;> omega) _).setCell (by simp <;> omega) _).setCell (by simp <;> omega) _).setCell (by simp <;> omega) _
 ·have HR := Yh_ hR
  subst e1
  clear hR
  go_enter_defers Tryd.func36, Tryd.ntmps36
  go_wp2_with (go_at_call 56; refine (Yek bytes _).mono ?_; rintro e w' ⟨rfl, rfl⟩; rw [HN.out])
  go_loopw [11, 21] (fun _ i wr => ∃ j : Nat, j ≤ n ∧ i = .int .i64 j ∧ (∀ t, t < j → M.can (Yn x t) (Yav 4) = true) ∧ Ybx M a pb w (M.get x j) wr) (fun _ i _ => n - (intOf i).toNat)
  case atStart => exact ⟨0, Nat.zero_le _, rfl, by simp, HS.out⟩
  case round =>
   obtain ⟨j, hj, rfl, hcan, hB⟩ := hrel
   have HC := Yh_ hcan
   have HB := Yh_ hB
   clear hcan hB
   by_cases hlt : j < n
   ·have hplus := Yfz x j h0 h1 (by omega)
    have HP := Yh_ hplus
    clear hplus
    cases hb : M.can (Yn x j) (Yav 4)
    ·have HBad := Yh_ hb
     clear hb
     go_wp2_with fail
     refine Yx 15 (Ybx M a pb w (M.get x j)) (fun c w1 => c = [{ v := .iface 37 (Ybb (Yn x j) (Yav 4)), recovered := false }] ∧ Ybx M a pb w (M.get x j) w1) (by kernel_rfl) (by kernel_rfl) ⟨HB.out.v, HB.out.f, HB.out.k, HB.out.m.drew, HB.out.u.drew, HB.out.al, HB.out.pl⟩ ?_ ?_
     ·rintro c a' w1 ⟨rfl, hB1⟩ hd hs ht
      go_wp2_with fail
      show Leaves _ _ _ _ a'.defers _ _
      rw [hd]
      refine Yc9 M a pb w w1 _ _ _ _ _ ⟨?_, ?_, ?_⟩ hB1 (fun w' hU => HFP.out j w' hlt HC.out HBad.out hU)
      ·rw [Array.getD_eq_getD_getElem?, ht 8 rfl]; rfl
      ·rw [Array.getD_eq_getD_getElem?, ht 9 rfl]; rfl
      ·rw [Array.getD_eq_getD_getElem?, ht 10 rfl]; rfl
     ·simp only [List.take_succ_cons, List.take_zero, List.drop_succ_cons, List.drop_zero]
      repeat
       apply Yg rfl rfl
       ·intro K hK w1 hB1
        have cv : w1.cell? ⟨w.heap.size, 0, none⟩ = some (.int .u32 (M.get x j)) := (by rw [Ya hB1.v]; rfl)
        go_wp2_with fail
        exact hB1
       ·exact ⟨_, rfl⟩
      refine Ye2 rfl rfl ?_ ?_
      ·intro w1 hB1
       go_wp2_with fail
       refine (Yg6 a pb (Yn x j) _ w1 M hB1.m (Yat x j) (by have := HBad.out; rw [HR.out] at this; exact this)).mono ?_
       rintro e w2 ⟨rfl, rfl⟩
       rw [HR.out]
       exact ⟨rfl, hB1⟩
      repeat
       first
       |refine Yfb rfl ?_
       |apply Yg rfl rfl
        ·intro K hK w1 hB1
         go_wp2_with fail
         exact hB1
        ·exact ⟨_, rfl⟩
      exact Yo (fun h => by cases h)
    ·have HGood := Yh_ hb
     clear hb
     have hx := Yhn (Yat x j) HGood.out
     have HX := Yh_ hx
     clear hx
     go_wp2_with fail
     refine Yx 15 (Ybx M a pb w (M.get x j)) (fun _ _ => False) (by kernel_rfl) (by kernel_rfl) ⟨HB.out.v, HB.out.f, HB.out.k, HB.out.m.drew, HB.out.u.drew, HB.out.al, HB.out.pl⟩ (fun _ _ _ h => h.elim) ?_
     simp only [List.take_succ_cons, List.take_zero, List.drop_succ_cons, List.drop_zero]
     have hb8 := Yh6 HB.out.m (Yat x j) HX.out
     have hg8 := Yev HB.out.m x j
     repeat
      apply Yg rfl rfl
      ·intro K hK w1 hB1
       have cv : w1.cell? ⟨w.heap.size, 0, none⟩ = some (.int .u32 (M.get x j)) := (by rw [Ya hB1.v]; rfl)
       have cb := hB1.m.cbyte _ (Yat x j) HX.out
       go_wp2_with (go_at_call 57; refine (at_ok a pb (Yn x j) _ w1 M hB1.m (Yat x j) (by have := HGood.out; rw [HR.out] at this; exact this)).mono ?_; rintro e w2 ⟨rfl, rfl⟩)
       exact hB1
      ·exact ⟨_, rfl⟩
     refine Yo (fun _ w1 hB1 => ?_)
     have hor := Yjh HB.out.m x j (by omega)
     have HOR := Yh_ hor
     have HB1 := Yh_ hB1
     have cv : w1.cell? ⟨w.heap.size, 0, none⟩ = some (.int .u32 (M.get x j)) := (by rw [Ya hB1.v]; rfl)
     have fv : w1.frozen? ⟨w.heap.size, 0, none⟩ = false := Yc hB1.v 0
     clear hB1 hor hb8 hg8
     go_wp2_with fail
     rw [HOR.out]
     go_roundw
     case rel => exact ⟨j + 1, by omega, by go_num, fun t ht => by
       by_cases e : t = j
       ·subst e; exact HGood.out
       ·exact HC.out t (by omega), HB1.out.store _⟩
     case measure => simp [intOf]; omega
   ·have cv : wr.cell? ⟨w.heap.size, 0, none⟩ = some (.int .u32 (M.get x j)) := (by rw [Ya HB.out.v]; rfl)
    have fv : wr.frozen? ⟨w.heap.size, 0, none⟩ = false := Yc HB.out.v 0
    have cf : ∀ o, wr.cell? ⟨w.heap.size + 1, o, none⟩ = #[.int .i64 0, .int .u32 0, .int .u32 0, .int .i64 0][o]? := Ya HB.out.f
    have ff : ∀ o, wr.frozen? ⟨w.heap.size + 1, o, none⟩ = false := Yc HB.out.f
    have ck : ∀ o, wr.cell? ⟨w.heap.size + 1 + 1, o, none⟩ = #[.bool false][o]? := Ya HB.out.k
    have fk : ∀ o, wr.frozen? ⟨w.heap.size + 1 + 1, o, none⟩ = false := Yc HB.out.k
    go_wp2_with fail
    have e : j = n := by omega
    subst e
    refine Ydy w _ (M.get x j) _ _ ⟨rfl, rfl, rfl⟩ ?_ ?_ ?_ ?_ (fun w' hU => HFK.out w' HC.out hU)
    ·exact Yd _ (by simp <;> omega) (Yd _ (by simp <;> omega) (Yd _ (by simp <;> omega) (Yd _ (by simp <;> omega) (Yd _ (by simp <;> omega) (Yf HB.out.v 0 _)))))
    ·refine Yd _ (by simp <;> omega) ?_
     have h := Yf (Yf (Yf (Yf (Yd (a := ⟨w.heap.size, 0, none⟩) (.int .u32 (M.get x j)) (by simp <;> omega) HB.out.f) 0 (.int .i64 0)) 1 (.int .u32 0)) 2 (.int .u32 0)) 3 (.int .i64 0)
     exact h
    ·exact Yf (Yd _ (by simp <;> omega) (Yd _ (by simp <;> omega) (Yd _ (by simp <;> omega) (Yd _ (by simp <;> omega) (Yd _ (by simp <;> omega) HB.out.k))))) 0 _
    ·exact (((((HB.out.u.setCell (by simp <;> omega) _).setCell (by simp <;> omega) _).setCell (by simp <;> omega) _).setCell (by simp <;> omega) _).setCell (by simp <;> omega) _).setCell (by simp <;> omega) _
 ·have HR := Yh_ hR
  have f1 : (right != 2) = true := by simpa using e1
  have f2 : (right != 4) = true := by simpa using e2
  clear hR e1 e2
  go_enter_defers Tryd.func36, Tryd.ntmps36
  go_wp2_with (go_at_call 56; refine (Yek bytes _).mono ?_; rintro e w' ⟨rfl, rfl⟩; rw [HN.out])
  go_loopw [11, 21] (fun _ i wr => ∃ j : Nat, j ≤ n ∧ i = .int .i64 j ∧ (∀ t, t < j → M.can (Yn x t) (Yav right) = true) ∧ Ybx M a pb w (M.get x j) wr) (fun _ i _ => n - (intOf i).toNat)
  case atStart => exact ⟨0, Nat.zero_le _, rfl, by simp, HS.out⟩
  case round =>
   obtain ⟨j, hj, rfl, hcan, hB⟩ := hrel
   have HC := Yh_ hcan
   have HB := Yh_ hB
   clear hcan hB
   by_cases hlt : j < n
   ·have hplus := Yfz x j h0 h1 (by omega)
    have HP := Yh_ hplus
    clear hplus
    cases hb : M.can (Yn x j) (Yav right)
    ·have HBad := Yh_ hb
     clear hb
     go_wp2_with fail
     refine Yx 15 (Ybx M a pb w (M.get x j)) (fun c w1 => c = [{ v := .iface 37 (Ybb (Yn x j) (Yav right)), recovered := false }] ∧ Ybx M a pb w (M.get x j) w1) (by kernel_rfl) (by kernel_rfl) ⟨HB.out.v, HB.out.f, HB.out.k, HB.out.m.drew, HB.out.u.drew, HB.out.al, HB.out.pl⟩ ?_ ?_
     ·rintro c a' w1 ⟨rfl, hB1⟩ hd hs ht
      go_wp2_with fail
      show Leaves _ _ _ _ a'.defers _ _
      rw [hd]
      refine Yc9 M a pb w w1 _ _ _ _ _ ⟨?_, ?_, ?_⟩ hB1 (fun w' hU => HFP.out j w' hlt HC.out HBad.out hU)
      ·rw [Array.getD_eq_getD_getElem?, ht 8 rfl]; rfl
      ·rw [Array.getD_eq_getD_getElem?, ht 9 rfl]; rfl
      ·rw [Array.getD_eq_getD_getElem?, ht 10 rfl]; rfl
     ·simp only [List.take_succ_cons, List.take_zero, List.drop_succ_cons, List.drop_zero]
      repeat
       apply Yg rfl rfl
       ·intro K hK w1 hB1
        have cv : w1.cell? ⟨w.heap.size, 0, none⟩ = some (.int .u32 (M.get x j)) := (by rw [Ya hB1.v]; rfl)
        go_wp2_with fail
        exact hB1
       ·exact ⟨_, rfl⟩
      refine Ye2 rfl rfl ?_ ?_
      ·intro w1 hB1
       go_wp2_with fail
       refine (Yg6 a pb (Yn x j) _ w1 M hB1.m (Yat x j) (by have := HBad.out; rw [HR.out] at this; exact this)).mono ?_
       rintro e w2 ⟨rfl, rfl⟩
       rw [HR.out]
       exact ⟨rfl, hB1⟩
      repeat
       first
       |refine Yfb rfl ?_
       |apply Yg rfl rfl
        ·intro K hK w1 hB1
         go_wp2_with fail
         exact hB1
        ·exact ⟨_, rfl⟩
      exact Yo (fun h => by cases h)
    ·have HGood := Yh_ hb
     clear hb
     have hx := Yhn (Yat x j) HGood.out
     have HX := Yh_ hx
     clear hx
     go_wp2_with fail
     refine Yx 15 (Ybx M a pb w (M.get x j)) (fun _ _ => False) (by kernel_rfl) (by kernel_rfl) ⟨HB.out.v, HB.out.f, HB.out.k, HB.out.m.drew, HB.out.u.drew, HB.out.al, HB.out.pl⟩ (fun _ _ _ h => h.elim) ?_
     simp only [List.take_succ_cons, List.take_zero, List.drop_succ_cons, List.drop_zero]
     have hb8 := Yh6 HB.out.m (Yat x j) HX.out
     have hg8 := Yev HB.out.m x j
     repeat
      apply Yg rfl rfl
      ·intro K hK w1 hB1
       have cv : w1.cell? ⟨w.heap.size, 0, none⟩ = some (.int .u32 (M.get x j)) := (by rw [Ya hB1.v]; rfl)
       have cb := hB1.m.cbyte _ (Yat x j) HX.out
       go_wp2_with (go_at_call 57; refine (at_ok a pb (Yn x j) _ w1 M hB1.m (Yat x j) (by have := HGood.out; rw [HR.out] at this; exact this)).mono ?_; rintro e w2 ⟨rfl, rfl⟩)
       exact hB1
      ·exact ⟨_, rfl⟩
     refine Yo (fun _ w1 hB1 => ?_)
     have hor := Yjh HB.out.m x j (by omega)
     have HOR := Yh_ hor
     have HB1 := Yh_ hB1
     have cv : w1.cell? ⟨w.heap.size, 0, none⟩ = some (.int .u32 (M.get x j)) := (by rw [Ya hB1.v]; rfl)
     have fv : w1.frozen? ⟨w.heap.size, 0, none⟩ = false := Yc hB1.v 0
     clear hB1 hor hb8 hg8
     go_wp2_with fail
     rw [HOR.out]
     go_roundw
     case rel => exact ⟨j + 1, by omega, by go_num, fun t ht => by
       by_cases e : t = j
       ·subst e; exact HGood.out
       ·exact HC.out t (by omega), HB1.out.store _⟩
     case measure => simp [intOf]; omega
   ·have cv : wr.cell? ⟨w.heap.size, 0, none⟩ = some (.int .u32 (M.get x j)) := (by rw [Ya HB.out.v]; rfl)
    have fv : wr.frozen? ⟨w.heap.size, 0, none⟩ = false := Yc HB.out.v 0
    have cf : ∀ o, wr.cell? ⟨w.heap.size + 1, o, none⟩ = #[.int .i64 0, .int .u32 0, .int .u32 0, .int .i64 0][o]? := Ya HB.out.f
    have ff : ∀ o, wr.frozen? ⟨w.heap.size + 1, o, none⟩ = false := Yc HB.out.f
    have ck : ∀ o, wr.cell? ⟨w.heap.size + 1 + 1, o, none⟩ = #[.bool false][o]? := Ya HB.out.k
    have fk : ∀ o, wr.frozen? ⟨w.heap.size + 1 + 1, o, none⟩ = false := Yc HB.out.k
    go_wp2_with fail
    have e : j = n := by omega
    subst e
    refine Ydy w _ (M.get x j) _ _ ⟨rfl, rfl, rfl⟩ ?_ ?_ ?_ ?_ (fun w' hU => HFK.out w' HC.out hU)
    ·exact Yd _ (by simp <;> omega) (Yd _ (by simp <;> omega) (Yd _ (by simp <;> omega) (Yd _ (by simp <;> omega) (Yd _ (by simp <;> omega) (Yf HB.out.v 0 _)))))
    ·refine Yd _ (by simp <;> omega) ?_
     have h := Yf (Yf (Yf (Yf (Yd (a := ⟨w.heap.size, 0, none⟩) (.int .u32 (M.get x j)) (by simp <;> omega) HB.out.f) 0 (.int .i64 0)) 1 (.int .u32 0)) 2 (.int .u32 0)) 3 (.int .i64 0)
     exact h
    ·exact Yf (Yd _ (by simp <;> omega) (Yd _ (by simp <;> omega) (Yd _ (by simp <;> omega) (Yd _ (by simp <;> omega) (Yd _ (by simp <;> omega) HB.out.k))))) 0 _
    ·exact (((((HB.out.u.setCell (by simp <;> omega) _).setCell (by simp <;> omega) _).setCell (by simp <;> omega) _).setCell (by simp <;> omega) _).setCell (by simp <;> omega) _).setCell (by simp <;> omega) _
theorem Yi.store {w1 : World} {a pb : Nat} {M : Mem} (h : Yi w1 a pb M) {y : Int} (h0 : 0 ≤ y) (h1 : y < 16384) {b : Int} (hb0 : 0 ≤ b) (hb1 : b ≤ 255) :
  Yi (w1.setCell ⟨pb, Ycb y, none⟩ (.int .u8 b)) a pb (M.setB y.toNat b) := by
 refine h.set _ _ (by unfold Ycb; omega) ?_ (Mem.setB_ok h.ok _ hb0 hb1)
 rw [Ycb, Mem.cells_setB _ _ _ _ (by omega) (by omega), show (y / 256).toNat * 256 + (y % 256).toNat = y.toNat from by omega]
section
def Ya9 (tmps : Array Value) : ResultVar → Sem Value
 |.tmp t => pure (tmps.getD t undef)
 |.cell a t => do loadVar t (← asAddr (tmps.getD a undef))
theorem Yd2 (fn : Func) (tmps : Array Value) : results fn tmps = (do
  let vs ← fn.results.mapM (Ya9 tmps)
  pure (if h : vs.size = 1 then vs[0] else .tuple vs)) := by
 unfold results
 congr 1
section
variable {P : Program} {fn : Func} {tmps : Array Value} {w : World} {r0 r1 r2 : ResultVar} {v0 v1 v2 : Value}
theorem Yjs (h : fn.results = #[r0]) (h0 : (Ya9 tmps r0).run P w = .ok v0 w) : (results fn tmps).run P w = .ok v0 w := by
 rw [Yd2, h]
 simp [Sem.run_bind, h0]
theorem Yp (h : fn.results = #[r0, r1]) (h0 : (Ya9 tmps r0).run P w = .ok v0 w) (h1 : (Ya9 tmps r1).run P w = .ok v1 w) : (results fn tmps).run P w = .ok (.tuple #[v0, v1]) w := by
 rw [Yd2, h]
 simp [Sem.run_bind, h0, h1]
theorem Yai (h : fn.results = #[r0, r1, r2]) (h0 : (Ya9 tmps r0).run P w = .ok v0 w) (h1 : (Ya9 tmps r1).run P w = .ok v1 w) (h2 : (Ya9 tmps r2).run P w = .ok v2 w) : (results fn tmps).run P w = .ok (.tuple #[v0, v1, v2]) w := by
 rw [Yd2, h]
 simp [Sem.run_bind, h0, h1, h2]
theorem Yk (t : Tmp) (h : tmps.getD t undef = v0) : (Ya9 tmps (.tmp t)).run P w = .ok v0 w := by
 simp only [Ya9, Sem.run_pure, h]
theorem Yh2 (a : Tmp) (ty : TypeId) (b : Nat) (cs : Array Value) {t : TypeId} {f : Nat × Nat} (d : TypeDesc) (ha : tmps.getD a undef = .pointer (some ⟨b, 0, none⟩)) (hb : w.heap[b]? = some (.cells cs t f))
  (hu : P.underlying ty = some d) (hd : d.isRow = true) (hi : (P.info? ty).map (·.size) = some cs.size) : (Ya9 tmps (.cell a ty)).run P w = .ok (.agg cs) w := by
 have h := run_loadVar_mid (P := P) w b 0 ty cs.toList d (Ybk hb) hu hd (by rw [Array.length_toList]; exact hi)
 rw [Array.toArray_toList] at h
 simp only [Ya9, Sem.run_bind, ha]
 simp [asAddr, h]
end
theorem Yag {P : Program} {ops : Array Oper} {rest : List Oper} {op : Oper} {a : Act} {w : World} {Q : Exit → Act → World → Prop} (ty : TypeId) {x y : Operand} (ho : op.op = .store ty x y) (h : wpList P ops Q (op :: rest) a w) : wpList P ops Q (op :: rest) a w := h
theorem Yaa {P : Program} {ops : Array Oper} {rest : List Oper} {op : Oper} {a : Act} {w : World} {Q : Exit → Act → World → Prop} (ty : TypeId) {x : Operand} (ho : op.op = .load ty x) (h : wpList P ops Q (op :: rest) a w) : wpList P ops Q (op :: rest) a w := h
theorem Yj1 {P : Program} {ops : Array Oper} {Q : Exit → Act → World → Prop} {a : Act} {w : World} {rest : List Oper} {o : Oper} (hw : Region.wanted o (yielded ops a.tmps) = true)
  (h : ∀ K : Act → World → Prop, (∀ a w, wpList P ops Q rest a w → K a w) → o.wp P a w K Q) : wpList P ops Q (o :: rest) a w :=
 wpList_step fun K hK => by simp only [hw, if_true]; exact h K hK
end
structure Opd where
 k : Int
 r : Int
 imm : Int
 b : Int
 x : Int
 sc : Int
structure Opd.Ok (o : Opd) : Prop where
 imm : 0 ≤ o.imm ∧ o.imm < 4294967296
 sc : 0 ≤ o.sc ∧ o.sc < 4294967296
def Opd.val (o : Opd) : Value := .agg #[.int .i64 o.k, .int .i64 o.r, .int .u32 o.imm, .int .i64 o.b, .int .i64 o.x, .int .u32 o.sc]
theorem Opd.ext' {a b : Opd} (h1 : a.k = b.k) (h2 : a.r = b.r) (h3 : a.imm = b.imm) (h4 : a.b = b.b) (h5 : a.x = b.x) (h6 : a.sc = b.sc) : a = b := by
 cases a; cases b; simp_all
def Opd.none : Opd := ⟨0, 0, 0, 0, 0, 0⟩
structure Ins where
 op : Int
 cond : Int
 a : Opd
 b : Opd
 rep : Bool
 len : Int
def Ins.zero : Ins := ⟨0, 0, Opd.none, Opd.none, false, 0⟩
def Ins.cells (i : Ins) : Array Value := #[.int .i64 i.op, .int .i64 i.cond,
 .int .i64 i.a.k, .int .i64 i.a.r, .int .u32 i.a.imm, .int .i64 i.a.b, .int .i64 i.a.x, .int .u32 i.a.sc,
 .int .i64 i.b.k, .int .i64 i.b.r, .int .u32 i.b.imm, .int .i64 i.b.b, .int .i64 i.b.x, .int .u32 i.b.sc,
 .bool i.rep, .int .i64 i.len]
theorem Ins.size (i : Ins) : i.cells.size = 16 := rfl
theorem Ins.one (i : Ins) : i.cells.all (·.oneCell') = true := by simp [Ins.cells, Value.oneCell']
theorem mod_val (r n : Int) (h : 0 < n) (hn : n ≤ 16) : (wrap64 (r.tmod n + n)).tmod n = r % n := by
 have h1 : -n < r.tmod n := by
  have := Int.lt_tmod_of_pos r h
  omega
 have h2 : r.tmod n < n := Int.tmod_lt_of_pos r h
 have e : wrap64 (r.tmod n + n) = r.tmod n + n := by
  unfold wrap64; omega
 rw [e, Int.tmod_eq_emod_of_nonneg (by omega), Int.add_emod_right, Int.tmod_def, Int.sub_mul_emod_self_left]
theorem smod_any (r : Int) (w : World) (n : Nat) (h : 0 < n) (hn : n ≤ 16) :
  Calls Tryd.prog 34 #[.int .i64 r, .int .i64 n] w fun e w' => e = .returned (.int .i64 (r % n)) ∧ w = w' := by
 go_enter Tryd.func34, Tryd.ntmps34
 go_wp2
 go_ret
 exact ⟨ret_of (congrArg (Value.int .i64) (mod_val r n (by omega) (by omega))), rfl⟩
structure St where
 R : Nat → Int
 pc : Int
 cf : Bool
 pf : Bool
 af : Bool
 zf : Bool
 sf : Bool
 of_ : Bool
 df : Bool
 f : Int
structure St.Ok (s : St) : Prop where
 R : ∀ i, 0 ≤ s.R i ∧ s.R i < 4294967296
 pc : 0 ≤ s.pc ∧ s.pc < 4294967296
 f : 0 ≤ s.f ∧ s.f < 18446744073709551616
def St.cells (s : St) : Array Value := #[.int .u32 (s.R 0), .int .u32 (s.R 1), .int .u32 (s.R 2), .int .u32 (s.R 3), .int .u32 (s.R 4), .int .u32 (s.R 5), .int .u32 (s.R 6), .int .u32 (s.R 7), .int .u32 s.pc,
 .bool s.cf, .bool s.pf, .bool s.af, .bool s.zf, .bool s.sf, .bool s.of_, .bool s.df, .int .u64 s.f]
def St.setR (s : St) (i : Nat) (v : Int) : St := { s with R := fun j => if j = i then v else s.R j }
def St.zero : St := ⟨fun _ => 0, 0, false, false, false, false, false, false, false, 0⟩
theorem St.zero_ok : St.zero.Ok := ⟨fun _ => by simp [St.zero], by simp [St.zero], by simp [St.zero]⟩
theorem St.setR_ok {s : St} (h : s.Ok) (i : Nat) {v : Int} (h0 : 0 ≤ v) (h1 : v < 4294967296) : (s.setR i v).Ok :=
 ⟨fun j => by simp only [St.setR]; split; exact ⟨h0, h1⟩; exact h.R j, h.pc, h.f⟩
theorem St.size (s : St) : s.cells.size = 17 := rfl
theorem St.cR (s : St) (i : Nat) (h : i < 8) : s.cells[i]? = some (.int .u32 (s.R i)) := by
 match i, h with
 |0, _ => rfl
 |1, _ => rfl
 |2, _ => rfl
 |3, _ => rfl
 |4, _ => rfl
 |5, _ => rfl
 |6, _ => rfl
 |7, _ => rfl
theorem St.cells_setR (s : St) (i : Nat) (v : Int) (h : i < 8) : s.cells.setIfInBounds i (.int .u32 v) = (s.setR i v).cells := by
 match i, h with
 |0, _ => rfl
 |1, _ => rfl
 |2, _ => rfl
 |3, _ => rfl
 |4, _ => rfl
 |5, _ => rfl
 |6, _ => rfl
 |7, _ => rfl
theorem St.one (s : St) : s.cells.all (·.oneCell') = true := by simp [St.cells, Value.oneCell']
theorem Yay : (Tryd.prog.info? 28).map (·.size) = some 17 := by kernel_rfl
def St.reg (s : St) (r : Int) : Int := if r = -1 then 0 else s.R (r % 8).toNat
theorem Ydx {op : Oper} {a : Act} {w : World} {K : Act → World → Prop} {Q : Exit → Act → World → Prop} (s : St) (b : Nat) (x : Operand) (ho : op.op = .load 28 x) (hx : a.eval x = .pointer (some ⟨b, 0, none⟩))
  (hb : w.heap[b]? = some (.cells s.cells 28 (0, 0))) (hK : K (a.put op.dst (.agg s.cells)) w) : op.wp Tryd.prog a w K Q :=
 wp_load_mid 28 x ho b 0 hx s.cells.toList _ (Ybk hb) Tryd.underlying28 rfl (by rw [Array.length_toList, St.size]; exact Yay) (by rw [Array.toArray_toList]; exact hK)
theorem Yb1 {ops : Array Oper} {rest : List Oper} {op : Oper} {a : Act} {w : World} {Q : Exit → Act → World → Prop} (s : St) (b : Nat) (hgd : op.guard = none) (x : Operand) (ho : op.op = .load 28 x) (hx : a.eval x = .pointer (some ⟨b, 0, none⟩))
  (hb : w.heap[b]? = some (.cells s.cells 28 (0, 0))) (h : wpList Tryd.prog ops Q rest (a.put op.dst (.agg s.cells)) w) : wpList Tryd.prog ops Q (op :: rest) a w :=
 wpList_plain hgd fun _ hK => Ydx s b x ho hx hb (hK _ _ h)
theorem Ya4 {ops : Array Oper} {rest : List Oper} {op : Oper} {a : Act} {w : World} {Q : Exit → Act → World → Prop} (s : St) (b : Nat) (hgd : Region.wanted op (yielded ops a.tmps) = true) (x : Operand) (ho : op.op = .load 28 x) (hx : a.eval x = .pointer (some ⟨b, 0, none⟩))
  (hb : w.heap[b]? = some (.cells s.cells 28 (0, 0))) (h : wpList Tryd.prog ops Q rest (a.put op.dst (.agg s.cells)) w) : wpList Tryd.prog ops Q (op :: rest) a w :=
 Yj1 hgd fun _ hK => Ydx s b x ho hx hb (hK _ _ h)
theorem Yfq {ops : Array Oper} {rest : List Oper} {op : Oper} {a : Act} {w : World} {Q : Exit → Act → World → Prop} (s : St) (b : Nat) (hgd : op.guard = none) (x y : Operand) (ho : op.op = .store 28 x y) (hx : a.eval x = .pointer (some ⟨b, 0, none⟩)) (hy : a.eval y = .agg s.cells)
  {c : Array Value} (hb : w.heap[b]? = some (.cells c 28 (0, 0))) (hc : c.size = 17) (h : wpList Tryd.prog ops Q rest (a.put op.dst undef) (w.setCells b 0 s.cells.toList)) : wpList Tryd.prog ops Q (op :: rest) a w :=
 Ycp hgd 28 x y ho b 0 s.cells hx hy hb (by rw [hc, St.size]; exact Nat.le_refl _) (by rw [St.size]; exact Yay) s.one h
theorem Yax {ops : Array Oper} {rest : List Oper} {op : Oper} {a : Act} {w : World} {Q : Exit → Act → World → Prop} (s : St) (b : Nat) (hgd : op.guard = none) (x y : Operand) (ho : op.op = .store 28 x y) (hx : a.eval x = .pointer (some ⟨b, 0, none⟩)) (hy : a.eval y = .agg s.cells)
  {c : Array Value} (hb : w.heap[b]? = some (.cells c 28 (0, 0))) (hc : c.size = 17) (h : ∀ w', w.setCells b 0 s.cells.toList = w' → wpList Tryd.prog ops Q rest (a.put op.dst undef) w') : wpList Tryd.prog ops Q (op :: rest) a w :=
 Yfq s b hgd x y ho hx hy hb hc (h _ rfl)
theorem Ygr (c : Array Value) (s : St) (hc : c.size = 17) : wr c 0 s.cells.toList = s.cells := by
 apply Array.ext_getElem?
 intro k
 have hl : s.cells.toList.length = 17 := rfl
 rw [Ycc _ _ _ _ (by rw [hl, hc]; exact Nat.le_refl _), hl]
 by_cases h : k < 17
 ·rw [if_pos (by omega), Nat.sub_zero, Array.getElem?_toList]
 ·rw [if_neg (by omega), Array.getElem?_eq_none (by omega), Array.getElem?_eq_none (by rw [St.size]; omega)]
theorem Ya7 {w : World} {b : Nat} {c : Array Value} (s : St) (hb : w.heap[b]? = some (.cells c 28 (0, 0))) (hc : c.size = 17) : (w.setCells b 0 s.cells.toList).heap[b]? = some (.cells s.cells 28 (0, 0)) := by
 rw [Yad _ _ _ _ hb, Ygr c s hc]
end Go.Proofs.YtjkolegknpflfaaDoor
