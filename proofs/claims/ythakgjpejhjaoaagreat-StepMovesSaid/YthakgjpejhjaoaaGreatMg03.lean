/-
  Parts of the proof (their names shortened by a program). No condition.
-/
import Derived.Test.YthakgjpejhjaoaaGreatMg01
import Derived.Recover
import Derived.StillTailTactics
import Derived.Test.YthakgjpejhjaoaaGreatMg02
import Derived.WalkKit
import Derived.Deep.MidRow
import Derived.Test.YthakgjpejhjaoaaGreatRows
import Derived.Laws.BitsAllLaws
import Derived.WalkLawsBesides
import Derived.Lib.Hide
import Derived.Laws.IdiomCopy
namespace Go.Proofs.YthakgjpejhjaoaaGreat
open Go Go.RowKit
set_option linter.unusedVariables false
set_option linter.unusedSimpArgs false
set_option maxRecDepth 100000
set_option maxHeartbeats 16000000
theorem Yfu (v : Value) (w : World) : (Instr.typeAssert (.iface 35 v) 20 35 true).run Tryz.prog w = .ok (.tuple #[v, .bool true]) w := by
 unfold Instr.typeAssert
 simp [Sem.run_bind]
theorem Yfp (fb kb : Nat) (y0 y1 y2 y3 k0 : Value) (x0 x1 x2 x3 : Int) (older : List PanicEntry) (w : World)
  (hf : w.heap[fb]? = some (.cells #[y0, y1, y2, y3] 35 (0, 0))) (hk : w.heap[kb]? = some (.cells #[k0] 4 (0, 0))) (hne : fb ≠ kb) :
  CallsD Tryz.prog 33 #[.pointer (some ⟨fb, 0, none⟩), .pointer (some ⟨kb, 0, none⟩)] (.panicking ({ v := .iface 35 (.agg #[.int .i64 x0, .int .u32 x1, .int .u32 x2, .int .i64 x3]), recovered := false } :: older)) w fun e u' w' =>
   e = .returned (.tuple #[]) ∧ u' = .panicking ({ v := .iface 35 (.agg #[.int .i64 x0, .int .u32 x1, .int .u32 x2, .int .i64 x3]), recovered := true } :: older) ∧
    w'.heap[fb]? = some (.cells #[.int .i64 x0, .int .u32 x1, .int .u32 x2, .int .i64 x3] 35 (0, 0)) ∧ w'.heap[kb]? = some (.cells #[.bool false] 4 (0, 0)) ∧ Upd [fb, kb] w w' := by
 refine callsD_of_wpS Tryz.func33 rfl fun c₀ cs hu => ?_
 simp only [Tryz.ntmps33, List.size_toArray, List.length_cons, List.length_nil, Nat.reduceAdd, Nat.reduceSub, Array.replicate_succ, Array.replicate_zero, List.push_toArray, List.append_toArray, List.nil_append, List.cons_append]
 apply wpS_seq
 apply wpS_region
 simp [wpOpsS, go_sem, recoverD, hu, Tryz.ntmps33, Exit.thenS]
 refine wpS_of_wp ?_
 clear hu
 have hfl := Yj hf
 have hkl := Yj hk
 have hcf : ∀ o, w.cell? ⟨fb, o, none⟩ = #[y0, y1, y2, y3][o]? := Ya hf
 have hck : ∀ o, w.cell? ⟨kb, o, none⟩ = #[k0][o]? := Ya hk
 have hff : ∀ o, w.frozen? ⟨fb, o, none⟩ = false := Yn hf
 have hfk : ∀ o, w.frozen? ⟨kb, o, none⟩ = false := Yn hk
 have HF := Yh_ hf
 have HK := Yh_ hk
 clear hf hk
 have hta := Yfu
 go_wp2_with fail
 refine ⟨rfl, _, rfl, _, results_none rfl _ _ _, rfl, rfl, ?_, ?_, ?_⟩
 ·refine Ym _ (Yg _ hne ?_)
  have h := Yh (Yh (Yh (Yh HF.out 0 (.int .i64 x0)) 1 (.int .u32 x1)) 2 (.int .u32 x2)) 3 (.int .i64 x3)
  exact h
 ·refine Ym _ ?_
  have h := Yg (a := ⟨fb, 3, none⟩) (.int .i64 x3) hne.symm (Yg (a := ⟨fb, 2, none⟩) (.int .u32 x2) hne.symm (Yg (a := ⟨fb, 1, none⟩) (.int .u32 x1) hne.symm (Yg (a := ⟨fb, 0, none⟩) (.int .i64 x0) hne.symm HK.out)))
  exact Yh h 0 (.bool false)
 ·exact ((((((Upd.refl _ _).setCell (by simp) _).setCell (by simp) _).setCell (by simp) _).setCell (by simp) _).setCell (by simp) _).alloc _
theorem Yhy (fb kb : Nat) (w : World) :
  CallsD Tryz.prog 33 #[.pointer (some ⟨fb, 0, none⟩), .pointer (some ⟨kb, 0, none⟩)] .returning w fun e u' w' => e = .returned (.tuple #[]) ∧ u' = .returning ∧ w = w' := by
 refine callsD_of_wpS Tryz.func33 rfl fun c₀ cs hu => ?_
 simp only [Tryz.ntmps33, List.size_toArray, List.length_cons, List.length_nil, Nat.reduceAdd, Nat.reduceSub, Array.replicate_succ, Array.replicate_zero, List.push_toArray, List.append_toArray, List.nil_append, List.cons_append]
 apply wpS_seq
 apply wpS_region
 simp [wpOpsS, go_sem, recoverD, hu, Tryz.ntmps33, Exit.thenS]
 refine wpS_of_wp ?_
 have HU := Yh_ hu
 clear hu
 go_wp2_with fail
 refine ⟨rfl, .returning, ?_, _, results_none rfl _ _ _, rfl, rfl, rfl⟩
 rw [← HU.out]
theorem Yjt (kb vb : Nat) (ok : Bool) (v : Int) (u : FrameMode) (w : World) (hk : w.heap[kb]? = some (.cells #[.bool ok] 4 (0, 0))) (hv : w.heap[vb]? = some (.cells #[.int .u32 v] 22 (0, 0))) :
  CallsD Tryz.prog 57 #[.pointer (some ⟨kb, 0, none⟩), .pointer (some ⟨vb, 0, none⟩)] u w fun e u' w' =>
   u' = u ∧ (e = .returned (.tuple #[]) ∧ w'.heap[vb]? = some (.cells #[.int .u32 (if ok then v else 0)] 22 (0, 0)) ∧ Upd [vb] w w') := by
 have hck : w.cell? ⟨kb, 0, none⟩ = some (.bool ok) := by rw [Ya hk]; rfl
 have hcv : w.cell? ⟨vb, 0, none⟩ = some (.int .u32 v) := by rw [Ya hv]; rfl
 have hfv : w.frozen? ⟨vb, 0, none⟩ = false := Yn hv 0
 have HV := Yh_ hv
 clear hk hv
 cases ok
 ·go_enter_d Tryz.func57, Tryz.ntmps57
  go_wp2
  go_end0
  exact ⟨rfl, Yh HV.out 0 (.int .u32 0), (Upd.refl _ _).setCell (by simp) _⟩
 ·go_enter_d Tryz.func57, Tryz.ntmps57
  go_wp2
  go_end0
  exact ⟨rfl, HV.out, Upd.refl _ _⟩
structure Yc9 (M : Mem) (a pb : Nat) (w : World) (g : Int) (w1 : World) : Prop where
 v : w1.heap[w.heap.size]? = some (.cells #[.int .u32 g] 22 (0, 0))
 f : w1.heap[w.heap.size + 1]? = some (.cells #[.int .i64 0, .int .u32 0, .int .u32 0, .int .i64 0] 35 (0, 0))
 k : w1.heap[w.heap.size + 1 + 1]? = some (.cells #[.bool false] 4 (0, 0))
 m : Yk w1 a pb M
 u : Upd [] w w1
 al : a < w.heap.size
 pl : pb < w.heap.size
def Ybn (r : Int) : Int := if r ≠ 2 ∧ r ≠ 4 then 1 else r
def Yac (x : Int) (i : Nat) : Int := (x + i) % 4294967296
def Mem.get (M : Mem) (x : Int) : Nat → Int
 |0 => 0
 |i + 1 => M.get x i + M.B (Yac x i).toNat * 2 ^ (8 * i)
def Mem.bad (M : Mem) (x right : Int) (n : Nat) : Option Nat := (List.range n).find? fun i => !M.can (Yac x i) right
def Mem.readV (M : Mem) (x bytes right : Int) : Int :=
 match M.bad x (Ybn right) (Yau bytes).toNat with | none => M.get x (Yau bytes).toNat | some _ => 0
def Mem.readF (M : Mem) (x bytes right : Int) : Value :=
 match M.bad x (Ybn right) (Yau bytes).toNat with | none => .agg #[.int .i64 0, .int .u32 0, .int .u32 0, .int .i64 0] | some i => Ycd (Yac x i) (Ybn right)
def Mem.readK (M : Mem) (x bytes right : Int) : Bool := (M.bad x (Ybn right) (Yau bytes).toNat).isNone
theorem Ygb (n : Int) : Yau n = 1 ∨ Yau n = 2 ∨ Yau n = 4 := by
 unfold Yau; split <;> omega
theorem Yhf (tmps : Array Value) (vb fb kb : Nat) (v y0 y1 y2 y3 : Int) (k : Bool) (w : World) (h8 : tmps.getD 8 undef = .pointer (some ⟨vb, 0, none⟩)) (h9 : tmps.getD 9 undef = .pointer (some ⟨fb, 0, none⟩)) (h10 : tmps.getD 10 undef = .pointer (some ⟨kb, 0, none⟩))
  (hv : w.heap[vb]? = some (.cells #[.int .u32 v] 22 (0, 0))) (hf : w.heap[fb]? = some (.cells #[.int .i64 y0, .int .u32 y1, .int .u32 y2, .int .i64 y3] 35 (0, 0))) (hk : w.heap[kb]? = some (.cells #[.bool k] 4 (0, 0))) :
  (results Tryz.f38 tmps).run Tryz.prog w = .ok (.tuple #[.int .u32 v, .agg #[.int .i64 y0, .int .u32 y1, .int .u32 y2, .int .i64 y3], .bool k]) w := by
 have cv : ∀ o, w.cell? ⟨vb, o, none⟩ = #[.int .u32 v][o]? := Ya hv
 have cf : ∀ o, w.cell? ⟨fb, o, none⟩ = #[.int .i64 y0, .int .u32 y1, .int .u32 y2, .int .i64 y3][o]? := Ya hf
 have ck : ∀ o, w.cell? ⟨kb, o, none⟩ = #[.bool k][o]? := Ya hk
 rw [Array.getD_eq_getD_getElem?] at h8 h9 h10
 simp [results, Tryz.results38, go_sem, h8, h9, h10, cv, cf, ck]
def Yiu (w : World) : List Deferred :=
 [{ target := .fn (.func 33) #[], args := #[.pointer (some ⟨w.heap.size + 1, 0, none⟩), .pointer (some ⟨w.heap.size + 1 + 1, 0, none⟩)] },
  { target := .fn (.func 57) #[.pointer (some ⟨w.heap.size + 1 + 1, 0, none⟩), .pointer (some ⟨w.heap.size, 0, none⟩)], args := #[] }]
structure ReadT (w : World) (tmps : Array Value) : Prop where
 h8 : tmps.getD 8 undef = .pointer (some ⟨w.heap.size, 0, none⟩)
 h9 : tmps.getD 9 undef = .pointer (some ⟨w.heap.size + 1, 0, none⟩)
 h10 : tmps.getD 10 undef = .pointer (some ⟨w.heap.size + 1 + 1, 0, none⟩)
theorem Yeg (M : Mem) (a pb : Nat) (w w1 : World) (g y r : Int) (tmps : Array Value) (R : Ending → World → Prop) (ht : ReadT w tmps) (hB : Yc9 M a pb w g w1)
  (hR : ∀ w', Upd [] w w' → R (.returned (.tuple #[.int .u32 0, Ycd y r, .bool false])) w') :
  Leaves Tryz.prog Tryz.f38 tmps R (Yiu w) (.panicking [{ v := .iface 35 (Ycd y r), recovered := false }]) w1 := by
 refine leaves_cons (f := 33) (args := #[.pointer (some ⟨w.heap.size + 1, 0, none⟩), .pointer (some ⟨w.heap.size + 1 + 1, 0, none⟩)]) (by simp) (by simp [go_sem]) ?_
 refine (Yfp _ _ _ _ _ _ _ _ _ _ _ [] w1 hB.f hB.k (by omega)).mono ?_
 rintro e u' w2 ⟨rfl, rfl, hf, hk, hU⟩
 have hv := hU.get hB.v (by simp; omega)
 simp only [settle, List.dropWhile_nil]
 refine leaves_cons (f := 57) (args := #[.pointer (some ⟨w.heap.size + 1 + 1, 0, none⟩), .pointer (some ⟨w.heap.size, 0, none⟩)]) (by simp) (by simp [go_sem]) ?_
 refine (Yjt _ _ false g _ w2 hk hv).mono ?_
 rintro e u' w3 ⟨rfl, rfl, hv', hU'⟩
 have hf' := hU'.get hf (by simp)
 have hk' := hU'.get hk (by simp; omega)
 exact ⟨_, Yhf _ _ _ _ _ _ _ _ _ _ w3 ht.h8 ht.h9 ht.h10 hv' hf' hk', hR _ ((hB.u.new hU (by simp; omega)).new hU' (by simp))⟩
theorem Yfb (w w1 : World) (v : Int) (tmps : Array Value) (R : Ending → World → Prop) (ht : ReadT w tmps)
  (hv : w1.heap[w.heap.size]? = some (.cells #[.int .u32 v] 22 (0, 0))) (hf : w1.heap[w.heap.size + 1]? = some (.cells #[.int .i64 0, .int .u32 0, .int .u32 0, .int .i64 0] 35 (0, 0)))
  (hk : w1.heap[w.heap.size + 1 + 1]? = some (.cells #[.bool true] 4 (0, 0))) (hU : Upd [] w w1)
  (hR : ∀ w', Upd [] w w' → R (.returned (.tuple #[.int .u32 v, .agg #[.int .i64 0, .int .u32 0, .int .u32 0, .int .i64 0], .bool true])) w') :
  Leaves Tryz.prog Tryz.f38 tmps R (Yiu w) .returning w1 := by
 refine leaves_cons (f := 33) (args := #[.pointer (some ⟨w.heap.size + 1, 0, none⟩), .pointer (some ⟨w.heap.size + 1 + 1, 0, none⟩)]) (by simp) (by simp [go_sem]) ?_
 refine (Yhy _ _ w1).mono ?_
 rintro e u' w2 ⟨rfl, rfl, rfl⟩
 simp only [settle]
 refine leaves_cons (f := 57) (args := #[.pointer (some ⟨w.heap.size + 1 + 1, 0, none⟩), .pointer (some ⟨w.heap.size, 0, none⟩)]) (by simp) (by simp [go_sem]) ?_
 refine (Yjt _ _ true v _ w1 hk hv).mono ?_
 rintro e u' w3 ⟨rfl, rfl, hv', hU'⟩
 have hf' := hU'.get hf (by simp)
 have hk' := hU'.get hk (by simp; omega)
 exact ⟨_, Yhf _ _ _ _ _ _ _ _ _ _ w3 ht.h8 ht.h9 ht.h10 hv' hf' hk', hR _ (hU.new hU' (by simp))⟩
theorem Yhd (x : Int) (j : Nat) (h0 : 0 ≤ x) (h1 : x < 4294967296) (hj : j < 4294967296) : IntKind.u32.wrap (x + IntKind.u32.wrap (j : Int)) = Yac x j := by
 have : IntKind.u32.wrap (j : Int) = j := by simp [IntKind.wrap, IntKind.signed, IntKind.bits]; omega
 rw [this]
 simp [IntKind.wrap, IntKind.signed, IntKind.bits, Yac]
theorem Ybd (x : Int) (j : Nat) : 0 ≤ Yac x j := by unfold Yac; omega
theorem Yih {M : Mem} {x r : Int} (h0 : 0 ≤ x) (h : M.can x r = true) : x < 16384 := by
 simp only [Mem.can, Bool.and_eq_true, decide_eq_true_eq] at h
 exact h.1
theorem Yk.cbyte {w : World} {a pb : Nat} {M : Mem} (h : Yk w a pb M) (x : Int) (h0 : 0 ≤ x) (h1 : x < 16384) : w.cell? ⟨pb, Ycx x, none⟩ = some (.int .u8 (M.B x.toNat)) := by
 have := h.cB (x / 256).toNat (x % 256).toNat (by omega) (by omega)
 rw [show (x / 256).toNat * 256 + (x % 256).toNat = x.toNat from by omega] at this
 exact this
theorem Yi6 {w : World} {a pb : Nat} {M : Mem} (h : Yk w a pb M) {x : Int} (h0 : 0 ≤ x) (h1 : x < 16384) : 0 ≤ M.B x.toNat ∧ M.B x.toNat ≤ 255 := h.ok.B _
theorem Yfz {w : World} {a pb : Nat} {M : Mem} (h : Yk w a pb M) (x : Int) (j : Nat) : 0 ≤ M.get x j ∧ M.get x j < 2 ^ (8 * j) := by
 induction j with
 |zero => simp [Mem.get]
 |succ j ih =>
  have hb := h.ok.B (Yac x j).toNat
  simp only [Mem.get]
  have hp : (0 : Int) < 2 ^ (8 * j) := Int.pow_pos (by decide)
  have e : (2 : Int) ^ (8 * (j + 1)) = 256 * 2 ^ (8 * j) := by
   rw [Nat.mul_add, Int.pow_add]; simp [Int.mul_comm]
  rw [e]
  generalize (2 : Int) ^ (8 * j) = p at *
  generalize M.B (Yac x j).toNat = b at *
  have h1 : 0 ≤ b * p := Int.mul_nonneg hb.1 (by omega)
  have h2 : b * p ≤ 255 * p := Int.mul_le_mul_of_nonneg_right hb.2 (by omega)
  omega
theorem or_add (g b : Int) (k : Nat) (hg0 : 0 ≤ g) (hg : g < 2 ^ k) (hb0 : 0 ≤ b) (hk : b * 2 ^ k + g < 4294967296) : bits .or .u32 g (b * 2 ^ k % 4294967296) = g + b * 2 ^ k := by
 obtain ⟨g, rfl⟩ := Int.eq_ofNat_of_zero_le hg0
 obtain ⟨b, rfl⟩ := Int.eq_ofNat_of_zero_le hb0
 have hg' : g < 2 ^ k := by exact_mod_cast hg
 have e0 : ((b : Int) * 2 ^ k) = ((b * 2 ^ k : Nat) : Int) := by
  rw [Int.natCast_mul, Int.natCast_pow]; rfl
 rw [e0] at hk
 have e2 : g ||| b * 2 ^ k = g + b * 2 ^ k := by
  rw [Nat.or_comm, nat_join k _ _ (Nat.mul_mod_left _ _) hg', Nat.add_comm]
 rw [e0]
 generalize hq : b * 2 ^ k = q at *
 have e1 : (q : Int) % 4294967296 = (q : Int) := by omega
 rw [e1, u32_or_nat _ _ (by omega) (by omega), e2]
 rfl
theorem Yki {w : World} {a pb : Nat} {M : Mem} (h : Yk w a pb M) (x : Int) (j : Nat) (hj : j < 4) :
  bits .or .u32 (M.get x j) (M.B (Yac x j).toNat * 2 ^ (8 * j) % 4294967296) = M.get x (j + 1) := by
 have hb := h.ok.B (Yac x j).toNat
 have hg := Yfz h x j
 simp only [Mem.get]
 refine or_add _ _ _ hg.1 hg.2 hb.1 ?_
 have h2 := (Yfz h x (j + 1)).2
 simp only [Mem.get] at h2
 have : (2 : Int) ^ (8 * (j + 1)) ≤ 2 ^ 32 := by
  have := Nat.pow_le_pow_right (show 0 < 2 by decide) (show 8 * (j + 1) ≤ 32 by omega)
  exact_mod_cast this
 have e : (2 : Int) ^ 32 = 4294967296 := by decide
 omega
theorem Yc9.store {M : Mem} {a pb : Nat} {w w1 : World} {g : Int} (h : Yc9 M a pb w g w1) (v : Int) : Yc9 M a pb w v (w1.setCell ⟨w.heap.size, 0, none⟩ (.int .u32 v)) := by
 refine ⟨Yh h.v 0 _, Yg _ (by simp) h.f, Yg _ (by simp; omega) h.k, h.m.keep (S := [w.heap.size]) ((Upd.refl _ _).setCell (by simp) _) ?_ ?_, h.u.setCell (by simp) _, h.al, h.pl⟩
 ·have := h.al; simp; omega
 ·have := h.pl; simp; omega
theorem Yjz (M : Mem) (x r : Int) (n j : Nat) (hj : j < n) (hc : ∀ t, t < j → M.can (Yac x t) r = true) (hb : M.can (Yac x j) r = false) : M.bad x r n = some j := by
 unfold Mem.bad
 rw [List.find?_range_eq_some]
 exact ⟨by simp [hb], by simpa using hj, fun t ht => by simp [hc t ht]⟩
theorem Yh9 (M : Mem) (x r : Int) (n : Nat) (hc : ∀ t, t < n → M.can (Yac x t) r = true) : M.bad x r n = none := by
 unfold Mem.bad
 rw [List.find?_eq_none]
 intro t ht
 simp [hc t (List.mem_range.1 ht)]
theorem Ygv (M : Mem) (a pb : Nat) (x bytes right : Int) (w : World) (hM : Yk w a pb M) (h0 : 0 ≤ x) (h1 : x < 4294967296) :
  Calls Tryz.prog 38 #[.pointer (some ⟨a, 0, none⟩), .int .u32 x, .int .i64 bytes, .int .i64 right] w fun e w' =>
   e = .returned (.tuple #[.int .u32 (M.readV x bytes right), M.readF x bytes right, .bool (M.readK x bytes right)]) ∧ Upd [] w w' := by
 have hmf : ∀ (fn : Fn) (first cap : Array Value) (w : World), (Instr.makeFunc fn first cap).run Tryz.prog w = .ok (.func fn first cap) w := fun _ _ _ _ => rfl
 have hal := hM.al
 have hpl := hM.pl
 have hw3 := Ygb bytes
 obtain ⟨n, hn⟩ : ∃ n : Nat, Yau bytes = n := ⟨(Yau bytes).toNat, by omega⟩
 have HN := Yh_ hn
 have hn4 : n ≤ 4 := by omega
 clear hw3 hn
 have h3 : (right = 2 ∧ Ybn right = 2) ∨ (right = 4 ∧ Ybn right = 4) ∨ (right ≠ 2 ∧ right ≠ 4 ∧ Ybn right = 1) := by
  by_cases hr : right = 2
  ·exact .inl ⟨hr, by rw [hr]; rfl⟩
  ·by_cases hr4 : right = 4
   ·exact .inr (.inl ⟨hr4, by rw [hr4]; rfl⟩)
   ·exact .inr (.inr ⟨hr, hr4, by simp [Ybn, hr, hr4]⟩)
 have hfinP : ∀ (j : Nat) (w' : World), j < n → (∀ t, t < j → M.can (Yac x t) (Ybn right) = true) → M.can (Yac x j) (Ybn right) = false → Upd [] w w' →
   (fun e w' => e = Ending.returned (.tuple #[.int .u32 (M.readV x bytes right), M.readF x bytes right, .bool (M.readK x bytes right)]) ∧ Upd [] w w') (.returned (.tuple #[.int .u32 0, Ycd (Yac x j) (Ybn right), .bool false])) w' := by
  intro j w' hj hc hb hU
  have hbad := Yjz M x (Ybn right) n j hj hc hb
  refine ⟨?_, hU⟩
  simp only [Mem.readV, Mem.readF, Mem.readK, HN.out, Int.toNat_natCast, hbad]
  rfl
 have HFP := Yh_ hfinP
 clear hfinP
 have hfinK : ∀ (w' : World), (∀ t, t < n → M.can (Yac x t) (Ybn right) = true) → Upd [] w w' →
   (fun e w' => e = Ending.returned (.tuple #[.int .u32 (M.readV x bytes right), M.readF x bytes right, .bool (M.readK x bytes right)]) ∧ Upd [] w w') (.returned (.tuple #[.int .u32 (M.get x n), .agg #[.int .i64 0, .int .u32 0, .int .u32 0, .int .i64 0], .bool true])) w' := by
  intro w' hc hU
  have hbad := Yh9 M x (Ybn right) n hc
  refine ⟨?_, hU⟩
  simp only [Mem.readV, Mem.readF, Mem.readK, HN.out, Int.toNat_natCast, hbad]
  rfl
 have HFK := Yh_ hfinK
 clear hfinK
 have hstart : Yc9 M a pb w (M.get x 0) (((w.alloc (Obj.cells #[Value.int IntKind.u32 0] 22)).alloc (Obj.cells #[Value.int IntKind.i64 0, Value.int IntKind.u32 0, Value.int IntKind.u32 0, Value.int IntKind.i64 0] 35)).alloc (Obj.cells #[Value.bool false] 4)) := by
  refine ⟨Ym _ (Ym _ (heap_alloc_new _ _)), Ym _ (heap_alloc2_new _ _ _), ?_, ?_, ?_, hal, hpl⟩
  ·have := heap_alloc_new ((w.alloc (Obj.cells #[Value.int IntKind.u32 0] 22)).alloc (Obj.cells #[Value.int IntKind.i64 0, Value.int IntKind.u32 0, Value.int IntKind.u32 0, Value.int IntKind.i64 0] 35)) (Obj.cells #[Value.bool false] 4)
   simpa using this
  ·exact hM.keep (S := []) ((((Upd.refl _ _).alloc _).alloc _).alloc _) (by simp) (by simp)
  ·exact (((Upd.refl _ _).alloc _).alloc _).alloc _
 have HS := Yh_ hstart
 clear hstart hM
 rcases h3 with ⟨e1, hR⟩ | ⟨e1, hR⟩ | ⟨e1, e2, hR⟩
 ·have HR := Yh_ hR
  subst e1
  clear hR
  go_enter_defers Tryz.func38, Tryz.ntmps38
  go_wp2_with (go_at_call 34; refine (Yf2 bytes _).mono ?_; rintro e w' ⟨rfl, rfl⟩; rw [HN.out])
  go_loopw [11, 21] (fun _ i wr => ∃ j : Nat, j ≤ n ∧ i = .int .i64 j ∧ (∀ t, t < j → M.can (Yac x t) (Ybn 2) = true) ∧ Yc9 M a pb w (M.get x j) wr) (fun _ i _ => n - (intOf i).toNat)
  case atStart => exact ⟨0, Nat.zero_le _, rfl, by simp, HS.out⟩
  case round =>
   obtain ⟨j, hj, rfl, hcan, hB⟩ := hrel
   have HC := Yh_ hcan
   have HB := Yh_ hB
   clear hcan hB
   by_cases hlt : j < n
   ·have hplus := Yhd x j h0 h1 (by omega)
    have HP := Yh_ hplus
    clear hplus
    cases hb : M.can (Yac x j) (Ybn 2)
    ·have HBad := Yh_ hb
     clear hb
     go_wp2_with fail
     refine Yan 15 (Yc9 M a pb w (M.get x j)) (fun c w1 => c = [{ v := .iface 35 (Ycd (Yac x j) (Ybn 2)), recovered := false }] ∧ Yc9 M a pb w (M.get x j) w1) (by kernel_rfl) (by kernel_rfl) ⟨HB.out.v, HB.out.f, HB.out.k, HB.out.m.drew, HB.out.u.drew, HB.out.al, HB.out.pl⟩ ?_ ?_
     ·rintro c a' w1 ⟨rfl, hB1⟩ hd hs ht
      go_wp2_with fail
      show Leaves _ _ _ _ a'.defers _ _
      rw [hd]
      refine Yeg M a pb w w1 _ _ _ _ _ ⟨?_, ?_, ?_⟩ hB1 (fun w' hU => HFP.out j w' hlt HC.out HBad.out hU)
      ·rw [Array.getD_eq_getD_getElem?, ht 8 rfl]; rfl
      ·rw [Array.getD_eq_getD_getElem?, ht 9 rfl]; rfl
      ·rw [Array.getD_eq_getD_getElem?, ht 10 rfl]; rfl
     ·simp only [List.take_succ_cons, List.take_zero, List.drop_succ_cons, List.drop_zero]
      repeat
       apply Yu rfl rfl
       ·intro K hK w1 hB1
        have cv : w1.cell? ⟨w.heap.size, 0, none⟩ = some (.int .u32 (M.get x j)) := (by rw [Ya hB1.v]; rfl)
        go_wp2_with fail
        exact hB1
       ·exact ⟨_, rfl⟩
      refine Yeh rfl rfl ?_ ?_
      ·intro w1 hB1
       go_wp2_with fail
       refine (Yis a pb (Yac x j) _ w1 M hB1.m (Ybd x j) (by have := HBad.out; rw [HR.out] at this; exact this)).mono ?_
       rintro e w2 ⟨rfl, rfl⟩
       rw [HR.out]
       exact ⟨rfl, hB1⟩
      repeat
       first
       |refine Ygk rfl ?_
       |apply Yu rfl rfl
        ·intro K hK w1 hB1
         go_wp2_with fail
         exact hB1
        ·exact ⟨_, rfl⟩
      exact Yaf (fun h => by cases h)
    ·have HGood := Yh_ hb
     clear hb
     have hx := Yih (Ybd x j) HGood.out
     have HX := Yh_ hx
     clear hx
     go_wp2_with fail
     refine Yan 15 (Yc9 M a pb w (M.get x j)) (fun _ _ => False) (by kernel_rfl) (by kernel_rfl) ⟨HB.out.v, HB.out.f, HB.out.k, HB.out.m.drew, HB.out.u.drew, HB.out.al, HB.out.pl⟩ (fun _ _ _ h => h.elim) ?_
     simp only [List.take_succ_cons, List.take_zero, List.drop_succ_cons, List.drop_zero]
     have hb8 := Yi6 HB.out.m (Ybd x j) HX.out
     have hg8 := Yfz HB.out.m x j
     repeat
      apply Yu rfl rfl
      ·intro K hK w1 hB1
       have cv : w1.cell? ⟨w.heap.size, 0, none⟩ = some (.int .u32 (M.get x j)) := (by rw [Ya hB1.v]; rfl)
       have cb := hB1.m.cbyte _ (Ybd x j) HX.out
       go_wp2_with (go_at_call 35; refine (at_ok a pb (Yac x j) _ w1 M hB1.m (Ybd x j) (by have := HGood.out; rw [HR.out] at this; exact this)).mono ?_; rintro e w2 ⟨rfl, rfl⟩)
       exact hB1
      ·exact ⟨_, rfl⟩
     refine Yaf (fun _ w1 hB1 => ?_)
     have hor := Yki HB.out.m x j (by omega)
     have HOR := Yh_ hor
     have HB1 := Yh_ hB1
     have cv : w1.cell? ⟨w.heap.size, 0, none⟩ = some (.int .u32 (M.get x j)) := (by rw [Ya hB1.v]; rfl)
     have fv : w1.frozen? ⟨w.heap.size, 0, none⟩ = false := Yn hB1.v 0
     clear hB1 hor hb8 hg8
     go_wp2_with fail
     rw [HOR.out]
     go_roundw
     case rel => exact ⟨j + 1, by omega, by go_num, fun t ht => by
       by_cases e : t = j
       ·subst e; exact HGood.out
       ·exact HC.out t (by omega), HB1.out.store _⟩
     case measure => simp [intOf]; omega
   ·have cv : wr.cell? ⟨w.heap.size, 0, none⟩ = some (.int .u32 (M.get x j)) := (by rw [Ya HB.out.v]; rfl)
    have fv : wr.frozen? ⟨w.heap.size, 0, none⟩ = false := Yn HB.out.v 0
    have cf : ∀ o, wr.cell? ⟨w.heap.size + 1, o, none⟩ = #[.int .i64 0, .int .u32 0, .int .u32 0, .int .i64 0][o]? := Ya HB.out.f
    have ff : ∀ o, wr.frozen? ⟨w.heap.size + 1, o, none⟩ = false := Yn HB.out.f
    have ck : ∀ o, wr.cell? ⟨w.heap.size + 1 + 1, o, none⟩ = #[.bool false][o]? := Ya HB.out.k
    have fk : ∀ o, wr.frozen? ⟨w.heap.size + 1 + 1, o, none⟩ = false := Yn HB.out.k
    go_wp2_with fail
    have e : j = n := by omega
    subst e
    refine Yfb w _ (M.get x j) _ _ ⟨rfl, rfl, rfl⟩ ?_ ?_ ?_ ?_ (fun w' hU => HFK.out w' HC.out hU)
    ·exact Yg _ (by simp <;> omega) (Yg _ (by simp <;> omega) (Yg _ (by simp <;> omega) (Yg _ (by simp <;> omega) (Yg _ (by simp <;> omega) (Yh HB.out.v 0 _)))))
    ·refine Yg _ (by simp <;> omega) ?_
     have h := Yh (Yh (Yh (Yh (Yg (a := ⟨w.heap.size, 0, none⟩) (.int .u32 (M.get x j)) (by simp <;> omega) HB.out.f) 0 (.int .i64 0)) 1 (.int .u32 0)) 2 (.int .u32 0)) 3 (.int .i64 0)
     exact h
    ·exact Yh (Yg _ (by simp <;> omega) (Yg _ (by simp <;> omega) (Yg _ (by simp <;> omega) (Yg _ (by simp <;> omega) (Yg _ (by simp <;> omega) HB.out.k))))) 0 _
    ·exact (((((HB.out.u.setCell (by simp <;> omega) _).setCell (by simp <;> omega) _).setCell (by simp <;> omega) _).setCell (by simp <;> omega) _).setCell (by simp <;> omega) _).setCell (by simp <;> omega) _
 ·have HR := Yh_ hR
  subst e1
  clear hR
  go_enter_defers Tryz.func38, Tryz.ntmps38
  go_wp2_with (go_at_call 34; refine (Yf2 bytes _).mono ?_; rintro e w' ⟨rfl, rfl⟩; rw [HN.out])
  go_loopw [11, 21] (fun _ i wr => ∃ j : Nat, j ≤ n ∧ i = .int .i64 j ∧ (∀ t, t < j → M.can (Yac x t) (Ybn 4) = true) ∧ Yc9 M a pb w (M.get x j) wr) (fun _ i _ => n - (intOf i).toNat)
  case atStart => exact ⟨0, Nat.zero_le _, rfl, by simp, HS.out⟩
  case round =>
   obtain ⟨j, hj, rfl, hcan, hB⟩ := hrel
   have HC := Yh_ hcan
   have HB := Yh_ hB
   clear hcan hB
   by_cases hlt : j < n
   ·have hplus := Yhd x j h0 h1 (by omega)
    have HP := Yh_ hplus
    clear hplus
    cases hb : M.can (Yac x j) (Ybn 4)
    ·have HBad := Yh_ hb
     clear hb
     go_wp2_with fail
     refine Yan 15 (Yc9 M a pb w (M.get x j)) (fun c w1 => c = [{ v := .iface 35 (Ycd (Yac x j) (Ybn 4)), recovered := false }] ∧ Yc9 M a pb w (M.get x j) w1) (by kernel_rfl) (by kernel_rfl) ⟨HB.out.v, HB.out.f, HB.out.k, HB.out.m.drew, HB.out.u.drew, HB.out.al, HB.out.pl⟩ ?_ ?_
     ·rintro c a' w1 ⟨rfl, hB1⟩ hd hs ht
      go_wp2_with fail
      show Leaves _ _ _ _ a'.defers _ _
      rw [hd]
      refine Yeg M a pb w w1 _ _ _ _ _ ⟨?_, ?_, ?_⟩ hB1 (fun w' hU => HFP.out j w' hlt HC.out HBad.out hU)
      ·rw [Array.getD_eq_getD_getElem?, ht 8 rfl]; rfl
      ·rw [Array.getD_eq_getD_getElem?, ht 9 rfl]; rfl
      ·rw [Array.getD_eq_getD_getElem?, ht 10 rfl]; rfl
     ·simp only [List.take_succ_cons, List.take_zero, List.drop_succ_cons, List.drop_zero]
      repeat
       apply Yu rfl rfl
       ·intro K hK w1 hB1
        have cv : w1.cell? ⟨w.heap.size, 0, none⟩ = some (.int .u32 (M.get x j)) := (by rw [Ya hB1.v]; rfl)
        go_wp2_with fail
        exact hB1
       ·exact ⟨_, rfl⟩
      refine Yeh rfl rfl ?_ ?_
      ·intro w1 hB1
       go_wp2_with fail
       refine (Yis a pb (Yac x j) _ w1 M hB1.m (Ybd x j) (by have := HBad.out; rw [HR.out] at this; exact this)).mono ?_
       rintro e w2 ⟨rfl, rfl⟩
       rw [HR.out]
       exact ⟨rfl, hB1⟩
      repeat
       first
       |refine Ygk rfl ?_
       |apply Yu rfl rfl
        ·intro K hK w1 hB1
         go_wp2_with fail
         exact hB1
        ·exact ⟨_, rfl⟩
      exact Yaf (fun h => by cases h)
    ·have HGood := Yh_ hb
     clear hb
     have hx := Yih (Ybd x j) HGood.out
     have HX := Yh_ hx
     clear hx
     go_wp2_with fail
     refine Yan 15 (Yc9 M a pb w (M.get x j)) (fun _ _ => False) (by kernel_rfl) (by kernel_rfl) ⟨HB.out.v, HB.out.f, HB.out.k, HB.out.m.drew, HB.out.u.drew, HB.out.al, HB.out.pl⟩ (fun _ _ _ h => h.elim) ?_
     simp only [List.take_succ_cons, List.take_zero, List.drop_succ_cons, List.drop_zero]
     have hb8 := Yi6 HB.out.m (Ybd x j) HX.out
     have hg8 := Yfz HB.out.m x j
     repeat
      apply Yu rfl rfl
      ·intro K hK w1 hB1
       have cv : w1.cell? ⟨w.heap.size, 0, none⟩ = some (.int .u32 (M.get x j)) := (by rw [Ya hB1.v]; rfl)
       have cb := hB1.m.cbyte _ (Ybd x j) HX.out
       go_wp2_with (go_at_call 35; refine (at_ok a pb (Yac x j) _ w1 M hB1.m (Ybd x j) (by have := HGood.out; rw [HR.out] at this; exact this)).mono ?_; rintro e w2 ⟨rfl, rfl⟩)
       exact hB1
      ·exact ⟨_, rfl⟩
     refine Yaf (fun _ w1 hB1 => ?_)
     have hor := Yki HB.out.m x j (by omega)
     have HOR := Yh_ hor
     have HB1 := Yh_ hB1
     have cv : w1.cell? ⟨w.heap.size, 0, none⟩ = some (.int .u32 (M.get x j)) := (by rw [Ya hB1.v]; rfl)
     have fv : w1.frozen? ⟨w.heap.size, 0, none⟩ = false := Yn hB1.v 0
     clear hB1 hor hb8 hg8
     go_wp2_with fail
     rw [HOR.out]
     go_roundw
     case rel => exact ⟨j + 1, by omega, by go_num, fun t ht => by
       by_cases e : t = j
       ·subst e; exact HGood.out
       ·exact HC.out t (by omega), HB1.out.store _⟩
     case measure => simp [intOf]; omega
   ·have cv : wr.cell? ⟨w.heap.size, 0, none⟩ = some (.int .u32 (M.get x j)) := (by rw [Ya HB.out.v]; rfl)
    have fv : wr.frozen? ⟨w.heap.size, 0, none⟩ = false := Yn HB.out.v 0
    have cf : ∀ o, wr.cell? ⟨w.heap.size + 1, o, none⟩ = #[.int .i64 0, .int .u32 0, .int .u32 0, .int .i64 0][o]? := Ya HB.out.f
    have ff : ∀ o, wr.frozen? ⟨w.heap.size + 1, o, none⟩ = false := Yn HB.out.f
    have ck : ∀ o, wr.cell? ⟨w.heap.size + 1 + 1, o, none⟩ = #[.bool false][o]? := Ya HB.out.k
    have fk : ∀ o, wr.frozen? ⟨w.heap.size + 1 + 1, o, none⟩ = false := Yn HB.out.k
    go_wp2_with fail
    have e : j = n := by omega
    subst e
    refine Yfb w _ (M.get x j) _ _ ⟨rfl, rfl, rfl⟩ ?_ ?_ ?_ ?_ (fun w' hU => HFK.out w' HC.out hU)
    ·exact Yg _ (by simp <;> omega) (Yg _ (by simp <;> omega) (Yg _ (by simp <;> omega) (Yg _ (by simp <;> omega) (Yg _ (by simp <;> omega) (Yh HB.out.v 0 _)))))
    ·refine Yg _ (by simp <;> omega) ?_
     have h := Yh (Yh (Yh (Yh (Yg (a := ⟨w.heap.size, 0, none⟩) (.int .u32 (M.get x j)) (by simp <;> omega) HB.out.f) 0 (.int .i64 0)) 1 (.int .u32 0)) 2 (.int .u32 0)) 3 (.int .i64 0)
     exact h
    ·exact Yh (Yg _ (by simp <;> omega) (Yg _ (by simp <;> omega) (Yg _ (by simp <;> omega) (Yg _ (by simp <;> omega) (Yg _ (by simp <;> omega) HB.out.k))))) 0 _
    ·exact (((((HB.out.u.setCell (by simp <;> omega) _).setCell (by simp <;> omega) _).setCell (by simp <;> omega) _).setCell (by simp <;> omega) _).setCell (by simp <;> omega) _).setCell (by simp <;> omega) _
 ·have HR := Yh_ hR
  have f1 : (right != 2) = true := by simpa using e1
  have f2 : (right != 4) = true := by simpa using e2
  clear hR e1 e2
  go_enter_defers Tryz.func38, Tryz.ntmps38
  go_wp2_with (go_at_call 34; refine (Yf2 bytes _).mono ?_; rintro e w' ⟨rfl, rfl⟩; rw [HN.out])
  go_loopw [11, 21] (fun _ i wr => ∃ j : Nat, j ≤ n ∧ i = .int .i64 j ∧ (∀ t, t < j → M.can (Yac x t) (Ybn right) = true) ∧ Yc9 M a pb w (M.get x j) wr) (fun _ i _ => n - (intOf i).toNat)
  case atStart => exact ⟨0, Nat.zero_le _, rfl, by simp, HS.out⟩
  case round =>
   obtain ⟨j, hj, rfl, hcan, hB⟩ := hrel
   have HC := Yh_ hcan
   have HB := Yh_ hB
   clear hcan hB
   by_cases hlt : j < n
   ·have hplus := Yhd x j h0 h1 (by omega)
    have HP := Yh_ hplus
    clear hplus
    cases hb : M.can (Yac x j) (Ybn right)
    ·have HBad := Yh_ hb
     clear hb
     go_wp2_with fail
     refine Yan 15 (Yc9 M a pb w (M.get x j)) (fun c w1 => c = [{ v := .iface 35 (Ycd (Yac x j) (Ybn right)), recovered := false }] ∧ Yc9 M a pb w (M.get x j) w1) (by kernel_rfl) (by kernel_rfl) ⟨HB.out.v, HB.out.f, HB.out.k, HB.out.m.drew, HB.out.u.drew, HB.out.al, HB.out.pl⟩ ?_ ?_
     ·rintro c a' w1 ⟨rfl, hB1⟩ hd hs ht
      go_wp2_with fail
      show Leaves _ _ _ _ a'.defers _ _
      rw [hd]
      refine Yeg M a pb w w1 _ _ _ _ _ ⟨?_, ?_, ?_⟩ hB1 (fun w' hU => HFP.out j w' hlt HC.out HBad.out hU)
      ·rw [Array.getD_eq_getD_getElem?, ht 8 rfl]; rfl
      ·rw [Array.getD_eq_getD_getElem?, ht 9 rfl]; rfl
      ·rw [Array.getD_eq_getD_getElem?, ht 10 rfl]; rfl
     ·simp only [List.take_succ_cons, List.take_zero, List.drop_succ_cons, List.drop_zero]
      repeat
       apply Yu rfl rfl
       ·intro K hK w1 hB1
        have cv : w1.cell? ⟨w.heap.size, 0, none⟩ = some (.int .u32 (M.get x j)) := (by rw [Ya hB1.v]; rfl)
        go_wp2_with fail
        exact hB1
       ·exact ⟨_, rfl⟩
      refine Yeh rfl rfl ?_ ?_
      ·intro w1 hB1
       go_wp2_with fail
       refine (Yis a pb (Yac x j) _ w1 M hB1.m (Ybd x j) (by have := HBad.out; rw [HR.out] at this; exact this)).mono ?_
       rintro e w2 ⟨rfl, rfl⟩
       rw [HR.out]
       exact ⟨rfl, hB1⟩
      repeat
       first
       |refine Ygk rfl ?_
       |apply Yu rfl rfl
        ·intro K hK w1 hB1
         go_wp2_with fail
         exact hB1
        ·exact ⟨_, rfl⟩
      exact Yaf (fun h => by cases h)
    ·have HGood := Yh_ hb
     clear hb
     have hx := Yih (Ybd x j) HGood.out
     have HX := Yh_ hx
     clear hx
     go_wp2_with fail
     refine Yan 15 (Yc9 M a pb w (M.get x j)) (fun _ _ => False) (by kernel_rfl) (by kernel_rfl) ⟨HB.out.v, HB.out.f, HB.out.k, HB.out.m.drew, HB.out.u.drew, HB.out.al, HB.out.pl⟩ (fun _ _ _ h => h.elim) ?_
     simp only [List.take_succ_cons, List.take_zero, List.drop_succ_cons, List.drop_zero]
     have hb8 := Yi6 HB.out.m (Ybd x j) HX.out
     have hg8 := Yfz HB.out.m x j
     repeat
      apply Yu rfl rfl
      ·intro K hK w1 hB1
       have cv : w1.cell? ⟨w.heap.size, 0, none⟩ = some (.int .u32 (M.get x j)) := (by rw [Ya hB1.v]; rfl)
       have cb := hB1.m.cbyte _ (Ybd x j) HX.out
       go_wp2_with (go_at_call 35; refine (at_ok a pb (Yac x j) _ w1 M hB1.m (Ybd x j) (by have := HGood.out; rw [HR.out] at this; exact this)).mono ?_; rintro e w2 ⟨rfl, rfl⟩)
       exact hB1
      ·exact ⟨_, rfl⟩
     refine Yaf (fun _ w1 hB1 => ?_)
     have hor := Yki HB.out.m x j (by omega)
     have HOR := Yh_ hor
     have HB1 := Yh_ hB1
     have cv : w1.cell? ⟨w.heap.size, 0, none⟩ = some (.int .u32 (M.get x j)) := (by rw [Ya hB1.v]; rfl)
     have fv : w1.frozen? ⟨w.heap.size, 0, none⟩ = false := Yn hB1.v 0
     clear hB1 hor hb8 hg8
     go_wp2_with fail
     rw [HOR.out]
     go_roundw
     case rel => exact ⟨j + 1, by omega, by go_num, fun t ht => by
       by_cases e : t = j
       ·subst e; exact HGood.out
       ·exact HC.out t (by omega), HB1.out.store _⟩
     case measure => simp [intOf]; omega
   ·have cv : wr.cell? ⟨w.heap.size, 0, none⟩ = some (.int .u32 (M.get x j)) := (by rw [Ya HB.out.v]; rfl)
    have fv : wr.frozen? ⟨w.heap.size, 0, none⟩ = false := Yn HB.out.v 0
    have cf : ∀ o, wr.cell? ⟨w.heap.size + 1, o, none⟩ = #[.int .i64 0, .int .u32 0, .int .u32 0, .int .i64 0][o]? := Ya HB.out.f
    have ff : ∀ o, wr.frozen? ⟨w.heap.size + 1, o, none⟩ = false := Yn HB.out.f
    have ck : ∀ o, wr.cell? ⟨w.heap.size + 1 + 1, o, none⟩ = #[.bool false][o]? := Ya HB.out.k
    have fk : ∀ o, wr.frozen? ⟨w.heap.size + 1 + 1, o, none⟩ = false := Yn HB.out.k
    go_wp2_with fail
    have e : j = n := by omega
    subst e
    refine Yfb w _ (M.get x j) _ _ ⟨rfl, rfl, rfl⟩ ?_ ?_ ?_ ?_ (fun w' hU => HFK.out w' HC.out hU)
    ·exact Yg _ (by simp <;> omega) (Yg _ (by simp <;> omega) (Yg _ (by simp <;> omega) (Yg _ (by simp <;> omega) (Yg _ (by simp <;> omega) (Yh HB.out.v 0 _)))))
    ·refine Yg _ (by simp <;> omega) ?_
     have h := Yh (Yh (Yh (Yh (Yg (a := ⟨w.heap.size, 0, none⟩) (.int .u32 (M.get x j)) (by simp <;> omega) HB.out.f) 0 (.int .i64 0)) 1 (.int .u32 0)) 2 (.int .u32 0)) 3 (.int .i64 0)
     exact h
    ·exact Yh (Yg _ (by simp <;> omega) (Yg _ (by simp <;> omega) (Yg _ (by simp <;> omega) (Yg _ (by simp <;> omega) (Yg _ (by simp <;> omega) HB.out.k))))) 0 _
    ·exact (((((HB.out.u.setCell (by simp <;> omega) _).setCell (by simp <;> omega) _).setCell (by simp <;> omega) _).setCell (by simp <;> omega) _).setCell (by simp <;> omega) _).setCell (by simp <;> omega) _
theorem Yk.store {w1 : World} {a pb : Nat} {M : Mem} (h : Yk w1 a pb M) {y : Int} (h0 : 0 ≤ y) (h1 : y < 16384) {b : Int} (hb0 : 0 ≤ b) (hb1 : b ≤ 255) :
  Yk (w1.setCell ⟨pb, Ycx y, none⟩ (.int .u8 b)) a pb (M.setB y.toNat b) := by
 refine h.set _ _ (by unfold Ycx; omega) ?_ (Mem.setB_ok h.ok _ hb0 hb1)
 rw [Ycx, Mem.cells_setB _ _ _ _ (by omega) (by omega), show (y / 256).toNat * 256 + (y % 256).toNat = y.toNat from by omega]
theorem info_u8 : (Tryz.prog.info? 5).map (fun i => (i.zero, i.size, i.bytes)) = some (some (.int .u8 0), 1, 1) := by kernel_rfl
theorem Yg8 {M : Mem} {x : Int} (h : M.mappedB x = true) : x < 16384 := by
 simp only [Mem.mappedB, Bool.and_eq_true, decide_eq_true_eq] at h
 exact h.1
theorem plus_lt (x : Int) (j : Nat) : Yac x j < 4294967296 := by unfold Yac; omega
def Mem.pokeN (M : Mem) (x : Int) (l : List Int) : Nat → Mem
 |0 => M
 |j + 1 => (M.pokeN x l j).setB (Yac x j).toNat (l.getD j 0)
def Mem.pokeB (M : Mem) (x : Int) (l : List Int) : Bool := decide (l.length ≤ 16384) && (List.range l.length).all fun i => M.mappedB (Yac x i)
def Mem.poke (M : Mem) (x : Int) (l : List Int) : Mem := if M.pokeB x l then M.pokeN x l l.length else M
def errI (b : Bool) (n : Int) : Int := if b then 0 else n
theorem Poke_any (M : Mem) (a pb : Nat) (x : Int) (v : Value) (l : List Int) (g : Nat) (w : World) (hM : Yk w a pb M) (h0 : 0 ≤ x) (h1 : x < 4294967296) (hv : Yes w v l g) (hg : g ≠ pb) (hl : ∀ i, 0 ≤ l.getD i 0 ∧ l.getD i 0 ≤ 255) (hlen : l.length ≤ maxLen) :
  Calls Tryz.prog 20 #[.pointer (some ⟨a, 0, none⟩), .int .u32 x, v] w fun e w' =>
   e = .returned (.int .i64 (errI (M.pokeB x l) 61)) ∧ Yk w' a pb (M.poke x l) ∧ Upd [pb] w w' := by
 have HL := Yh_ hl
 have HV := Yh_ hv
 obtain ⟨sb, sc, rfl⟩ := hv.form
 have HLen := Yh_ hlen
 have hpl := hM.pl
 unfold maxLen at hlen
 have hfinN : M.pokeB x l = false → (Ending.returned (.int .i64 61) = .returned (.int .i64 (errI (M.pokeB x l) 61)) ∧ Yk w a pb (M.poke x l) ∧ Upd [pb] w w) := by
  intro h
  rw [Mem.poke, h]
  exact ⟨rfl, hM, Upd.refl _ _⟩
 have HFN := Yh_ hfinN
 have hfinY : ∀ w', M.pokeB x l = true → Yk w' a pb (M.pokeN x l l.length) → Upd [pb] w w' → (Ending.returned (.int .i64 0) = .returned (.int .i64 (errI (M.pokeB x l) 61)) ∧ Yk w' a pb (M.poke x l) ∧ Upd [pb] w w') := by
  intro w' h hm hu
  rw [Mem.poke, h]
  exact ⟨rfl, hm, hu⟩
 have HFY := Yh_ hfinY
 clear hl hv hfinN hfinY hlen
 have HM := Yh_ hM
 clear hM
 by_cases hbig : l.length ≤ 16384
 ·have hb1 : decide (16384 < (l.length : Int)) = false := by simp; omega
  have hb2 : (l.length : Int) ≤ 9223372036854775807 := by omega
  have HBig := Yh_ hbig
  clear hbig
  go_enter Tryz.func20, Tryz.ntmps20
  go_wp2_with fail
  go_loopw [7, 16] (fun _ i wr => ∃ j : Nat, j ≤ l.length ∧ i = .int .i64 j ∧ (∀ t, t < j → M.mappedB (Yac x t) = true) ∧ w = wr) (fun _ i _ => l.length - (intOf i).toNat)
  case atStart => exact ⟨0, Nat.zero_le _, rfl, by simp, rfl⟩
  case round =>
   obtain ⟨j, hj, rfl, hc, rfl⟩ := hrel
   have HC := Yh_ hc
   clear hc
   by_cases hlt : j < l.length
   ·cases hb : M.mappedB (Yac x j)
    ·have HB := Yh_ hb
     clear hb
     go_wp2_with (go_at_call 36; refine (Yi0 a pb (Yac x j) _ M HM.out (Ybd x j)).mono ?_; rintro e w' ⟨rfl, rfl⟩; rw [HB.out])
     go_ret
     exact HFN.out (by
      simp only [Mem.pokeB, Bool.and_eq_false_iff, List.all_eq_false]
      exact .inr ⟨j, List.mem_range.2 hlt, by rw [HB.out]; simp⟩)
    ·have HB := Yh_ hb
     clear hb
     go_wp2_with (go_at_call 36; refine (Yi0 a pb (Yac x j) _ M HM.out (Ybd x j)).mono ?_; rintro e w' ⟨rfl, rfl⟩; rw [HB.out])
     go_roundw
     case rel => exact ⟨j + 1, by omega, by go_num, fun t ht => by
       by_cases e : t = j
       ·subst e; exact HB.out
       ·exact HC.out t (by omega), trivial⟩
     case measure => simp [intOf]; omega
   ·have hall : ∀ t, t < l.length → M.mappedB (Yac x t) = true := fun t ht => HC.out t (by omega)
    have hyes : M.pokeB x l = true := by
     simp only [Mem.pokeB, Bool.and_eq_true, decide_eq_true_eq, List.all_eq_true, List.mem_range]
     exact ⟨HBig.out, hall⟩
    have HAll := Yh_ hall
    have HYes := Yh_ hyes
    clear hall hyes HC
    go_wp2_with fail
    go_loopw [8, 9, 10, 29] (fun _ _ _ i w2 => ∃ t : Nat, t ≤ l.length ∧ i = .int .i64 t ∧ Yk w2 a pb (M.pokeN x l t) ∧ Upd [pb] w w2) (fun _ _ _ i _ => l.length - (intOf i).toNat)
    case atStart => exact ⟨0, Nat.zero_le _, rfl, HM.out, Upd.refl _ _⟩
    case round =>
     obtain ⟨t, ht, rfl, hm, hu⟩ := hrel
     have HM2 := Yh_ hm
     have HU2 := Yh_ hu
     clear hm hu
     by_cases hlt2 : t < l.length
     ·rcases HV.out with ⟨_, hnil⟩ | ⟨o, c, C, T, f, hs, hC, hcell⟩
      ·rw [hnil] at hlt2; simp at hlt2
      ·simp only [Value.slice.injEq, true_and] at hs
       obtain ⟨rfl, rfl⟩ := hs
       have cg : wr.cell? ⟨g, o + t, none⟩ = some (.int .u8 (l.getD t 0)) := by rw [Ya (HU2.out.get hC (by simpa using hg))]; exact hcell t hlt2
       have hx : (x + (t : Int)) % 4294967296 < 16384 := Yg8 (HAll.out t hlt2)
       have hxn : 0 ≤ (x + (t : Int)) % 4294967296 := Ybd x t
       have ecell : Ycx (Yac x t) = ((x + (t : Int)) % 4294967296 / 256).toNat * 257 + 1 + ((x + (t : Int)) % 256).toNat := by
        unfold Ycx Yac; omega
       have cb := HM2.out.cbyte _ (Ybd x t) (Yg8 (HAll.out t hlt2))
       obtain ⟨cc, hcc, c0⟩ := HM2.out.c0
       have fb : wr.frozen? ⟨pb, Ycx (Yac x t), none⟩ = false := HM2.out.free _
       rw [ecell] at cb fb
       have ECell := Yh_ ecell
       have hgd : l.getD t 0 = l[t] := by rw [List.getD_eq_getElem?_getD, List.getElem?_eq_getElem hlt2]; rfl
       rw [hgd] at cg
       have HGD := Yh_ hgd
       clear hC hcell ecell hgd
       go_wp2_with fail
       go_roundw
       case rel =>
        refine ⟨t + 1, by omega, by go_num, ?_, HU2.out.setCell (by simp) _⟩
        rw [← ECell.out, ← HGD.out]
        exact HM2.out.store (Ybd x t) (Yg8 (HAll.out t hlt2)) (HL.out t).1 (HL.out t).2
       case measure => simp [intOf]; omega
     ·go_wp2_with fail
      go_ret
      have e : t = l.length := by omega
      rw [e] at HM2
      exact HFY.out _ HYes.out HM2.out HU2.out
 ·have hb1 : decide (16384 < (l.length : Int)) = true := by simp; omega
  have HBig := Yh_ hbig
  clear hbig
  go_enter Tryz.func20, Tryz.ntmps20
  go_wp2_with fail
  go_ret
  exact HFN.out (by simp [Mem.pokeB, HBig.out])
section
def Ybt (tmps : Array Value) : ResultVar → Sem Value
 |.tmp t => pure (tmps.getD t undef)
 |.cell a t => do loadVar t (← asAddr (tmps.getD a undef))
theorem Yfg (fn : Func) (tmps : Array Value) : results fn tmps = (do
  let vs ← fn.results.mapM (Ybt tmps)
  pure (if h : vs.size = 1 then vs[0] else .tuple vs)) := by
 unfold results
 congr 1
section
variable {P : Program} {fn : Func} {tmps : Array Value} {w : World} {r0 r1 r2 : ResultVar} {v0 v1 v2 : Value}
theorem Yf (h : fn.results = #[r0]) (h0 : (Ybt tmps r0).run P w = .ok v0 w) : (results fn tmps).run P w = .ok v0 w := by
 rw [Yfg, h]
 simp [Sem.run_bind, h0]
theorem Yaz (h : fn.results = #[r0, r1]) (h0 : (Ybt tmps r0).run P w = .ok v0 w) (h1 : (Ybt tmps r1).run P w = .ok v1 w) : (results fn tmps).run P w = .ok (.tuple #[v0, v1]) w := by
 rw [Yfg, h]
 simp [Sem.run_bind, h0, h1]
theorem Yao (h : fn.results = #[r0, r1, r2]) (h0 : (Ybt tmps r0).run P w = .ok v0 w) (h1 : (Ybt tmps r1).run P w = .ok v1 w) (h2 : (Ybt tmps r2).run P w = .ok v2 w) : (results fn tmps).run P w = .ok (.tuple #[v0, v1, v2]) w := by
 rw [Yfg, h]
 simp [Sem.run_bind, h0, h1, h2]
theorem Yal (t : Tmp) (h : tmps.getD t undef = v0) : (Ybt tmps (.tmp t)).run P w = .ok v0 w := by
 simp only [Ybt, Sem.run_pure, h]
theorem Ybe (a : Tmp) (ty : TypeId) (b : Nat) (cs : Array Value) {t : TypeId} {f : Nat × Nat} (d : TypeDesc) (ha : tmps.getD a undef = .pointer (some ⟨b, 0, none⟩)) (hb : w.heap[b]? = some (.cells cs t f))
  (hu : P.underlying ty = some d) (hd : d.isRow = true) (hi : (P.info? ty).map (·.size) = some cs.size) : (Ybt tmps (.cell a ty)).run P w = .ok (.agg cs) w := by
 have h := run_loadVar_mid (P := P) w b 0 ty cs.toList d (Ye3 hb) hu hd (by rw [Array.length_toList]; exact hi)
 rw [Array.toArray_toList] at h
 simp only [Ybt, Sem.run_bind, ha]
 simp [asAddr, h]
end
theorem Ye {P : Program} {ops : Array Oper} {rest : List Oper} {op : Oper} {a : Act} {w : World} {Q : Exit → Act → World → Prop} (ty : TypeId) {x y : Operand} (ho : op.op = .store ty x y) (h : wpList P ops Q (op :: rest) a w) : wpList P ops Q (op :: rest) a w := h
theorem Yar {P : Program} {ops : Array Oper} {rest : List Oper} {op : Oper} {a : Act} {w : World} {Q : Exit → Act → World → Prop} (ty : TypeId) {x : Operand} (ho : op.op = .load ty x) (h : wpList P ops Q (op :: rest) a w) : wpList P ops Q (op :: rest) a w := h
end
theorem and_mask (x n : Nat) (hx : x < 18446744073709551616) (hn : n ≤ 32) : bits .and .u64 (x : Int) (IntKind.u64.wrap (IntKind.u64.wrap (2 ^ n) - 1)) = ((x % 2 ^ n : Nat) : Int) := by
 have h1 : (2 : Nat) ^ n ≤ 2 ^ 32 := Nat.pow_le_pow_right (by decide) hn
 have h2 : 0 < (2 : Nat) ^ n := Nat.pow_pos (by decide)
 have e : IntKind.u64.wrap (IntKind.u64.wrap (2 ^ n) - 1) = ((2 ^ n - 1 : Nat) : Int) := by
  have : ((2 : Int) ^ n) = ((2 ^ n : Nat) : Int) := by push_cast; rfl
  rw [this]
  generalize (2 : Nat) ^ n = m at *
  simp [IntKind.wrap, IntKind.signed, IntKind.bits]
  omega
 rw [e, u64_and_nat _ _ hx (by omega), Nat.and_two_pow_sub_one_eq_mod]
theorem Yef (x : Int) (a n : Nat) (w : World) (h0 : 0 ≤ x) (h1 : x < 4294967296) (ha : a < 32) (hn : n ≤ 32) :
  Calls Tryz.prog 104 #[.int .u32 x, .int .i64 a, .int .i64 n] w fun e w' => e = .returned (.int .u32 (x / 2 ^ a % 2 ^ n)) ∧ w = w' := by
 go_enter Tryz.func104, Tryz.ntmps104
 go_wp2
 go_ret
 refine ⟨Yem (congrArg (Value.int .u32) ?_), rfl⟩
 obtain ⟨x, rfl⟩ := Int.eq_ofNat_of_zero_le h0
 have e : (x : Int) / 2 ^ a = ((x / 2 ^ a : Nat) : Int) := by push_cast; rfl
 have h3 : x / 2 ^ a ≤ x := Nat.div_le_self _ _
 rw [e, and_mask _ _ (by omega) hn]
 have h4 : x / 2 ^ a % 2 ^ n ≤ x / 2 ^ a := Nat.mod_le _ _
 have h5 : (((x / 2 ^ a % 2 ^ n : Nat) : Int)) % 4294967296 = ((x / 2 ^ a % 2 ^ n : Nat) : Int) := by omega
 rw [h5]
 push_cast
 rfl
structure Opd where
 k : Int
 r : Int
 imm : Int
 b : Int
 x : Int
 sc : Int
structure Opd.Ok (o : Opd) : Prop where
 imm : 0 ≤ o.imm ∧ o.imm < 4294967296
 sc : 0 ≤ o.sc ∧ o.sc < 4294967296
def Opd.val (o : Opd) : Value := .agg #[.int .i64 o.k, .int .i64 o.r, .int .u32 o.imm, .int .i64 o.b, .int .i64 o.x, .int .u32 o.sc]
theorem Opd.ext' {a b : Opd} (h1 : a.k = b.k) (h2 : a.r = b.r) (h3 : a.imm = b.imm) (h4 : a.b = b.b) (h5 : a.x = b.x) (h6 : a.sc = b.sc) : a = b := by
 cases a; cases b; simp_all
def Opd.none : Opd := ⟨0, 0, 0, 0, 0, 0⟩
def Yam (r : Int) : Opd := ⟨1, r, 0, 0, 0, 0⟩
def Yfs (v : Int) : Opd := ⟨2, 0, v, 0, 0, 0⟩
structure Ins where
 op : Int
 cond : Int
 a : Opd
 b : Opd
 rep : Bool
 len : Int
def Ins.zero : Ins := ⟨0, 0, Opd.none, Opd.none, false, 0⟩
def Ins.cells (i : Ins) : Array Value := #[.int .i64 i.op, .int .i64 i.cond,
 .int .i64 i.a.k, .int .i64 i.a.r, .int .u32 i.a.imm, .int .i64 i.a.b, .int .i64 i.a.x, .int .u32 i.a.sc,
 .int .i64 i.b.k, .int .i64 i.b.r, .int .u32 i.b.imm, .int .i64 i.b.b, .int .i64 i.b.x, .int .u32 i.b.sc,
 .bool i.rep, .int .i64 i.len]
theorem Ins.size (i : Ins) : i.cells.size = 16 := rfl
theorem Ins.one (i : Ins) : i.cells.all (·.oneCell') = true := by simp [Ins.cells, Value.oneCell']
end Go.Proofs.YthakgjpejhjaoaaGreat
