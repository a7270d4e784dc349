/-
  Parts of the proof (their names shortened by a program). No condition.
-/
import Derived.Test.YtdgclmibbmofcaaMg01
import Derived.Test.YtdgclmibbmofcaaMg09
import Derived.Test.YtdgclmibbmofcaaMg05
import Derived.Test.YtdgclmibbmofcaaMg06
import Derived.Test.YtdgclmibbmofcaaMg04
namespace Go.Proofs.Ytdgclmibbmofcaa
open Go Go.RowKit
set_option linter.unusedVariables false
set_option linter.unusedSimpArgs false
set_option maxRecDepth 100000
set_option maxHeartbeats 16000000
section
open Go.Maps
def evD (D : DataW Value) (n : Nat) (e : Ev) : DataW Value := (D.put (.int .i64 n) (.held e.val)).del (.int .i64 ((n : Int) - 200))
theorem Yeb (x : Lit × DataW Value) : ∀ (l : List (Lit × DataW Value)) p, p ∈ DataW.insert x l → p = x ∨ p ∈ l
 |[], p, h => by simp [DataW.insert] at h; exact .inl h
 |y :: r, p, h => by
  unfold DataW.insert at h
  split at h
  ·rcases List.mem_cons.1 h with h | h
   ·exact .inl h
   ·exact .inr h
  ·rcases List.mem_cons.1 h with h | h
   ·exact .inr (by rw [h]; simp)
   ·rcases Yeb x r p h with h | h
    ·exact .inl h
    ·exact .inr (List.mem_cons_of_mem _ h)
structure Ybn (D : DataW Value) (L : List Ev) : Prop where
 t : Tidy D
 k : ∀ es, D = .map es → ∀ p ∈ es, ∃ x : Int, p.1 = .int .i64 x
 h : ∀ x : Int, has D (.int .i64 x) = decide (0 ≤ x ∧ x < L.length ∧ L.length ≤ x + 200)
 e : ∀ i : Nat, i < L.length → L.length ≤ i + 200 → ∀ z, D.atKey (.int .i64 i) z = .held (L.getD i Ev.zero).val
theorem Ybn.start : Ybn (.map []) [] :=
 ⟨tidy_empty, fun es he p hp => by cases he; simp at hp, fun x => by simp [has]; omega, fun i hi => by simp at hi⟩
theorem Yeh {a b : Int} (h : a ≠ b) : (Lit.int .i64 a) ≠ .int .i64 b := fun e => by injection e with _ e; exact h e
theorem Ybn.step {D : DataW Value} {L : List Ev} (h : Ybn D L) (e : Ev) : Ybn (evD D L.length e) (L ++ [e]) := by
 have hI : IsMap D := h.t.isMap
 refine ⟨(h.t.put (by simp [WideAt.IsKeyLit]) _).del _, ?_, fun x => ?_, fun i hi hi2 z => ?_⟩
 ·obtain ⟨es, hD⟩ := hI
  subst hD
  intro es' he p hp
  simp only [evD, DataW.put, DataW.del, DataW.map.injEq] at he
  subst he
  rcases Yeb _ _ _ (List.mem_filter.1 hp).1 with rfl | hp
  ·exact ⟨_, rfl⟩
  ·exact h.k es rfl p (List.mem_filter.1 hp).1
 ·unfold evD
  rw [List.length_append, List.length_singleton]
  by_cases h1 : x = (L.length : Int) - 200
  ·subst h1
   rw [has_del_same]
   symm; rw [decide_eq_false_iff_not]; omega
  ·rw [has_del_other (Yeh h1)]
   by_cases h2 : x = (L.length : Int)
   ·subst h2
    rw [has_put_same hI (by simp [WideAt.IsKeyLit])]
    symm; rw [decide_eq_true_eq]; omega
   ·rw [has_put_other (Yeh h2), h.h]
    apply decide_eq_decide.2
    omega
 ·unfold evD
  rw [List.length_append, List.length_singleton] at hi hi2
  rw [atKey_del_other (Yeh (by omega))]
  by_cases h2 : i = L.length
  ·subst h2
   rw [atKey_put_same hI (by simp [WideAt.IsKeyLit])]
   simp
  ·rw [atKey_put_other (Yeh (by omega)), h.e i (by omega) (by omega)]
   simp [List.getElem?_append_left (show i < L.length by omega)]
def Yb0 (n : Nat) : List Int := (List.range (min n 200)).map fun i => ((n - 200 + i : Nat) : Int)
theorem Ybn.keys {D : DataW Value} {L : List Ev} (h : Ybn D L) : (Yb0 L.length).Perm (intKeys D) := by
 obtain ⟨es, rfl, hp⟩ := h.t
 refine perm_intKeys hp (h.k es rfl) ?_ fun x => ?_
 ·unfold Yb0
  refine List.pairwise_map.2 (List.nodup_range.imp fun {a b} hab => ?_)
  omega
 ·rw [h.h, decide_eq_true_eq, Yb0, List.mem_map]
  constructor
  ·rintro ⟨i, hi, rfl⟩
   have := List.mem_range.1 hi
   omega
  ·rintro ⟨h1, h2, h3⟩
   exact ⟨x.toNat - (L.length - 200), List.mem_range.2 (by omega), by omega⟩
theorem Ybn.sorted {D : DataW Value} {L : List Ev} (h : Ybn D L) : Yaq (intKeys D) = Yb0 L.length := by
 show (intKeys D).mergeSort (fun x y => decide (x ≤ y)) = _
 rw [← mergeSort_of_perm_i h.keys]
 refine List.mergeSort_of_pairwise ?_
 unfold Yb0
 refine List.pairwise_map.2 (List.pairwise_lt_range.imp fun {a b} hab => ?_)
 simp; omega
theorem Ybn.size {D : DataW Value} {L : List Ev} (h : Ybn D L) : Maps.size D ≤ 1000 := by
 rw [Yfg D h.t.isMap, ← h.keys.length_eq, Yb0]
 simp; omega
theorem Ybn.evAt {D : DataW Value} {L : List Ev} (h : Ybn D L) : EvAt D (fun k => L.getD k.toNat Ev.zero) := by
 intro k hk
 have h1 := h.keys.mem_iff.2 hk
 unfold Yb0 at h1
 obtain ⟨i, hi, rfl⟩ := List.mem_map.1 h1
 have := List.mem_range.1 hi
 rw [h.e _ (by omega) (by omega)]
 simp only [Int.toNat_natCast]
theorem Yf9 (L : List Ev) : (Yb0 L.length).map (fun k => L.getD k.toNat Ev.zero) = L.drop (L.length - 200) := by
 apply List.ext_getElem
 ·simp [Yb0]; omega
 ·intro i h1 h2
  simp [Yb0] at h1 h2 ⊢
  rw [List.getElem?_eq_getElem (by omega)]
  rfl
structure Cd where
 l : List Int
 i : ByteArray
 L : List Ev
def IsC (w : World) (c b g : Nat) (C : Cd) : Prop := ∃ D, Yaw w c b g C.l C.i C.L.length C.L.length D ∧ Ybn D C.L
theorem IsC.keep {w w' : World} {c b g : Nat} {C : Cd} {S : List Nat} (h : IsC w c b g C) (u : Upd S w w') (hc : c ∉ S) (hb : b ∉ S) (hg : g ∉ S) : IsC w' c b g C := by
 obtain ⟨D, h1, h2⟩ := h
 exact ⟨D, h1.keep u hc hb hg, h2⟩
def doR (M : Mem) (s : St) (C : Cd) : Int :=
 if s.R 0 = 1 then s.R 3 else if s.R 0 = 3 then (if rdK M (s.R 1) (rdN C.i (s.R 2)) = true then (rdN C.i (s.R 2) : Int) else 4294967282)
 else if s.R 0 = 4 then wrR M (s.R 1) (s.R 2) else if s.R 0 = 91 ∨ s.R 0 = 125 ∨ s.R 0 = 192 then chR M (s.R 0) (s.R 3) (s.R 1) (s.R 2)
 else match C.l with | [] => 4294967258 | x :: _ => x
def doS (M : Mem) (s : St) (C : Cd) : ByteArray :=
 if s.R 0 = 3 then (if rdK M (s.R 1) (rdN C.i (s.R 2)) = true then C.i.extract 0 (rdN C.i (s.R 2)) else ByteArray.empty)
 else if s.R 0 = 4 then wrS M (s.R 1) (s.R 2) else ByteArray.empty
def doI (M : Mem) (s : St) (C : Cd) : ByteArray :=
 if s.R 0 = 3 then (if rdK M (s.R 1) (rdN C.i (s.R 2)) = true then C.i.extract (rdN C.i (s.R 2)) C.i.size else C.i) else C.i
def doM (M : Mem) (s : St) (C : Cd) : Mem :=
 if s.R 0 = 3 then (if rdK M (s.R 1) (rdN C.i (s.R 2)) = true then Yy M (s.R 1) (Yi (C.i.extract 0 (rdN C.i (s.R 2)))) (rdN C.i (s.R 2)) else M)
 else if s.R 0 = 91 ∨ s.R 0 = 125 ∨ s.R 0 = 192 then chM M (s.R 0) (s.R 3) (s.R 1) (s.R 2) else M
def Ycx (n : Int) : Bool := decide (n ≠ 1 ∧ n ≠ 3 ∧ n ≠ 4 ∧ n ≠ 91 ∧ n ≠ 125 ∧ n ≠ 192)
def doL (s : St) (C : Cd) : List Int := if Ycx (s.R 0) = true then C.l.tail else C.l
def doE (M : Mem) (s : St) (C : Cd) : Ev := ⟨s.R 0, s.R 3, s.R 1, s.R 2, doR M s C, doS M s C⟩
def doC (M : Mem) (s : St) (C : Cd) : Cd := ⟨doL s C, doI M s C, C.L ++ [doE M s C]⟩
theorem Do_any (M : Mem) (a pb c b g : Nat) (C : Cd) (s : St) (w : World) (hM : Yd w a pb M) (hC : IsC w c b g C) (ne : c ≠ a ∧ c ≠ pb ∧ b ≠ a ∧ b ≠ pb ∧ g ≠ a ∧ g ≠ pb) (hs : s.Ok) (hn : C.L.length < 1000000) :
  Calls Try.prog 8 #[.pointer (some ⟨c, 0, none⟩), .pointer (some ⟨a, 0, none⟩), .agg s.cells] w fun e w' => e = .returned (.tuple #[.agg (s.setR 0 (doR M s C)).cells, .bool (decide (s.R 0 = 1))]) ∧ Yd w' a pb (doM M s C) ∧ IsC w' c b g (doC M s C) ∧ Upd [c, b, pb] w w' := by
 obtain ⟨D, hCl, hD⟩ := hC
 have hst := hD.step (doE M s C)
 have fin : ∀ (w' : World) (l2 : List Int) (i2 : ByteArray) (R : Int) (S : ByteArray), l2 = doL s C → i2 = doI M s C → R = doR M s C → S = doS M s C →
   Yaw w' c b g l2 i2 (C.L.length + 1) (C.L.length + 1) ((D.put (.int .i64 C.L.length) (.held (Ev.val ⟨s.R 0, s.R 3, s.R 1, s.R 2, R, S⟩))).del (.int .i64 (C.L.length - 200))) → IsC w' c b g (doC M s C) := by
  rintro w' l2 i2 R S rfl rfl rfl rfl h
  refine ⟨_, ?_, hst⟩
  unfold doC
  simp only [List.length_append, List.length_singleton]
  exact h
 by_cases h1 : s.R 0 = 1
 ·refine (Do_exit M a pb c b g _ C.l C.i D s w hM hCl ne hs hn h1).mono ?_
  rintro e w' ⟨rfl, h3, h4, h5⟩
  have e1 : doR M s C = s.R 3 := by unfold doR; rw [if_pos h1]
  refine ⟨by rw [e1, decide_eq_true h1], ?_, fin w' _ _ _ _ ?_ ?_ e1.symm ?_ h4, h5⟩
  ·unfold doM; simp [h1]; exact h3
  ·unfold doL Ycx; simp [h1]
  ·unfold doI; simp [h1]
  ·unfold doS; simp [h1]
 ·by_cases h2 : s.R 0 = 3
  ·refine (Do_read M a pb c b g _ C.l C.i D s w hM hCl ne hs hn h2).mono ?_
   rintro e w' ⟨RV, SV, IV, MV, ⟨rfl, h3, h4, h5⟩, p1, p2⟩
   cases hk : rdK M (s.R 1) (rdN C.i (s.R 2))
   ·obtain ⟨rfl, rfl, rfl, e4⟩ := p2 hk
    rw [e4] at h3
    have e1 : doR M s C = 4294967282 := by unfold doR; rw [if_neg h1, if_pos h2, hk]; rfl
    refine ⟨by rw [e1, decide_eq_false h1], ?_, fin w' _ _ _ _ ?_ ?_ e1.symm ?_ h4, h5⟩
    ·unfold doM; simp [h2, hk]; exact h3
    ·unfold doL Ycx; simp [h2]
    ·unfold doI; simp [h2, hk]
    ·unfold doS; simp [h2, hk]
   ·obtain ⟨rfl, rfl, rfl, e4⟩ := p1 hk
    rw [e4] at h3
    have e1 : doR M s C = (rdN C.i (s.R 2) : Int) := by unfold doR; rw [if_neg h1, if_pos h2, hk]; rfl
    refine ⟨by rw [e1, decide_eq_false h1], ?_, fin w' _ _ _ _ ?_ ?_ e1.symm ?_ h4, h5⟩
    ·unfold doM; rw [if_pos h2, if_pos hk]; exact h3
    ·unfold doL Ycx; simp [h2]
    ·unfold doI; rw [if_pos h2, if_pos hk]
    ·unfold doS; rw [if_pos h2, if_pos hk]
  ·by_cases h3 : s.R 0 = 4
   ·refine (Do_write M a pb c b g _ C.l C.i D s w hM hCl ne hs hn h3).mono ?_
    rintro e w' ⟨rfl, q1, q2, q3⟩
    have e1 : doR M s C = wrR M (s.R 1) (s.R 2) := by unfold doR; rw [if_neg h1, if_neg h2, if_pos h3]
    refine ⟨by rw [e1, decide_eq_false h1], ?_, fin w' _ _ _ _ ?_ ?_ e1.symm ?_ q2, q3⟩
    ·unfold doM; simp [h3]; exact q1
    ·unfold doL Ycx; simp [h3]
    ·unfold doI; simp [h3]
    ·unfold doS; simp [h3]
   ·by_cases h4 : s.R 0 = 91 ∨ s.R 0 = 125 ∨ s.R 0 = 192
    ·refine (Do_pages M a pb c b g _ C.l C.i D s w hM hCl ne hs hn h4).mono ?_
     rintro e w' ⟨rfl, q1, q2, q3⟩
     have e1 : doR M s C = chR M (s.R 0) (s.R 3) (s.R 1) (s.R 2) := by unfold doR; rw [if_neg h1, if_neg h2, if_neg h3, if_pos h4]
     refine ⟨by rw [e1, decide_eq_false h1], ?_, fin w' _ _ _ _ ?_ ?_ e1.symm ?_ q2, q3⟩
     ·unfold doM; rw [if_neg h2, if_pos h4]; exact q1
     ·unfold doL Ycx; rw [if_neg (by simp; omega)]
     ·unfold doI; rw [if_neg h2]
     ·unfold doS; rw [if_neg h2, if_neg h3]
    ·have hq : s.R 0 ≠ 1 ∧ s.R 0 ≠ 3 ∧ s.R 0 ≠ 4 ∧ s.R 0 ≠ 91 ∧ s.R 0 ≠ 125 ∧ s.R 0 ≠ 192 := by omega
     have eL : doL s C = C.l.tail := by unfold doL Ycx; rw [if_pos (by rw [decide_eq_true_eq]; exact hq)]
     cases hl : C.l with
     |nil =>
      refine (Do_none M a pb c b g _ C.l C.i D s w hM hCl ne hs hn hq hl).mono ?_
      rintro e w' ⟨rfl, q1, q2, q3⟩
      have e1 : doR M s C = 4294967258 := by unfold doR; rw [if_neg h1, if_neg h2, if_neg h3, if_neg h4, hl]
      refine ⟨by rw [e1, decide_eq_false h1], ?_, fin w' _ _ _ _ ?_ ?_ e1.symm ?_ q2, q3⟩
      ·unfold doM; rw [if_neg h2, if_neg h4]; exact q1
      ·rw [eL, hl]; rfl
      ·unfold doI; rw [if_neg h2]
      ·unfold doS; rw [if_neg h2, if_neg h3]
     |cons x t =>
      refine (Do_reply M a pb c b g _ C.l C.i D s w hM hCl ne hs hn hq x t hl).mono ?_
      rintro e w' ⟨rfl, q1, q2, q3⟩
      have e1 : doR M s C = x := by unfold doR; rw [if_neg h1, if_neg h2, if_neg h3, if_neg h4, hl]
      refine ⟨by rw [e1, decide_eq_false h1], ?_, fin w' _ _ _ _ ?_ ?_ e1.symm ?_ q2, q3⟩
      ·unfold doM; rw [if_neg h2, if_neg h4]; exact q1
      ·rw [eL, hl]; rfl
      ·unfold doI; rw [if_neg h2]
      ·unfold doS; rw [if_neg h2, if_neg h3]
def Cd.last (C : Cd) : List Ev := C.L.drop (C.L.length - 200)
theorem Yg1 (c b g : Nat) (C : Cd) (w : World) (h : IsC w c b g C) :
  Calls Try.prog 18 #[.pointer (some ⟨c, 0, none⟩)] w fun e w' => ∃ v g', e = .returned v ∧ ESl w' v C.last g' ∧ Upd [] w w' := by
 obtain ⟨D, h1, h2⟩ := h
 refine (Ygv c b g _ _ C.l C.i D _ w h1 h2.evAt h2.size).mono ?_
 rw [h2.sorted, Yf9]
 intro e w' h
 exact h
theorem Left_all (c b g : Nat) (C : Cd) (w : World) (h : IsC w c b g C) :
  Calls Try.prog 16 #[.pointer (some ⟨c, 0, none⟩)] w fun e w' => e = .returned (.tuple #[.int .i64 C.l.length, .int .i64 C.i.size]) ∧ Upd [] w w' := by
 obtain ⟨D, h1, h2⟩ := h
 exact Left_any c b g _ _ C.l C.i D w h1
theorem Ygk (l : List Int) (inp : ByteArray) (v : Value) (g : Nat) (w : World) (h : Rp w v l g) (hl : l.length ≤ 1000) :
  Calls Try.prog 7 #[v, .string inp] w fun e w' => ∃ c b g', e = .returned (.pointer (some ⟨c, 0, none⟩)) ∧ IsC w' c b g' ⟨l, inp, []⟩ ∧ (w.heap.size ≤ c ∧ w.heap.size ≤ b ∧ w.heap.size ≤ g') ∧ Upd [] w w' := by
 refine (NewC_any l inp v g w h hl).mono ?_
 rintro e w' ⟨c, b, g', h1, h2, h3, h4⟩
 exact ⟨c, b, g', h1, ⟨_, h2, Ybn.start⟩, h3, h4⟩
end
section
open Go.Maps
theorem errC_yes (n : Int) : Ybz true n = 0 := rfl
theorem IsC.where_ {w : World} {c b g : Nat} {C : Cd} (h : IsC w c b g C) : g < w.heap.size ∨ ∀ g', c ≠ g' → b ≠ g' → IsC w c b g' C := by
 obtain ⟨D, h1, h2⟩ := h
 obtain ⟨v, hv, hr⟩ := h1.hd
 rcases hr with h | ⟨o, c', C', T, f, e1, e2, e3, e4⟩
 ·exact .inr fun g' n1 n2 => ⟨D, ⟨⟨v, hv, .inl h⟩, h1.mp, h1.cb, n1, n2⟩, h2⟩
 ·exact .inl (Yl e3)
structure Kc (w : World) (a pb : Nat) (M : Mem) (c b : Nat) (C : Cd) (L : List (Nat × Obj)) (w1 : World) : Prop where
 m : Yd w1 a pb M
 cc : ∃ g, IsC w1 c b g C ∧ w.heap.size ≤ g ∧ g ≠ a ∧ g ≠ pb ∧ ∀ p ∈ L, p.1 ≠ g
 u : Upd [] w w1
 v : ∀ p ∈ L, w1.heap[p.1]? = some p.2
 s : L.Pairwise (fun p q => p.1 ≠ q.1)
 t : ∀ p ∈ L, w.heap.size ≤ p.1 ∧ p.1 ≠ a ∧ p.1 ≠ pb ∧ p.1 ≠ c ∧ p.1 ≠ b
 o : w.heap.size ≤ a ∧ w.heap.size ≤ pb ∧ w.heap.size ≤ c ∧ w.heap.size ≤ b
 ne : c ≠ a ∧ c ≠ pb ∧ b ≠ a ∧ b ≠ pb
section
variable {w w1 w2 : World} {a pb c b x : Nat} {M M2 : Mem} {C : Cd} {L : List (Nat × Obj)} {o o' : Obj} {T : St}
theorem Kc.lts (h : Kc w a pb M c b C L w1) : a < w1.heap.size ∧ pb < w1.heap.size ∧ c < w1.heap.size ∧ b < w1.heap.size := by
 obtain ⟨g, ⟨D, h1, _⟩, _⟩ := h.cc
 obtain ⟨v, hv, _⟩ := h1.hd
 exact ⟨h.m.al, h.m.pl, Yl hv, h1.mp.lt⟩
theorem Kc.get (h : Kc w a pb M c b C L w1) (n : Nat) (hn : L[n]? = some (x, o)) : w1.heap[x]? = some o := h.v (x, o) (List.mem_of_getElem? hn)
theorem Kc.quiet (h : Kc w a pb M c b C L w1) (u : Upd [] w1 w2) : Kc w a pb M c b C L w2 := by
 obtain ⟨g, h1, h2⟩ := h.cc
 exact ⟨h.m.keep u (by simp) (by simp), ⟨g, h1.keep u (by simp) (by simp) (by simp), h2⟩, h.u.also u (by simp), fun p hp => u.get (h.v p hp) (by simp), h.s, h.t, h.o, h.ne⟩
theorem Kc.step (h : Kc w a pb M c b C L w1) (hm : Yd w2 a pb M2) (u : Upd [pb] w1 w2) : Kc w a pb M2 c b C L w2 := by
 obtain ⟨g, h1, h2, h3, h4, h5⟩ := h.cc
 exact ⟨hm, ⟨g, h1.keep u (by simpa using h.ne.2.1) (by simpa using h.ne.2.2.2) (by simpa using h4), h2, h3, h4, h5⟩, h.u.also u (fun z hz => .inr (by rw [List.mem_singleton.1 hz]; exact h.o.2.1)), fun p hp => u.get (h.v p hp) (by simpa using (h.t p hp).2.2.1), h.s, h.t, h.o, h.ne⟩
theorem Kc.add (h : Kc w a pb M c b C L w1) (u : Upd [] w1 w2) (ho : w2.heap[w1.heap.size]? = some o) : Kc w a pb M c b C ((w1.heap.size, o) :: L) w2 := by
 have hq := h.quiet u
 have hl := h.lts
 have ht : ∀ p ∈ (w1.heap.size, o) :: L, w.heap.size ≤ p.1 ∧ p.1 ≠ a ∧ p.1 ≠ pb ∧ p.1 ≠ c ∧ p.1 ≠ b := by
  intro p hp
  rcases List.mem_cons.1 hp with rfl | hp
  ·exact ⟨h.u.size, by dsimp only; omega, by dsimp only; omega, by dsimp only; omega, by dsimp only; omega⟩
  ·exact h.t p hp
 have hv : ∀ p ∈ (w1.heap.size, o) :: L, w2.heap[p.1]? = some p.2 := by
  intro p hp
  rcases List.mem_cons.1 hp with rfl | hp
  ·exact ho
  ·exact hq.v p hp
 refine ⟨hq.m, ?_, hq.u, hv, List.pairwise_cons.2 ⟨fun q hq => Nat.ne_of_gt (Yl (h.v q hq)), h.s⟩, ht, h.o, h.ne⟩
 obtain ⟨g, h1, h2, h3, h4, h5⟩ := h.cc
 rcases h1.where_ with hw | hw
 ·refine ⟨g, h1.keep u (by simp) (by simp) (by simp), h2, h3, h4, fun p hp => ?_⟩
  rcases List.mem_cons.1 hp with rfl | hp
  ·dsimp only; omega
  ·exact h5 p hp
 ·have hu := u.size
  have hsz := h.u.size
  refine ⟨w2.heap.size, (hw w2.heap.size (by omega) (by omega)).keep u (by simp) (by simp) (by simp), by omega, by omega, by omega, fun p hp => ?_⟩
  have := Yl (hv p hp)
  omega
theorem Kc.put (h : Kc w a pb M c b C L w1) (n : Nat) (hn : L[n]? = some (x, o)) (u : Upd [x] w1 w2) (ho : w2.heap[x]? = some o') : Kc w a pb M c b C (L.set n (x, o')) w2 := by
 have ht := h.t _ (List.mem_of_getElem? hn)
 dsimp only at ht
 obtain ⟨hl, he⟩ := List.getElem?_eq_some_iff.1 hn
 have hs := List.pairwise_iff_getElem.1 h.s
 have hc : ∀ p, p ∈ L.set n (x, o') → p = (x, o') ∨ (p ∈ L ∧ p.1 ≠ x) := by
  intro p hp
  obtain ⟨j, hj⟩ := List.mem_iff_getElem?.1 hp
  rw [List.getElem?_set] at hj
  by_cases e : n = j
  ·subst e
   simp only [if_true, hl] at hj
   exact .inl (Option.some.inj hj).symm
  ·simp only [e, if_false] at hj
   obtain ⟨hl2, he2⟩ := List.getElem?_eq_some_iff.1 hj
   refine .inr ⟨List.mem_of_getElem? hj, fun hh => ?_⟩
   rcases Nat.lt_or_gt_of_ne e with h1 | h1
   ·have := hs n j hl hl2 h1; rw [he, he2] at this; exact this hh.symm
   ·have := hs j n hl2 hl h1; rw [he, he2] at this; exact this hh
 obtain ⟨g, h1, h2, h3, h4, h5⟩ := h.cc
 have hg := h5 _ (List.mem_of_getElem? hn)
 refine ⟨h.m.keep u (by simpa using fun e => ht.2.1 e.symm) (by simpa using fun e => ht.2.2.1 e.symm), ⟨g, h1.keep u (by simpa using fun e => ht.2.2.2.1 e.symm) (by simpa using fun e => ht.2.2.2.2 e.symm) (by simpa using fun e => hg e.symm), h2, h3, h4, fun p hp => ?_⟩, h.u.also u (fun z hz => .inr (by rw [List.mem_singleton.1 hz]; exact ht.1)), fun p hp => ?_, ?_, fun p hp => ?_, h.o, h.ne⟩
 ·rcases hc p hp with rfl | ⟨q1, q2⟩
  ·exact hg
  ·exact h5 p q1
 ·rcases hc p hp with rfl | ⟨q1, q2⟩
  ·exact ho
  ·exact u.get (h.v p q1) (by simpa using q2)
 ·refine List.pairwise_iff_getElem.2 fun i j hi hj hij => ?_
  rw [List.length_set] at hi hj
  have h1 : ∀ q (hq : q < L.length) (hq2 : q < (L.set n (x, o')).length), ((L.set n (x, o'))[q]).1 = (L[q]).1 := by
   intro q hq hq2
   rw [List.getElem_set]
   split
   ·rename_i e; subst e; rw [he]
   ·rfl
  rw [h1 i hi (by rw [List.length_set]; exact hi), h1 j hj (by rw [List.length_set]; exact hj)]
  exact hs i j hi hj hij
 ·rcases hc p hp with rfl | ⟨q1, q2⟩
  ·exact ht
  ·exact h.t p q1
theorem Kc.putR (h : Kc w a pb M c b C L w1) (n : Nat) (hn : L[n]? = some (x, .cells T.cells 39 (0, 0))) (k : Nat) (hk : k < 8) (v : Int) : Kc w a pb M c b C (L.set n (x, .cells (T.setR k v).cells 39 (0, 0))) (w1.setCell ⟨x, k, none⟩ (.int .u32 v)) :=
 h.put n hn ((Upd.refl [x] w1).setCell (p := ⟨x, k, none⟩) (.inl (by simp)) _) (by rw [← St.cells_setR T k v hk]; exact Ye (h.get n hn) k _)
theorem Kc.one (h : Kc w a pb M c b C L w1) (hw : (w1.alloc (.cells St.zero.cells 39)).setCells w1.heap.size 0 T.cells.toList = w2) : Kc w a pb M c b C ((w1.heap.size, .cells T.cells 39 (0, 0)) :: L) w2 := by
 subst hw
 exact h.add (((Upd.refl [] w1).alloc _).setCells (.inr (Nat.le_refl _)) _ _) (Yd8 T (heap_alloc_new w1 _) (St.size _))
theorem Kc.start {n g : Nat} (hm : Yd w1 a pb M) (hC : IsC w1 c b g C) (hu : Upd [] w w1) (h1 : w.heap.size ≤ a ∧ w.heap.size ≤ pb) (h2 : a < n ∧ pb < n) (h3 : n ≤ c ∧ n ≤ b ∧ n ≤ g) : Kc w a pb M c b C [] w1 :=
 ⟨hm, ⟨g, hC, by omega, by omega, by omega, fun p hp => by simp at hp⟩, hu, fun p hp => by simp at hp, List.Pairwise.nil, fun p hp => by simp at hp, by omega, by omega⟩
theorem Yd9 (h : Kc w a pb M c b C L w1) (s : St) (hs : s.Ok) (hn : C.L.length < 1000000) :
  Calls Try.prog 8 #[.pointer (some ⟨c, 0, none⟩), .pointer (some ⟨a, 0, none⟩), .agg s.cells] w1 fun e w' => e = .returned (.tuple #[.agg (s.setR 0 (doR M s C)).cells, .bool (decide (s.R 0 = 1))]) ∧ Kc w a pb (doM M s C) c b (doC M s C) L w' := by
 obtain ⟨g, h1, h2, h3, h4, h5⟩ := h.cc
 refine (Do_any M a pb c b g C s w1 h.m h1 ⟨h.ne.1, h.ne.2.1, h.ne.2.2.1, h.ne.2.2.2, h3, h4⟩ hs hn).mono ?_
 rintro e w2 ⟨q1, q2, q3, u⟩
 refine ⟨q1, q2, ⟨g, q3, h2, h3, h4, h5⟩, h.u.also u (fun z hz => .inr ?_), fun p hp => u.get (h.v p hp) ?_, h.s, h.t, h.o, h.ne⟩
 ·simp at hz; have := h.o; omega
 ·have := h.t p hp; simp; omega
theorem Yhe (h : Kc w a pb M c b C L w1) : Calls Try.prog 18 #[.pointer (some ⟨c, 0, none⟩)] w1 fun e w' => ∃ v g', e = .returned v ∧ ESl w' v C.last g' ∧ Upd [] w1 w' := by
 obtain ⟨g, h1, _⟩ := h.cc
 exact Yg1 c b g C w1 h1
theorem Left_kc (h : Kc w a pb M c b C L w1) : Calls Try.prog 16 #[.pointer (some ⟨c, 0, none⟩)] w1 fun e w' => e = .returned (.tuple #[.int .i64 C.l.length, .int .i64 C.i.size]) ∧ Upd [] w1 w' := by
 obtain ⟨g, h1, _⟩ := h.cc
 exact Left_all c b g C w1 h1
end
theorem rp_lit (w : World) (l : List Int) (T : TypeId) (n : Nat) (hn : n = l.length) (C : Array Value) (hC : C = (l.map (Value.int .u32)).toArray) : Rp (w.alloc (.cells C T)) (.slice (some ⟨w.heap.size, 0, none⟩) n n) l w.heap.size := by
 subst hn hC
 refine .inr ⟨0, _, _, _, _, rfl, Nat.le_refl _, heap_alloc_new w _, fun i hi => ?_⟩
 rw [Nat.zero_add]
 simp [List.getElem?_eq_getElem hi]
theorem rp_none (w : World) (g : Nat) : Rp w (.slice none 0 0) [] g := .inl ⟨rfl, rfl⟩
end
section
open Go.Maps
def kaI : ByteArray := { data := #[104, 101, 108, 108, 111] }
def ka0 : Cd := ⟨[7], kaI, []⟩
def kaM : Mem := Mem.zero.mapM 0 1 3
def Ybd : St := ((St.zero.setR 0 3).setR 1 8).setR 2 4
def kaC1 : Cd := doC kaM Ybd ka0
def kaM1 : Mem := doM kaM Ybd ka0
def Yad : St := Ybd.setR 0 20
def kaC2 : Cd := doC kaM1 Yad kaC1
def kaM2 : Mem := doM kaM1 Yad kaC1
def kaC3 : Cd := doC kaM2 Yad kaC2
def kaM3 : Mem := doM kaM2 Yad kaC2
def Ybm : St := (Yad.setR 0 1).setR 3 9
def kaC4 : Cd := doC kaM3 Ybm kaC3
def kaM4 : Mem := doM kaM3 Ybm kaC3
theorem ka_o1 : Ybd.Ok := St.setR_ok (St.setR_ok (St.setR_ok St.zero_ok 0 (by decide) (by decide)) 1 (by decide) (by decide)) 2 (by decide) (by decide)
theorem ka_o2 : Yad.Ok := St.setR_ok ka_o1 0 (by decide) (by decide)
theorem ka_o4 : Ybm.Ok := St.setR_ok (St.setR_ok ka_o2 0 (by decide) (by decide)) 3 (by decide) (by decide)
theorem ka_map : Mem.zero.mapB 0 1 3 = true := by decide +kernel
theorem ka_r1 : doR kaM Ybd ka0 = 4 := by decide +kernel
theorem ka_r2 : doR kaM1 Yad kaC1 = 7 := by decide +kernel
theorem ka_r3 : doR kaM2 Yad kaC2 = 4294967258 := by decide +kernel
theorem ka_r4 : doR kaM3 Ybm kaC3 = 9 := by decide +kernel
theorem ka_p : kaM4.peek 8 4 = [104, 101, 108, 108] := by decide +kernel
theorem ka_str : strOfNums [104, 101, 108, 108] = { data := #[104, 101, 108, 108] } := by decide +kernel
theorem Yfr : kaC4.last.length = 4 := by decide +kernel
theorem ka_l : kaC4.l.length = 0 := by decide +kernel
theorem ka_i : kaC4.i.size = 1 := by decide +kernel
theorem ka_e0s : (kaC4.last.getD 0 Ev.zero).s = { data := #[104, 101, 108, 108] } := by decide +kernel
theorem ka_e3r : (kaC4.last.getD 3 Ev.zero).r = 9 := by decide +kernel
theorem ESl.open_ {w : World} {v : Value} {l : List Ev} {g n : Nat} (h : ESl w v l g) (hl : l.length = n + 1) : ∃ o c, v = .slice (some ⟨g, o, none⟩) (n + 1) c := by
 rcases h with ⟨_, h⟩ | ⟨o, c, C, f, h1, _, _⟩
 ·rw [h] at hl; cases hl
 ·exact ⟨o, c, by rw [h1, hl]⟩
theorem ESl.cell {w : World} {l : List Ev} {g o c n : Nat} (h : ESl w (.slice (some ⟨g, o, none⟩) n c) l g) (k : Nat) (hk : k < l.length) (j : Nat) (hj : j < 6) : w.cell? ⟨g, o + k * 6 + j, none⟩ = (l.getD k Ev.zero).cells[j]? := by
 have hx : l[k]? = some (l.getD k Ev.zero) := by rw [List.getD_eq_getElem?_getD, List.getElem?_eq_getElem hk]; rfl
 have e : (l.getD k Ev.zero).cells[j]? = some ((l.getD k Ev.zero).cells[j]'(by simpa [Ev.cells] using hj)) := Array.getElem?_eq_getElem _
 rw [e]
 exact h.at hx j _ (by rw [Array.getElem?_toList]; exact e)
theorem ev_c5 (e : Ev) : e.cells[5]? = some (.string e.s) := rfl
theorem ev_c4 (e : Ev) : e.cells[4]? = some (.int .u32 e.r) := rfl
theorem Ydt (w : World) : Calls Try.prog 5 #[] w fun e w' => e = .returned (.bool true) ∧ Upd [] w w' := by
 have tok : True := trivial
 go_enter Try.func5, Try.ntmps5
 go_wp2_with (first | (have _t := tok; clear _t; go_at_call 6; refine (Ygl _).mono ?_; rintro e w1 ⟨a, pb, rfl, ha, hp, hM1, hu1⟩; clear tok) | (have _t := hM1; clear _t; go_at_call 7; refine (Ygk [7] kaI _ w1.heap.size _ (rp_lit w1 [7] _ 1 rfl _ rfl) (by decide)).mono ?_; rintro e w2 ⟨c, b, g', rfl, hC, hz, hu2⟩; have ua := (Upd.refl [] w1).alloc (.cells #[.int .u32 7] 33); have K0 := Yh_ (show Kc w a pb Mem.zero c b ka0 [] w2 from Kc.start (n := w1.heap.size) (hM1.keep (ua.also hu2 (by simp)) (by simp) (by simp)) hC ((hu1.also ua (by simp)).also hu2 (by simp)) ⟨ha, hp⟩ ⟨hM1.al, hM1.pl⟩ ⟨Nat.le_trans ua.size hz.1, Nat.le_trans ua.size hz.2.1, Nat.le_trans ua.size hz.2.2⟩); clear hu1 ha hp hM1 hC hz hu2 ua) | (have _t := K0; clear _t; go_at_call 20; refine (Ye6 Mem.zero a pb 0 1 3 _ K0.out.m (by decide)).mono ?_; rintro e w3 ⟨rfl, hm, hu⟩; rw [ka_map, errC_yes]; have K1 := Yh_ (show Kc w a pb kaM c b ka0 [] w3 from K0.out.step hm hu); clear hm hu K0) | (have _t := K1; clear _t; refine Ybl 39 rfl ?_; refine Yx St.zero w3.heap.size rfl _ _ rfl rfl rfl (heap_alloc_new w3 _) rfl ?_; intro w4 hw; have K2 := Yh_ (K1.out.one hw); have c0 : w4.cell? ⟨w3.heap.size, 0, none⟩ = some (.int .u32 (St.zero.R 0)) := (Ya (K2.out.get 0 rfl) 0).trans (St.cR _ 0 (by decide)); have c1 : w4.cell? ⟨w3.heap.size, 1, none⟩ = some (.int .u32 (St.zero.R 1)) := (Ya (K2.out.get 0 rfl) 1).trans (St.cR _ 1 (by decide)); have c2 : w4.cell? ⟨w3.heap.size, 2, none⟩ = some (.int .u32 (St.zero.R 2)) := (Ya (K2.out.get 0 rfl) 2).trans (St.cR _ 2 (by decide)); have fz := Yg (K2.out.get 0 rfl); have tk2 : True := trivial; clear hw K1) | (have _t := tk2; have _t2 := K2; clear _t _t2; refine Ycq 39 rfl ?_; clear tk2; have hk := (((K2.out).putR 0 rfl 0 (by decide) 3).putR 0 rfl 1 (by decide) 8).putR 0 rfl 2 (by decide) 4; dsimp only [List.set] at hk; have K3 := Yh_ (show Kc w a pb kaM c b ka0 [(w3.heap.size, .cells Ybd.cells 39 (0, 0))] _ from hk); clear hk K2 c0 c1 c2 fz; refine Yan Ybd w3.heap.size rfl _ rfl rfl (K3.out.get 0 rfl) ?_) | (have _t := K3; clear _t; go_at_call 8; refine (Yd9 K3.out Ybd ka_o1 (by decide)).mono ?_; rintro e w5 ⟨rfl, hk⟩; rw [ka_r1, show decide (Ybd.R 0 = 1) = false from rfl]; have K4 := Yh_ hk; clear hk K3) | (have _t := K4; clear _t; refine Ybl 39 rfl ?_; refine Yx (Ybd.setR 0 4) w5.heap.size rfl _ _ rfl rfl rfl (heap_alloc_new w5 _) rfl ?_; intro w6 hw; have K5 := Yh_ (K4.out.one hw); have c0 : w6.cell? ⟨w3.heap.size, 0, none⟩ = some (.int .u32 (Ybd.R 0)) := (Ya (K5.out.get 1 rfl) 0).trans (St.cR _ 0 (by decide)); have fz := Yg (K5.out.get 1 rfl); have tk5 : True := trivial; clear hw K4) | (have _t := tk5; have _t2 := K5; clear _t _t2; refine Ycq 39 rfl ?_; clear tk5; have hk := (K5.out).putR 1 rfl 0 (by decide) 20; dsimp only [List.set] at hk; have K6 := Yh_ (show Kc w a pb kaM1 c b kaC1 [(w5.heap.size, .cells (Ybd.setR 0 4).cells 39 (0, 0)), (w3.heap.size, .cells Yad.cells 39 (0, 0))] _ from hk); clear hk K5 c0 fz; refine Yan Yad w3.heap.size rfl _ rfl rfl (K6.out.get 1 rfl) ?_) | (have _t := K6; clear _t; go_at_call 8; refine (Yd9 K6.out Yad ka_o2 (by decide)).mono ?_; rintro e w7 ⟨rfl, hk⟩; rw [ka_r2, show decide (Yad.R 0 = 1) = false from rfl]; have K7 := Yh_ hk; clear hk K6) | (have _t := K7; clear _t; refine Ybl 39 rfl ?_; refine Yx (Yad.setR 0 7) w7.heap.size rfl _ _ rfl rfl rfl (heap_alloc_new w7 _) rfl ?_; intro w8 hw; have K8 := Yh_ (K7.out.one hw); have tk8 : True := trivial; clear hw K7) | (have _t := tk8; have _t2 := K8; clear _t _t2; refine Ycq 39 rfl ?_; clear tk8; have hk := K8.out; have K9 := Yh_ (show Kc w a pb kaM2 c b kaC2 [(w7.heap.size, .cells (Yad.setR 0 7).cells 39 (0, 0)), (w5.heap.size, .cells (Ybd.setR 0 4).cells 39 (0, 0)), (w3.heap.size, .cells Yad.cells 39 (0, 0))] _ from hk); clear hk K8 ; refine Yan Yad w3.heap.size rfl _ rfl rfl (K9.out.get 2 rfl) ?_) | (have _t := K9; clear _t; go_at_call 8; refine (Yd9 K9.out Yad ka_o2 (by decide)).mono ?_; rintro e w9 ⟨rfl, hk⟩; rw [ka_r3, show decide (Yad.R 0 = 1) = false from rfl]; have K10 := Yh_ hk; clear hk K9) | (have _t := K10; clear _t; refine Ybl 39 rfl ?_; refine Yx (Yad.setR 0 4294967258) w9.heap.size rfl _ _ rfl rfl rfl (heap_alloc_new w9 _) rfl ?_; intro w10 hw; have K11 := Yh_ (K10.out.one hw); have c0 : w10.cell? ⟨w3.heap.size, 0, none⟩ = some (.int .u32 (Yad.R 0)) := (Ya (K11.out.get 3 rfl) 0).trans (St.cR _ 0 (by decide)); have c3 : w10.cell? ⟨w3.heap.size, 3, none⟩ = some (.int .u32 (Yad.R 3)) := (Ya (K11.out.get 3 rfl) 3).trans (St.cR _ 3 (by decide)); have fz := Yg (K11.out.get 3 rfl); have tk11 : True := trivial; clear hw K10) | (have _t := tk11; have _t2 := K11; clear _t _t2; refine Ycq 39 rfl ?_; clear tk11; have hk := ((K11.out).putR 3 rfl 0 (by decide) 1).putR 3 rfl 3 (by decide) 9; dsimp only [List.set] at hk; have K12 := Yh_ (show Kc w a pb kaM3 c b kaC3 [(w9.heap.size, .cells (Yad.setR 0 4294967258).cells 39 (0, 0)), (w7.heap.size, .cells (Yad.setR 0 7).cells 39 (0, 0)), (w5.heap.size, .cells (Ybd.setR 0 4).cells 39 (0, 0)), (w3.heap.size, .cells Ybm.cells 39 (0, 0))] _ from hk); clear hk K11 c0 c3 fz; refine Yan Ybm w3.heap.size rfl _ rfl rfl (K12.out.get 3 rfl) ?_) | (have _t := K12; clear _t; go_at_call 8; refine (Yd9 K12.out Ybm ka_o4 (by decide)).mono ?_; rintro e w11 ⟨rfl, hk⟩; rw [ka_r4, show decide (Ybm.R 0 = 1) = true from rfl]; have K13 := Yh_ hk; clear hk K12) | (have _t := K13; clear _t; refine Ybl 39 rfl ?_; refine Yx (Ybm.setR 0 9) w11.heap.size rfl _ _ rfl rfl rfl (heap_alloc_new w11 _) rfl ?_; intro w12 hw; have K14 := Yh_ (K13.out.one hw); clear hw K13) | (have _t := K14; clear _t; go_at_call 18; refine (Yhe K14.out).mono ?_; rintro e w13 ⟨ve, ge, rfl, hE, hu⟩; obtain ⟨oe, ce, rfl⟩ := hE.open_ (n := 3) Yfr; have K15 := Yh_ (show Kc w a pb kaM4 c b kaC4 [(w11.heap.size, .cells (Ybm.setR 0 9).cells 39 (0, 0)), (w9.heap.size, .cells (Yad.setR 0 4294967258).cells 39 (0, 0)), (w7.heap.size, .cells (Yad.setR 0 7).cells 39 (0, 0)), (w5.heap.size, .cells (Ybd.setR 0 4).cells 39 (0, 0)), (w3.heap.size, .cells Ybm.cells 39 (0, 0))] w13 from K14.out.quiet hu); have HE := Yh_ (show ESl w13 _ kaC4.last ge from hE); clear hu hE K14) | (have _t := K15; clear _t; go_at_call 16; refine (Left_kc K15.out).mono ?_; rintro e w14 ⟨rfl, hu⟩; rw [ka_l, ka_i]; have K16 := Yh_ (show Kc w a pb kaM4 c b kaC4 [(w11.heap.size, .cells (Ybm.setR 0 9).cells 39 (0, 0)), (w9.heap.size, .cells (Yad.setR 0 4294967258).cells 39 (0, 0)), (w7.heap.size, .cells (Yad.setR 0 7).cells 39 (0, 0)), (w5.heap.size, .cells (Ybd.setR 0 4).cells 39 (0, 0)), (w3.heap.size, .cells Ybm.cells 39 (0, 0))] w14 from K15.out.quiet hu); have HE2 := Yh_ (HE.out.keep hu (by simp)); have d1 : w14.cell? ⟨w5.heap.size, 0, none⟩ = some (.int .u32 4) := (Ya (K16.out.get 3 rfl) 0).trans (St.cR _ 0 (by decide)); have d2 : w14.cell? ⟨w7.heap.size, 0, none⟩ = some (.int .u32 7) := (Ya (K16.out.get 2 rfl) 0).trans (St.cR _ 0 (by decide)); have d3 : w14.cell? ⟨w9.heap.size, 0, none⟩ = some (.int .u32 4294967258) := (Ya (K16.out.get 1 rfl) 0).trans (St.cR _ 0 (by decide)); clear hu K15 HE) | (have _t := K16; clear _t; go_at_call 21; refine (Yfs kaM4 a pb 8 4 _ K16.out.m (by decide) (by decide) (by decide) (by decide)).mono ?_; rintro e w15 ⟨v2, rfl, hown, hu⟩; have hcv := Yer hown; rw [ka_p, ka_str] at hcv; have K17 := Yh_ (show Kc w a pb kaM4 c b kaC4 [(w11.heap.size, .cells (Ybm.setR 0 9).cells 39 (0, 0)), (w9.heap.size, .cells (Yad.setR 0 4294967258).cells 39 (0, 0)), (w7.heap.size, .cells (Yad.setR 0 7).cells 39 (0, 0)), (w5.heap.size, .cells (Ybd.setR 0 4).cells 39 (0, 0)), (w3.heap.size, .cells Ybm.cells 39 (0, 0))] w15 from K16.out.quiet hu); have HE3 := Yh_ (HE2.out.keep hu (by simp)); have d2 : w15.cell? ⟨w7.heap.size, 0, none⟩ = some (.int .u32 7) := (Ya (K17.out.get 2 rfl) 0).trans (St.cR _ 0 (by decide)); have d3 : w15.cell? ⟨w9.heap.size, 0, none⟩ = some (.int .u32 4294967258) := (Ya (K17.out.get 1 rfl) 0).trans (St.cR _ 0 (by decide)); have d4 : w15.cell? ⟨ge, oe + 5, none⟩ = some (.string { data := #[104, 101, 108, 108] }) := (by have h := HE3.out.cell 0 (by rw [Yfr]; decide) 5 (by decide); rw [ev_c5, ka_e0s] at h; exact h); have d5 : w15.cell? ⟨ge, oe + 18 + 4, none⟩ = some (.int .u32 9) := (by have h := HE3.out.cell 3 (by rw [Yfr]; decide) 4 (by decide); rw [ev_c4, ka_e3r] at h; exact h); clear hown hu K16 HE2))
 go_ret
 exact ⟨rfl, K17.out.u⟩
end
section
open Go.Maps
theorem Ydo {x : Int} {i : Nat} (h0 : 0 ≤ x) (h : x + i < 4294967296) : Yf x i = x + i := by unfold Yf; omega
structure PkB (P : World → Prop) (L : List Int) (i : Nat) (d : Nat → Bool) (r : Nat → Value) (w : World) : Prop where
 p : P w
 q : d i = true → ∃ g, Ya7 w (r i) L g
section
variable {P : World → Prop} {L : List Int} {i : Nat} {d : Nat → Bool} {r : Nat → Value} {w w1 : World}
theorem PkB.same (h : PkB P L i d r w) (j : Nat) (hj : i ≠ j) : PkB P L i (Yo d j) r w :=
 ⟨h.p, fun e => h.q (by simpa [Yo, hj] using e)⟩
theorem PkB.put (h : PkB P L i d r w) (hP : ∀ w w', P w → Upd [] w w' → P w') (u : Upd [] w w1) {v : Value} (hv : ∃ g, Ya7 w1 v L g) : PkB P L i (Yo d i) (Ya8 r i v) w1 :=
 ⟨hP _ _ h.p u, fun _ => by simpa [Ya8] using hv⟩
end
end
theorem Ygo (a pb : Nat) (p : Int) (w : World) (M : Mem) (hM : Yd w a pb M) :
  Calls Try.prog 32 #[.pointer (some ⟨a, 0, none⟩), .int .i64 p] w fun e w' => e = .returned (.int .i64 (M.rights p)) ∧ w = w' := by
 by_cases h1 : p < 0
 ·clear hM
  go_enter Try.func32, Try.ntmps32
  go_wp2
  go_ret
  exact ⟨by simp [Mem.rights, h1], rfl⟩
 ·by_cases h2 : 64 ≤ p
  ·clear hM
   go_enter Try.func32, Try.ntmps32
   go_wp2
   go_ret
   exact ⟨by simp [Mem.rights, h2], rfl⟩
  ·obtain ⟨c, hc, c0⟩ := hM.c0
   have cR := hM.cR p.toNat (by omega)
   clear hM
   have h1' : 0 ≤ p := by omega
   have h2' : p < 64 := by omega
   go_enter Try.func32, Try.ntmps32
   go_wp2
   go_ret
   refine ⟨?_, rfl⟩
   have : ¬ (p < 0 ∨ 64 ≤ p) := by omega
   simp [Mem.rights, this]
structure AlB (w0 : World) (a pb rr : Nat) (M : Mem) (L : List Int) (d : Nat → Bool) (r : Nat → Value) (w : World) : Prop where
 m : Yd w a pb M
 f : Ym w rr M
 u : Upd [] w0 w
 p : d 15 = true → ∃ g, Ya7 w (r 15) L g
 q : d 21 = true → ∃ g, Ya7 w (r 21) L g
theorem AlB.same {w0 : World} {a pb rr : Nat} {M : Mem} {L : List Int} {d : Nat → Bool} {r : Nat → Value} {w : World} (h : AlB w0 a pb rr M L d r w) (i : Nat) (h1 : i ≠ 15) (h2 : i ≠ 21) : AlB w0 a pb rr M L (Yo d i) r w :=
 ⟨h.m, h.f, h.u, fun e => h.p (by simpa [Yo, h1.symm] using e), fun e => h.q (by simpa [Yo, h2.symm] using e)⟩
theorem AlB.putP {w0 : World} {a pb rr : Nat} {M : Mem} {L : List Int} {d : Nat → Bool} {r : Nat → Value} {w w1 : World} (h : AlB w0 a pb rr M L d r w) (u : Upd [] w w1) {v : Value} (hv : ∃ g, Ya7 w1 v L g) : AlB w0 a pb rr M L (Yo d 15) (Ya8 r 15 v) w1 :=
 ⟨h.m.keep u (by simp) (by simp), h.f.keep u (by simp), h.u.also u (by simp), fun _ => by simpa [Ya8] using hv, fun e => by
  obtain ⟨g, hg⟩ := h.q (by simpa [Yo] using e)
  exact ⟨g, by simpa [Ya8] using hg.keep u (by simp)⟩⟩
theorem AlB.putQ {w0 : World} {a pb rr : Nat} {M : Mem} {L : List Int} {d : Nat → Bool} {r : Nat → Value} {w w1 : World} (h : AlB w0 a pb rr M L d r w) (u : Upd [] w w1) {v : Value} (hv : ∃ g, Ya7 w1 v L g) : AlB w0 a pb rr M L (Yo d 21) (Ya8 r 21 v) w1 :=
 ⟨h.m.keep u (by simp) (by simp), h.f.keep u (by simp), h.u.also u (by simp), fun e => by
  obtain ⟨g, hg⟩ := h.p (by simpa [Yo] using e)
  exact ⟨g, by simpa [Ya8] using hg.keep u (by simp)⟩, fun _ => by simpa [Ya8] using hv⟩
theorem Yg3 (M : Mem) (x : Int) (h0 : 0 ≤ x) (h : x < 64) : M.rights x = M.R x.toNat := by rw [Mem.rights, if_neg (by omega)]
theorem Yaf (M : Mem) (a pb rr : Nat) (w : World) (hM : Yd w a pb M) (hR : Ym w rr M) :
  Calls Try.prog 12 #[.pointer (some ⟨a, 0, none⟩), .pointer (some ⟨rr, 0, none⟩)] w fun e w' => e = .returned (.bool true) ∧ Upd [] w w' := by
 have hmo : Try.prog.follows .mixedOrders = true := by kernel_rfl
 have HM := Yh_ hM
 have HR := Yh_ hR
 clear hM hR
 go_enter Try.func12, Try.ntmps12
 go_wp2_with fail
 go_loopw [5] (fun i wr => ∃ x : Int, 0 ≤ x ∧ x ≤ 64 ∧ i = .int .i64 x ∧ Upd [] w wr) (fun i _ => 64 - (intOf i).toNat)
 case atStart => exact ⟨0, by decide, by decide, rfl, Upd.refl _ _⟩
 case round =>
  obtain ⟨x, hx0, hx1, rfl, hU⟩ := hrel
  have HU := Yh_ hU
  clear hU
  by_cases hlt : x < 64
  ·have HRi := Yh_ (Yg3 M x hx0 hlt)
   have q1 : x * 256 % 4294967296 = x * 256 := by omega
   have q2 : 0 ≤ x * 256 := by omega
   have q3 : x * 256 < 4294967296 := by omega
   obtain ⟨S, hS⟩ : ∃ S, strOfNums (M.peek (x * 256) 256) = S := ⟨_, rfl⟩
   have HS := Yh_ hS
   clear hS
   go_wp2_with fail
   refine Yau 25 (AlB w a pb rr M (M.peek (x * 256) 256)) (fun _ _ => False) (by kernel_rfl) (by kernel_rfl) (fun r0 => ⟨(HM.out.keep HU.out (by simp) (by simp)).drew, (HR.out.keep HU.out (by simp)).drew, HU.out.drew, by simp, by simp⟩) (fun _ _ _ h => h.elim) ?_
   simp only [List.take_succ_cons, List.take_zero, List.drop_succ_cons, List.drop_zero]
   iterate 15
    apply Yb rfl rfl
    ·intro d r0 K hd hdep hK w1 hB1
     have cR := hB1.f.cR x.toNat (by omega)
     have HB := Yh_ hB1
     clear hB1 hdep
     go_wp2_with (go_at_call 32; refine (Ygo a pb x _ M HB.out.m).mono ?_; rintro e w2 ⟨rfl, rfl⟩; rw [HRi.out])
     first
     |exact hK _ (HB.out.same _ (by decide) (by decide))
     |exact HB.out.same _ (by decide) (by decide)
    ·exact ⟨_, rfl⟩
   refine Yb9 rfl (fun _ => rfl) 25 rfl (by simp [Act.put]) ?_ ?_
   ·intro d r0 K hd w1 hB1 hK
    have HB := Yh_ hB1
    clear hB1
    simp only [Yh]
    go_wp2_with fail
    refine (Yfs M a pb (x * 256) 256 _ HB.out.m q2 q3 (by decide) (by decide)).mono ?_
    rintro e w2 ⟨v, rfl, ho, hu⟩
    exact hK v w2 (HB.out.putP hu (Yfw ho))
   apply Ybr rfl (fun _ => rfl)
   ·intro d r0 K hd hdep hK w1 hB1
    have h15 : d 15 = true := hdep ⟨15, .data⟩ (by simp) rfl
    obtain ⟨g, hg⟩ := hB1.p h15
    have hcv := Ydx hg
    rw [HS.out] at hcv
    have HB := Yh_ hB1
    clear hB1 hdep hg
    show Oper.wp _ _ (Act.put (Yh _ _ [] _) (some 25) (r0 15)) _ _ _
    simp only [Yh]
    go_wp2_with fail
    first
    |exact hK _ (HB.out.same _ (by decide) (by decide))
    |exact HB.out.same _ (by decide) (by decide)
   ·exact ⟨_, fun _ => rfl, Eq.symm (by go_simp; exact rfl)⟩
   iterate 4
    apply Ybr rfl (fun _ => rfl)
    ·intro d r0 K hd hdep hK w1 hB1
     have HB := Yh_ hB1
     clear hB1 hdep
     show Oper.wp _ _ (Act.put (Yh _ _ [] _) (some 25) (r0 15)) _ _ _
     simp only [Yh]
     go_wp2_with fail
     first
     |exact hK _ (HB.out.same _ (by decide) (by decide))
     |exact HB.out.same _ (by decide) (by decide)
    ·exact ⟨_, fun _ => rfl, Eq.symm (by go_simp; exact rfl)⟩
   refine Yb9 rfl (fun _ => rfl) 31 rfl (by simp [Act.put]) ?_ ?_
   ·intro d r0 K hd w1 hB1 hK
    have HB := Yh_ hB1
    clear hB1
    show Oper.wp _ _ (Act.put (Yh _ _ [] _) (some 25) (r0 15)) _ _ _
    simp only [Yh]
    go_wp2_with fail
    refine (Peek_ref M rr (x * 256) 256 _ HB.out.f q2 q3).mono ?_
    rintro e w2 ⟨v, rfl, ho, hu⟩
    exact hK v w2 (HB.out.putQ hu (Yfw ho))
   apply Ybr rfl (fun _ => rfl)
   ·intro d r0 K hd hdep hK w1 hB1
    have h21 : d 21 = true := hdep ⟨21, .data⟩ (by simp) rfl
    obtain ⟨g, hg⟩ := hB1.q h21
    have hcv := Ydx hg
    rw [HS.out] at hcv
    have HB := Yh_ hB1
    clear hB1 hdep hg
    show Oper.wp _ _ (Act.put (Act.put (Yh _ _ [] _) (some 25) (r0 15)) (some 31) (r0 21)) _ _ _
    simp only [Yh]
    go_wp2_with fail
    first
    |exact hK _ (HB.out.same _ (by decide) (by decide))
    |exact HB.out.same _ (by decide) (by decide)
   ·exact ⟨_, fun _ => rfl, Eq.symm (by go_simp; exact rfl)⟩
   iterate 2
    apply Ybr rfl (fun _ => rfl)
    ·intro d r0 K hd hdep hK w1 hB1
     have HB := Yh_ hB1
     clear hB1 hdep
     show Oper.wp _ _ (Act.put (Act.put (Yh _ _ [] _) (some 25) (r0 15)) (some 31) (r0 21)) _ _ _
     simp only [Yh]
     go_wp2_with fail
     first
     |exact hK _ (HB.out.same _ (by decide) (by decide))
     |exact HB.out.same _ (by decide) (by decide)
    ·exact ⟨_, fun _ => rfl, Eq.symm (by go_simp; exact rfl)⟩
   refine Yah (fun _ r0 w1 d hall hB1 => ?_)
   show wpList _ _ _ _ (Act.put (Act.put (Yh _ _ [] _) (some 25) (r0 15)) (some 31) (r0 21)) _
   simp only [Yh]
   have HB := Yh_ hB1
   clear hB1
   go_wp2_with fail
   go_roundw
   case rel => exact ⟨x + 1, by omega, by omega, rfl, HB.out.u⟩
   case measure => simp [intOf]; omega
  ·go_wp2_with fail
   go_ret
   exact ⟨rfl, HU.out⟩
section
open Go.Maps Go.WideShapes Go.ChangeShapes
structure Rws (w : World) (v : Value) (m n : Nat) (F : Nat → Nat → Value) : Prop where
 form : (∃ a c, v = .slice a 0 c ∧ n = 0) ∨ ∃ g o c, v = .slice (some ⟨g, o, none⟩) n c ∧ g < w.heap.size ∧ ∀ i, i < n → ∀ j, j < m → w.cell? ⟨g, o + i * m + j, none⟩ = some (F i j)
 len : n ≤ maxLen
theorem Rws.shape {w : World} {v : Value} {m n : Nat} {F : Nat → Nat → Value} (h : Rws w v m n F) : ∃ a c, v = .slice a n c := by
 rcases h.form with ⟨a, c, h1, h2⟩ | ⟨g, o, c, h1, _⟩
 ·exact ⟨a, c, by rw [h1, h2]⟩
 ·exact ⟨_, c, h1⟩
theorem Rws.cell {w : World} {a : Option Addr} {k c m n : Nat} {F : Nat → Nat → Value} (h : Rws w (.slice a k c) m n F) (hn : 0 < n) : ∃ g o, a = some ⟨g, o, none⟩ ∧ k = n ∧ ∀ w', Upd [] w w' → ∀ i, i < n → ∀ j, j < m → w'.cell? ⟨g, o + i * m + j, none⟩ = some (F i j) := by
 rcases h.form with ⟨a, c, h1, h2⟩ | ⟨g, o, c, h1, h2, h3⟩
 ·omega
 ·injection h1 with e1 e2 _
  exact ⟨g, o, e1, e2, fun w' u i hi j hj => by rw [← h3 i hi j hj]; unfold World.cell?; rw [u.block g h2 (by simp)]⟩
theorem open_rws {H : Type} {enc : TypeId × Value → H} {w : World} {t e : TypeId} (m : Nat) (lf : Nat → Leaf) (ht : Try.prog.underlying t = some (.slice e)) (hm : Try.prog.cellsOf e = m) (h0 : 0 < m) (hl : ∀ j, j < m → Ybi Try.prog 8 e j = some (lf j)) {b0 : Nat} {v : Value} {d : DataW H} {p : List MemPlace}
  (hval : Value.okWide Try.prog w .any b0 t v) (h : DataW.Trod enc Try.prog w 0 (fun _ => true) true t v d p) : ∃ n F, Rws w v m n F ∧ ∀ i, i < n → ∀ j, j < m → Yc4 (lf j) (F i j) := by
 obtain ⟨fuel, hf⟩ := h
 obtain ⟨a1, len, cap, rfl⟩ := okWide_slice ht hval
 rcases DataW.trod_slice ht hf with ⟨hcs, hx⟩ | ⟨⟨ab, ao, sp⟩, len', cap', elems, rest, n, _, hcs, _, _, hl2, hmx, hel, he, _, _⟩
 ·simp [Value.cells] at hcs
  obtain ⟨rfl, rfl, rfl⟩ := hcs
  exact ⟨0, fun _ _ => undef, ⟨.inl ⟨_, _, rfl, rfl⟩, Nat.zero_le _⟩, fun i hi => by omega⟩
 ·simp [Value.cells] at hcs
  obtain ⟨rfl, rfl, rfl⟩ := hcs
  by_cases hz : len = 0
  ·subst hz
   exact ⟨0, fun _ _ => undef, ⟨.inl ⟨_, _, rfl, rfl⟩, Nat.zero_le _⟩, fun i hi => by omega⟩
  ·have hsp : sp = none ∧ ab < w.heap.size := by
    have h := he 0 (by omega)
    obtain ⟨y, hy⟩ : ∃ y, elems[0]? = some y := ⟨_, List.getElem?_eq_getElem (by omega)⟩
    rw [hy, hm, Option.bind_eq_some_iff] at h
    obtain ⟨cs', hcs', _⟩ := h
    have hb := World.cells?_block hcs' h0
    have hl3 := (World.cells?_some hcs').2.1
    have hc := (World.cells?_some hcs').2.2 0 h0
    rw [Nat.zero_mul] at hc hb
    rw [show ((⟨ab, ao, sp⟩ : Addr).add 0).add 0 = ⟨ab, ao, sp⟩ from rfl, List.getElem?_eq_getElem (by omega)] at hc
    exact ⟨(Ygz hc).1, hb⟩
   obtain ⟨rfl, hlt⟩ := hsp
   have each : ∀ i, i < len → ∀ j, j < m → ∃ x, w.cell? ⟨ab, ao + i * m + j, none⟩ = some x ∧ Yc4 (lf j) x := by
    intro i hi
    have h := he i hi
    obtain ⟨y, hy⟩ : ∃ y, elems[i]? = some y := ⟨_, List.getElem?_eq_getElem (by omega)⟩
    rw [hy, hm, Addr.add_lit, Option.bind_eq_some_iff] at h
    obtain ⟨cs, hcs, hy2⟩ := h
    obtain ⟨_, hl3, hc⟩ := World.cells?_some hcs
    intro j hj
    obtain ⟨x, hx, hok⟩ := Ydb 8 _ _ _ _ j (lf j) hy2 (hl j hj)
    refine ⟨x, ?_, hok⟩
    have h1 := hc j hj
    rw [Addr.add_lit] at h1
    rw [h1, hx]
   have hF : ∀ i, ∃ f : Nat → Value, i < len → ∀ j, j < m → w.cell? ⟨ab, ao + i * m + j, none⟩ = some (f j) ∧ Yc4 (lf j) (f j) := by
    intro i
    by_cases hi : i < len
    ·have h1 : ∀ j, ∃ x, j < m → w.cell? ⟨ab, ao + i * m + j, none⟩ = some x ∧ Yc4 (lf j) x := fun j => by
      by_cases hj : j < m
      ·obtain ⟨x, hx⟩ := each i hi j hj
       exact ⟨x, fun _ => hx⟩
      ·exact ⟨undef, fun h => absurd h hj⟩
     obtain ⟨f, hf⟩ := Classical.axiomOfChoice h1
     exact ⟨f, fun _ j hj => hf j hj⟩
    ·exact ⟨fun _ => undef, fun h => absurd h hi⟩
   obtain ⟨F, hF⟩ := Classical.axiomOfChoice hF
   exact ⟨len, F, ⟨.inr ⟨ab, ao, cap, rfl, hlt, fun i hi j hj => (hF i hi j hj).1⟩, by omega⟩, fun i hi j hj => (hF i hi j hj).2⟩
theorem Ygu {H : Type} {enc : TypeId × Value → H} {w : World} {t : TypeId} (ht : Try.prog.underlying t = some (.slice 41)) {b0 : Nat} {v : Value} {d : DataW H} {p : List MemPlace}
  (hval : Value.okWide Try.prog w .any b0 t v) (h : DataW.Trod enc Try.prog w 0 (fun _ => true) true t v d p) : ∃ (n : Nat) (f : Nat → Nat → Int), Rws w v 4 n (fun i j => .int .u32 (f i j)) ∧ ∀ i, i < n → ∀ j, j < 4 → 0 ≤ f i j ∧ f i j < 4294967296 := by
 have l0 : Ybi Try.prog 8 41 0 = some (.int .u32) := by kernel_rfl
 have l1 : Ybi Try.prog 8 41 1 = some (.int .u32) := by kernel_rfl
 have l2 : Ybi Try.prog 8 41 2 = some (.int .u32) := by kernel_rfl
 have l3 : Ybi Try.prog 8 41 3 = some (.int .u32) := by kernel_rfl
 have hl : ∀ j, j < 4 → Ybi Try.prog 8 41 j = some (.int .u32) := by
  intro j hj
  have hj' : j = 0 ∨ j = 1 ∨ j = 2 ∨ j = 3 := by omega
  rcases hj' with rfl | rfl | rfl | rfl
  ·exact l0
  ·exact l1
  ·exact l2
  ·exact l3
 obtain ⟨n, F, h1, h2⟩ := open_rws 4 (fun _ => .int .u32) ht (by kernel_rfl) (by decide) hl hval h
 have h3 : ∀ i j, ∃ z : Int, i < n → j < 4 → F i j = .int .u32 z ∧ 0 ≤ z ∧ z < 4294967296 := fun i j => by
  by_cases hi : i < n ∧ j < 4
  ·obtain ⟨z, hz, hw⟩ := h2 i hi.1 j hi.2
   exact ⟨z, fun _ _ => ⟨hz, wf_word hw⟩⟩
  ·exact ⟨0, fun a b => absurd ⟨a, b⟩ hi⟩
 obtain ⟨f, hf⟩ : ∃ f : Nat → Nat → Int, ∀ i j, i < n → j < 4 → F i j = .int .u32 (f i j) ∧ 0 ≤ f i j ∧ f i j < 4294967296 := by
  obtain ⟨f, hf⟩ := Classical.axiomOfChoice (fun i => Classical.axiomOfChoice (h3 i))
  exact ⟨f, hf⟩
 refine ⟨n, f, ⟨?_, h1.len⟩, fun i hi j hj => (hf i j hi hj).2⟩
 rcases h1.form with h | ⟨g, o, c, e1, e2, e3⟩
 ·exact .inl h
 ·exact .inr ⟨g, o, c, e1, e2, fun i hi j hj => by rw [e3 i hi j hj, (hf i j hi hj).1]⟩
section
variable {w w1 w2 : World} {a pb c b rb : Nat} {M N : Mem} {C : Cd} {L : List (Nat × Obj)} {CR : Array Value}
theorem Kc.tail {p : Nat × Obj} (h : Kc w a pb M c b C (p :: L) w1) : Kc w a pb M c b C L w1 := by
 obtain ⟨g, h1, h2, h3, h4, h5⟩ := h.cc
 exact ⟨h.m, ⟨g, h1, h2, h3, h4, fun q hq => h5 q (List.mem_cons_of_mem _ hq)⟩, h.u, fun q hq => h.v q (List.mem_cons_of_mem _ hq), (List.pairwise_cons.1 h.s).2, fun q hq => h.t q (List.mem_cons_of_mem _ hq), h.o, h.ne⟩
theorem Kc.ref (h : Kc w a pb M c b C L w1) (n : Nat) (hn : L[n]? = some (rb, .cells CR 30 (0, 0))) (hh : Ybk CR N ∧ N.Ok) : Ym w1 rb N := ⟨⟨CR, hh.1, h.get n hn⟩, hh.2⟩
theorem Kc.refPut (h : Kc w a pb M c b C L w1) (n : Nat) (hn : L[n]? = some (rb, .cells CR 30 (0, 0))) (hr : Ym w2 rb N) (u : Upd [rb] w1 w2) : ∃ C', (Ybk C' N ∧ N.Ok) ∧ Kc w a pb M c b C (L.set n (rb, .cells C' 30 (0, 0))) w2 := by
 obtain ⟨⟨C', h1, h2⟩, h3⟩ := hr
 exact ⟨C', ⟨h1, h3⟩, h.put n hn u h2⟩
end
end
section
open Go.Maps
def crM : Mem := Mem.zero.mapM 0 2 3
def crB (b : Int) : St := ((St.zero.setR 0 3).setR 1 16).setR 2 b
theorem cr_map : Mem.zero.mapB 0 2 3 = true := by decide +kernel
theorem cr_R (p : Nat) : crM.R p = if p < 2 then 3 else 0 := by
 unfold crM Mem.mapM
 rw [cr_map]
 simp only [Mem.mapN, if_true, Mem.zero]
 by_cases h : p < 2
 ·rw [if_pos h, if_pos (by simp; omega)]
 ·rw [if_neg h, if_neg (by simp; omega)]
theorem cr_can {M : Mem} (hM : M.R = crM.R) (x : Int) (h0 : 0 ≤ x) (h1 : x < 512) : M.can x 2 = true := by
 unfold Mem.can
 rw [hM, cr_R, if_pos (by omega), decide_eq_true (by omega)]
 decide
theorem Yhb {M : Mem} (hM : M.R = crM.R) (x : Int) (h0 : 0 ≤ x) (h1 : x < 512) : M.mappedB x = true := by
 unfold Mem.mappedB
 rw [hM, cr_R, if_pos (by omega)]
 simp; omega
theorem writeM1 (M : Mem) (x v : Int) (h0 : 0 ≤ x) (h1 : x < 4294967296) (hc : M.can x 2 = true) (y : Nat) : (M.writeM x 1 v).B y = if y = x.toNat then v % 256 else M.B y := by
 have e1 : Yf x 0 = x := by unfold Yf; omega
 have e2 : (Yt 1).toNat = 1 := by decide
 have hb : M.bad x 2 (Yt 1).toNat = none := by
  rw [e2, Mem.bad, List.find?_eq_none]
  intro t ht
  have : t = 0 := by simpa using ht
  subst this
  rw [e1, hc]; decide
 unfold Mem.writeM
 rw [hb]
 simp only [e2, Mem.putN, Mem.setB]
 rw [e1]
 simp
theorem rdMem_B {M : Mem} (hM : M.R = crM.R) (L : List Int) (hL : ∀ i, 0 ≤ L.getD i 0 ∧ L.getD i 0 ≤ 255) (k : Nat) : k ≤ 64 → ∀ i, i < k → (Yy M 16 L k).B (16 + i) = L.getD i 0 := by
 induction k with
 |zero => intro _ i hi; omega
 |succ k ih =>
  intro hk i hi
  have hR : (Yy M 16 L k).R = crM.R := by rw [Ycr, hM]
  have e1 : Yf 16 k = 16 + (k : Int) := Ydo (by omega) (by omega)
  rw [Yy, e1, writeM1 _ _ _ (by omega) (by omega) (cr_can hR _ (by omega) (by omega))]
  by_cases h : i = k
  ·subst h
   rw [if_pos (by omega)]
   have := hL i
   omega
  ·rw [if_neg (by omega)]
   exact ih (by omega) i (by omega)
theorem Yf5 (s : ByteArray) : (Yi s).length = s.size := by
 unfold Yi; rw [List.length_map, Array.length_toList]; rfl
theorem Ygd (s : ByteArray) (i : Nat) : 0 ≤ (Yi s).getD i 0 ∧ (Yi s).getD i 0 ≤ 255 := by
 rw [List.getD_eq_getElem?_getD]
 cases h : (Yi s)[i]? with
 |none => show (0 : Int) ≤ 0 ∧ (0 : Int) ≤ 255; omega
 |some x =>
  have hm := List.mem_of_getElem? h
  rw [Yi, List.mem_map] at hm
  obtain ⟨b, _, rfl⟩ := hm
  have := b.toNat_lt
  show 0 ≤ (b.toNat : Int) ∧ (b.toNat : Int) ≤ 255
  omega
theorem rd_peek {M : Mem} (hM : M.R = crM.R) (s : ByteArray) (hs : s.size ≤ 64) : strOfNums ((Yy M 16 (Yi s) s.size).peek 16 s.size) = s := by
 have hR : (Yy M 16 (Yi s) s.size).R = crM.R := by rw [Ycr, hM]
 have e : (Yy M 16 (Yi s) s.size).peek 16 s.size = Yi s := by
  unfold Mem.peek
  rw [show (min (s.size : Int) 16384).toNat = s.size by omega, Ycl _ _ _ (fun t ht => by rw [Ydo (by decide) (by omega)]; exact Yhb hR _ (by omega) (by omega))]
  apply List.ext_getElem
  ·rw [Ybu, Yf5]
  ·intro i h1 h2
   rw [Ybu] at h1
   simp only [Mem.peekL, List.getElem_map, List.getElem_range]
   rw [Ydo (by decide) (by omega), show ((16 : Int) + i).toNat = 16 + i by omega, rdMem_B hM _ (Ygd s) _ hs i h1, List.getD_eq_getElem?_getD, List.getElem?_eq_getElem h2]
   rfl
 rw [e, Ygw]
structure CrI (inp : ByteArray) (rep : List Int) (M : Mem) (C : Cd) (q G asked : Nat) : Prop where
 r : M.R = crM.R
 l : C.l = rep.drop asked
 i : C.i = inp.extract G inp.size
 n : C.L.length = q
 g : G ≤ inp.size
section
variable {inp : ByteArray} {rep : List Int} {M : Mem} {C : Cd} {q G asked : Nat}
theorem CrI.get (h : CrI inp rep M C q G asked) (b : Int) (hb : 0 ≤ b ∧ b < 256) (N : Nat) (hN : N = min (min b 64).toNat (inp.size - G)) :
  CrI inp rep (doM M (crB b) C) (doC M (crB b) C) (q + 1) (G + N) asked ∧ doR M (crB b) C = N ∧ strOfNums ((doM M (crB b) C).peek 16 N) = inp.extract G (G + N) := by
 have e0 : (crB b).R 0 = 3 := rfl
 have e1 : (crB b).R 1 = 16 := rfl
 have e2 : (crB b).R 2 = b := rfl
 have hg := h.g
 have hz : C.i.size = inp.size - G := by rw [h.i, ByteArray.size_extract]; omega
 have eN : rdN C.i b = N := by unfold rdN; rw [hz, hN]
 have hK : rdK M 16 N = true := by
  unfold rdK
  rw [List.all_eq_true]
  intro i hi
  have := List.mem_range.1 hi
  rw [Ydo (by decide) (by omega)]
  exact cr_can h.r _ (by omega) (by omega)
 have eS : C.i.extract 0 N = inp.extract G (G + N) := by
  rw [h.i, ByteArray.extract_extract]
  congr 1
  omega
 have hsz : (inp.extract G (G + N)).size = N := by rw [ByteArray.size_extract]; omega
 have eM : doM M (crB b) C = Yy M 16 (Yi (inp.extract G (G + N))) N := by
  unfold doM
  rw [if_pos e0, e1, e2, eN, hK, if_pos rfl, eS]
 refine ⟨⟨?_, ?_, ?_, ?_, by omega⟩, ?_, ?_⟩
 ·rw [eM, Ycr, h.r]
 ·show doL (crB b) C = _
  unfold doL; rw [e0]; exact h.l
 ·show doI M (crB b) C = _
  unfold doI
  rw [if_pos e0, e1, e2, eN, hK, if_pos rfl, hz, h.i, ByteArray.extract_extract]
  congr 1
  omega
 ·show (C.L ++ [_]).length = _
  rw [List.length_append, h.n]; rfl
 ·unfold doR
  rw [e0, e1, e2, eN, hK]; rfl
 ·have := rd_peek h.r (inp.extract G (G + N)) (by rw [hsz]; omega)
  rw [hsz] at this
  rw [eM]
  exact this
theorem CrI.start (inp : ByteArray) (rep : List Int) : CrI inp rep crM ⟨rep, inp, []⟩ 0 0 0 :=
 ⟨rfl, rfl, by simp, rfl, Nat.zero_le _⟩
end
def stD (s : St) (i1 i2 i3 r1 r2 r3 : Nat) (v1 v2 v3 : Int) (d : Nat → Bool) : St :=
 { s with R := fun j => if j = r1 then cond (d i1) v1 (s.R j) else if j = r2 then cond (d i2) v2 (s.R j) else if j = r3 then cond (d i3) v3 (s.R j) else s.R j }
section
variable {s : St} {i1 i2 i3 r1 r2 r3 : Nat} {v1 v2 v3 : Int} {d : Nat → Bool}
theorem stD_same (j : Nat) (h1 : i1 ≠ j) (h2 : i2 ≠ j) (h3 : i3 ≠ j) : stD s i1 i2 i3 r1 r2 r3 v1 v2 v3 (Yo d j) = stD s i1 i2 i3 r1 r2 r3 v1 v2 v3 d := by
 unfold stD; simp [Yo, h1, h2, h3]
theorem stD_1 (h2 : i2 ≠ i1) (h3 : i3 ≠ i1) : (stD s i1 i2 i3 r1 r2 r3 v1 v2 v3 d).setR r1 v1 = stD s i1 i2 i3 r1 r2 r3 v1 v2 v3 (Yo d i1) := by
 unfold stD St.setR; simp only [St.mk.injEq, and_true]; funext j
 by_cases a1 : j = r1 <;> simp [Yo, h2, h3, a1]
theorem stD_2 (h1 : i1 ≠ i2) (h3 : i3 ≠ i2) (hr : r2 ≠ r1) : (stD s i1 i2 i3 r1 r2 r3 v1 v2 v3 d).setR r2 v2 = stD s i1 i2 i3 r1 r2 r3 v1 v2 v3 (Yo d i2) := by
 unfold stD St.setR; simp only [St.mk.injEq, and_true]; funext j
 by_cases a1 : j = r2
 ·subst a1; simp [Yo, h1, h3, hr]
 ·simp [Yo, h1, h3, a1]
theorem stD_3 (h1 : i1 ≠ i3) (h2 : i2 ≠ i3) (hr : r3 ≠ r1) (hr2 : r3 ≠ r2) : (stD s i1 i2 i3 r1 r2 r3 v1 v2 v3 d).setR r3 v3 = stD s i1 i2 i3 r1 r2 r3 v1 v2 v3 (Yo d i3) := by
 unfold stD St.setR; simp only [St.mk.injEq, and_true]; funext j
 by_cases a1 : j = r3
 ·subst a1; simp [Yo, h1, h2, hr, hr2]
 ·simp [Yo, h1, h2, a1]
theorem stD_none : stD s i1 i2 i3 r1 r2 r3 v1 v2 v3 (fun _ => false) = s := by
 unfold stD; cases s; simp
theorem stD_all (h1 : d i1 = true) (h2 : d i2 = true) (h3 : d i3 = true) (n1 : r2 ≠ r1) (n2 : r3 ≠ r1) (n3 : r3 ≠ r2) : stD s i1 i2 i3 r1 r2 r3 v1 v2 v3 d = ((s.setR r1 v1).setR r2 v2).setR r3 v3 := by
 unfold stD St.setR; simp only [h1, h2, h3, cond, St.mk.injEq, and_true]; funext j
 by_cases a1 : j = r1
 ·subst a1; simp [Ne.symm n1, Ne.symm n2]
 ·by_cases a2 : j = r2
  ·subst a2; simp [n1, Ne.symm n3]
  ·simp [a1, a2]
end
end
end Go.Proofs.Ytdgclmibbmofcaa
