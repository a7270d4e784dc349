/-
  Parts of the proof (their names shortened by a program). No condition.
-/
import Derived.Test.YtchoedlinimeaaaMg01
import Derived.Test.YtchoedlinimeaaaMg08
import Derived.Test.YtchoedlinimeaaaMg04
import Derived.Test.YtchoedlinimeaaaMg03
namespace Go.Proofs.Ytchoedlinimeaaa
open Go Go.RowKit
set_option linter.unusedVariables false
set_option linter.unusedSimpArgs false
set_option maxRecDepth 100000
set_option maxHeartbeats 16000000
section
open Go.Maps
def evD (D : DataW Value) (n : Nat) (e : Ev) : DataW Value := (D.put (.int .i64 n) (.held e.val)).del (.int .i64 ((n : Int) - 200))
theorem Ydk (x : Lit × DataW Value) : ∀ (l : List (Lit × DataW Value)) p, p ∈ DataW.insert x l → p = x ∨ p ∈ l
 |[], p, h => by simp [DataW.insert] at h; exact .inl h
 |y :: r, p, h => by
  unfold DataW.insert at h
  split at h
  ·rcases List.mem_cons.1 h with h | h
   ·exact .inl h
   ·exact .inr h
  ·rcases List.mem_cons.1 h with h | h
   ·exact .inr (by rw [h]; simp)
   ·rcases Ydk x r p h with h | h
    ·exact .inl h
    ·exact .inr (List.mem_cons_of_mem _ h)
structure Yba (D : DataW Value) (L : List Ev) : Prop where
 t : Tidy D
 k : ∀ es, D = .map es → ∀ p ∈ es, ∃ x : Int, p.1 = .int .i64 x
 h : ∀ x : Int, has D (.int .i64 x) = decide (0 ≤ x ∧ x < L.length ∧ L.length ≤ x + 200)
 e : ∀ i : Nat, i < L.length → L.length ≤ i + 200 → ∀ z, D.atKey (.int .i64 i) z = .held (L.getD i Ev.zero).val
theorem Yba.start : Yba (.map []) [] :=
 ⟨tidy_empty, fun es he p hp => by cases he; simp at hp, fun x => by simp [has]; omega, fun i hi => by simp at hi⟩
theorem Yd7 {a b : Int} (h : a ≠ b) : (Lit.int .i64 a) ≠ .int .i64 b := fun e => by injection e with _ e; exact h e
theorem Yba.step {D : DataW Value} {L : List Ev} (h : Yba D L) (e : Ev) : Yba (evD D L.length e) (L ++ [e]) := by
 have hI : IsMap D := h.t.isMap
 refine ⟨(h.t.put (by simp [WideAt.IsKeyLit]) _).del _, ?_, fun x => ?_, fun i hi hi2 z => ?_⟩
 ·obtain ⟨es, hD⟩ := hI
  subst hD
  intro es' he p hp
  simp only [evD, DataW.put, DataW.del, DataW.map.injEq] at he
  subst he
  rcases Ydk _ _ _ (List.mem_filter.1 hp).1 with rfl | hp
  ·exact ⟨_, rfl⟩
  ·exact h.k es rfl p (List.mem_filter.1 hp).1
 ·unfold evD
  rw [List.length_append, List.length_singleton]
  by_cases h1 : x = (L.length : Int) - 200
  ·subst h1
   rw [has_del_same]
   symm; rw [decide_eq_false_iff_not]; omega
  ·rw [has_del_other (Yd7 h1)]
   by_cases h2 : x = (L.length : Int)
   ·subst h2
    rw [has_put_same hI (by simp [WideAt.IsKeyLit])]
    symm; rw [decide_eq_true_eq]; omega
   ·rw [has_put_other (Yd7 h2), h.h]
    apply decide_eq_decide.2
    omega
 ·unfold evD
  rw [List.length_append, List.length_singleton] at hi hi2
  rw [atKey_del_other (Yd7 (by omega))]
  by_cases h2 : i = L.length
  ·subst h2
   rw [atKey_put_same hI (by simp [WideAt.IsKeyLit])]
   simp
  ·rw [atKey_put_other (Yd7 (by omega)), h.e i (by omega) (by omega)]
   simp [List.getElem?_append_left (show i < L.length by omega)]
def Ybn (n : Nat) : List Int := (List.range (min n 200)).map fun i => ((n - 200 + i : Nat) : Int)
theorem Yba.keys {D : DataW Value} {L : List Ev} (h : Yba D L) : (Ybn L.length).Perm (intKeys D) := by
 obtain ⟨es, rfl, hp⟩ := h.t
 refine perm_intKeys hp (h.k es rfl) ?_ fun x => ?_
 ·unfold Ybn
  refine List.pairwise_map.2 (List.nodup_range.imp fun {a b} hab => ?_)
  omega
 ·rw [h.h, decide_eq_true_eq, Ybn, List.mem_map]
  constructor
  ·rintro ⟨i, hi, rfl⟩
   have := List.mem_range.1 hi
   omega
  ·rintro ⟨h1, h2, h3⟩
   exact ⟨x.toNat - (L.length - 200), List.mem_range.2 (by omega), by omega⟩
theorem Yba.sorted {D : DataW Value} {L : List Ev} (h : Yba D L) : Yam (intKeys D) = Ybn L.length := by
 show (intKeys D).mergeSort (fun x y => decide (x ≤ y)) = _
 rw [← mergeSort_of_perm_i h.keys]
 refine List.mergeSort_of_pairwise ?_
 unfold Ybn
 refine List.pairwise_map.2 (List.pairwise_lt_range.imp fun {a b} hab => ?_)
 simp; omega
theorem Yba.size {D : DataW Value} {L : List Ev} (h : Yba D L) : Maps.size D ≤ 1000 := by
 rw [Yel D h.t.isMap, ← h.keys.length_eq, Ybn]
 simp; omega
theorem Yba.evAt {D : DataW Value} {L : List Ev} (h : Yba D L) : EvAt D (fun k => L.getD k.toNat Ev.zero) := by
 intro k hk
 have h1 := h.keys.mem_iff.2 hk
 unfold Ybn at h1
 obtain ⟨i, hi, rfl⟩ := List.mem_map.1 h1
 have := List.mem_range.1 hi
 rw [h.e _ (by omega) (by omega)]
 simp only [Int.toNat_natCast]
theorem Yfm (L : List Ev) : (Ybn L.length).map (fun k => L.getD k.toNat Ev.zero) = L.drop (L.length - 200) := by
 apply List.ext_getElem
 ·simp [Ybn]; omega
 ·intro i h1 h2
  simp [Ybn] at h1 h2 ⊢
  rw [List.getElem?_eq_getElem (by omega)]
  rfl
structure Cd where
 l : List Int
 i : ByteArray
 L : List Ev
def IsC (w : World) (c b g : Nat) (C : Cd) : Prop := ∃ D, Yar w c b g C.l C.i C.L.length C.L.length D ∧ Yba D C.L
theorem IsC.keep {w w' : World} {c b g : Nat} {C : Cd} {S : List Nat} (h : IsC w c b g C) (u : Upd S w w') (hc : c ∉ S) (hb : b ∉ S) (hg : g ∉ S) : IsC w' c b g C := by
 obtain ⟨D, h1, h2⟩ := h
 exact ⟨D, h1.keep u hc hb hg, h2⟩
def doR (M : Mem) (s : St) (C : Cd) : Int :=
 if s.R 0 = 1 then s.R 3 else if s.R 0 = 3 then (if rdK M (s.R 1) (rdN C.i (s.R 2)) = true then (rdN C.i (s.R 2) : Int) else 4294967282)
 else if s.R 0 = 4 then wrR M (s.R 1) (s.R 2) else if s.R 0 = 91 ∨ s.R 0 = 125 ∨ s.R 0 = 192 then chR M (s.R 0) (s.R 3) (s.R 1) (s.R 2)
 else match C.l with | [] => 4294967258 | x :: _ => x
def doS (M : Mem) (s : St) (C : Cd) : ByteArray :=
 if s.R 0 = 3 then (if rdK M (s.R 1) (rdN C.i (s.R 2)) = true then C.i.extract 0 (rdN C.i (s.R 2)) else ByteArray.empty)
 else if s.R 0 = 4 then wrS M (s.R 1) (s.R 2) else ByteArray.empty
def doI (M : Mem) (s : St) (C : Cd) : ByteArray :=
 if s.R 0 = 3 then (if rdK M (s.R 1) (rdN C.i (s.R 2)) = true then C.i.extract (rdN C.i (s.R 2)) C.i.size else C.i) else C.i
def doM (M : Mem) (s : St) (C : Cd) : Mem :=
 if s.R 0 = 3 then (if rdK M (s.R 1) (rdN C.i (s.R 2)) = true then Yab M (s.R 1) (Ym (C.i.extract 0 (rdN C.i (s.R 2)))) (rdN C.i (s.R 2)) else M)
 else if s.R 0 = 91 ∨ s.R 0 = 125 ∨ s.R 0 = 192 then chM M (s.R 0) (s.R 3) (s.R 1) (s.R 2) else M
def Ycd (n : Int) : Bool := decide (n ≠ 1 ∧ n ≠ 3 ∧ n ≠ 4 ∧ n ≠ 91 ∧ n ≠ 125 ∧ n ≠ 192)
def doL (s : St) (C : Cd) : List Int := if Ycd (s.R 0) = true then C.l.tail else C.l
def doE (M : Mem) (s : St) (C : Cd) : Ev := ⟨s.R 0, s.R 3, s.R 1, s.R 2, doR M s C, doS M s C⟩
def doC (M : Mem) (s : St) (C : Cd) : Cd := ⟨doL s C, doI M s C, C.L ++ [doE M s C]⟩
theorem Do_any (M : Mem) (a pb c b g : Nat) (C : Cd) (s : St) (w : World) (hM : Yd w a pb M) (hC : IsC w c b g C) (ne : c ≠ a ∧ c ≠ pb ∧ b ≠ a ∧ b ≠ pb ∧ g ≠ a ∧ g ≠ pb) (hs : s.Ok) (hn : C.L.length < 1000000) :
  Calls Try.prog 12 #[.pointer (some ⟨c, 0, none⟩), .pointer (some ⟨a, 0, none⟩), .agg s.cells] w fun e w' => e = .returned (.tuple #[.agg (s.setR 0 (doR M s C)).cells, .bool (decide (s.R 0 = 1))]) ∧ Yd w' a pb (doM M s C) ∧ IsC w' c b g (doC M s C) ∧ Upd [c, b, pb] w w' := by
 obtain ⟨D, hCl, hD⟩ := hC
 have hst := hD.step (doE M s C)
 have fin : ∀ (w' : World) (l2 : List Int) (i2 : ByteArray) (R : Int) (S : ByteArray), l2 = doL s C → i2 = doI M s C → R = doR M s C → S = doS M s C →
   Yar w' c b g l2 i2 (C.L.length + 1) (C.L.length + 1) ((D.put (.int .i64 C.L.length) (.held (Ev.val ⟨s.R 0, s.R 3, s.R 1, s.R 2, R, S⟩))).del (.int .i64 (C.L.length - 200))) → IsC w' c b g (doC M s C) := by
  rintro w' l2 i2 R S rfl rfl rfl rfl h
  refine ⟨_, ?_, hst⟩
  unfold doC
  simp only [List.length_append, List.length_singleton]
  exact h
 by_cases h1 : s.R 0 = 1
 ·refine (Do_exit M a pb c b g _ C.l C.i D s w hM hCl ne hs hn h1).mono ?_
  rintro e w' ⟨rfl, h3, h4, h5⟩
  have e1 : doR M s C = s.R 3 := by unfold doR; rw [if_pos h1]
  refine ⟨by rw [e1, decide_eq_true h1], ?_, fin w' _ _ _ _ ?_ ?_ e1.symm ?_ h4, h5⟩
  ·unfold doM; simp [h1]; exact h3
  ·unfold doL Ycd; simp [h1]
  ·unfold doI; simp [h1]
  ·unfold doS; simp [h1]
 ·by_cases h2 : s.R 0 = 3
  ·refine (Do_read M a pb c b g _ C.l C.i D s w hM hCl ne hs hn h2).mono ?_
   rintro e w' ⟨RV, SV, IV, MV, ⟨rfl, h3, h4, h5⟩, p1, p2⟩
   cases hk : rdK M (s.R 1) (rdN C.i (s.R 2))
   ·obtain ⟨rfl, rfl, rfl, e4⟩ := p2 hk
    rw [e4] at h3
    have e1 : doR M s C = 4294967282 := by unfold doR; rw [if_neg h1, if_pos h2, hk]; rfl
    refine ⟨by rw [e1, decide_eq_false h1], ?_, fin w' _ _ _ _ ?_ ?_ e1.symm ?_ h4, h5⟩
    ·unfold doM; simp [h2, hk]; exact h3
    ·unfold doL Ycd; simp [h2]
    ·unfold doI; simp [h2, hk]
    ·unfold doS; simp [h2, hk]
   ·obtain ⟨rfl, rfl, rfl, e4⟩ := p1 hk
    rw [e4] at h3
    have e1 : doR M s C = (rdN C.i (s.R 2) : Int) := by unfold doR; rw [if_neg h1, if_pos h2, hk]; rfl
    refine ⟨by rw [e1, decide_eq_false h1], ?_, fin w' _ _ _ _ ?_ ?_ e1.symm ?_ h4, h5⟩
    ·unfold doM; rw [if_pos h2, if_pos hk]; exact h3
    ·unfold doL Ycd; simp [h2]
    ·unfold doI; rw [if_pos h2, if_pos hk]
    ·unfold doS; rw [if_pos h2, if_pos hk]
  ·by_cases h3 : s.R 0 = 4
   ·refine (Do_write M a pb c b g _ C.l C.i D s w hM hCl ne hs hn h3).mono ?_
    rintro e w' ⟨rfl, q1, q2, q3⟩
    have e1 : doR M s C = wrR M (s.R 1) (s.R 2) := by unfold doR; rw [if_neg h1, if_neg h2, if_pos h3]
    refine ⟨by rw [e1, decide_eq_false h1], ?_, fin w' _ _ _ _ ?_ ?_ e1.symm ?_ q2, q3⟩
    ·unfold doM; simp [h3]; exact q1
    ·unfold doL Ycd; simp [h3]
    ·unfold doI; simp [h3]
    ·unfold doS; simp [h3]
   ·by_cases h4 : s.R 0 = 91 ∨ s.R 0 = 125 ∨ s.R 0 = 192
    ·refine (Do_pages M a pb c b g _ C.l C.i D s w hM hCl ne hs hn h4).mono ?_
     rintro e w' ⟨rfl, q1, q2, q3⟩
     have e1 : doR M s C = chR M (s.R 0) (s.R 3) (s.R 1) (s.R 2) := by unfold doR; rw [if_neg h1, if_neg h2, if_neg h3, if_pos h4]
     refine ⟨by rw [e1, decide_eq_false h1], ?_, fin w' _ _ _ _ ?_ ?_ e1.symm ?_ q2, q3⟩
     ·unfold doM; rw [if_neg h2, if_pos h4]; exact q1
     ·unfold doL Ycd; rw [if_neg (by simp; omega)]
     ·unfold doI; rw [if_neg h2]
     ·unfold doS; rw [if_neg h2, if_neg h3]
    ·have hq : s.R 0 ≠ 1 ∧ s.R 0 ≠ 3 ∧ s.R 0 ≠ 4 ∧ s.R 0 ≠ 91 ∧ s.R 0 ≠ 125 ∧ s.R 0 ≠ 192 := by omega
     have eL : doL s C = C.l.tail := by unfold doL Ycd; rw [if_pos (by rw [decide_eq_true_eq]; exact hq)]
     cases hl : C.l with
     |nil =>
      refine (Do_none M a pb c b g _ C.l C.i D s w hM hCl ne hs hn hq hl).mono ?_
      rintro e w' ⟨rfl, q1, q2, q3⟩
      have e1 : doR M s C = 4294967258 := by unfold doR; rw [if_neg h1, if_neg h2, if_neg h3, if_neg h4, hl]
      refine ⟨by rw [e1, decide_eq_false h1], ?_, fin w' _ _ _ _ ?_ ?_ e1.symm ?_ q2, q3⟩
      ·unfold doM; rw [if_neg h2, if_neg h4]; exact q1
      ·rw [eL, hl]; rfl
      ·unfold doI; rw [if_neg h2]
      ·unfold doS; rw [if_neg h2, if_neg h3]
     |cons x t =>
      refine (Do_reply M a pb c b g _ C.l C.i D s w hM hCl ne hs hn hq x t hl).mono ?_
      rintro e w' ⟨rfl, q1, q2, q3⟩
      have e1 : doR M s C = x := by unfold doR; rw [if_neg h1, if_neg h2, if_neg h3, if_neg h4, hl]
      refine ⟨by rw [e1, decide_eq_false h1], ?_, fin w' _ _ _ _ ?_ ?_ e1.symm ?_ q2, q3⟩
      ·unfold doM; rw [if_neg h2, if_neg h4]; exact q1
      ·rw [eL, hl]; rfl
      ·unfold doI; rw [if_neg h2]
      ·unfold doS; rw [if_neg h2, if_neg h3]
def Cd.last (C : Cd) : List Ev := C.L.drop (C.L.length - 200)
theorem Yf4 (c b g : Nat) (C : Cd) (w : World) (h : IsC w c b g C) :
  Calls Try.prog 15 #[.pointer (some ⟨c, 0, none⟩)] w fun e w' => ∃ v g', e = .returned v ∧ ESl w' v C.last g' ∧ Upd [] w w' := by
 obtain ⟨D, h1, h2⟩ := h
 refine (Yfv c b g _ _ C.l C.i D _ w h1 h2.evAt h2.size).mono ?_
 rw [h2.sorted, Yfm]
 intro e w' h
 exact h
theorem Left_all (c b g : Nat) (C : Cd) (w : World) (h : IsC w c b g C) :
  Calls Try.prog 14 #[.pointer (some ⟨c, 0, none⟩)] w fun e w' => e = .returned (.tuple #[.int .i64 C.l.length, .int .i64 C.i.size]) ∧ Upd [] w w' := by
 obtain ⟨D, h1, h2⟩ := h
 exact Left_any c b g _ _ C.l C.i D w h1
theorem Yft (l : List Int) (inp : ByteArray) (v : Value) (g : Nat) (w : World) (h : Rp w v l g) (hl : l.length ≤ 1000) :
  Calls Try.prog 10 #[v, .string inp] w fun e w' => ∃ c b g', e = .returned (.pointer (some ⟨c, 0, none⟩)) ∧ IsC w' c b g' ⟨l, inp, []⟩ ∧ (w.heap.size ≤ c ∧ w.heap.size ≤ b ∧ w.heap.size ≤ g') ∧ Upd [] w w' := by
 refine (NewC_any l inp v g w h hl).mono ?_
 rintro e w' ⟨c, b, g', h1, h2, h3, h4⟩
 exact ⟨c, b, g', h1, ⟨_, h2, Yba.start⟩, h3, h4⟩
end
section
open Go.Maps
theorem errC_yes (n : Int) : errI true n = 0 := rfl
theorem IsC.where_ {w : World} {c b g : Nat} {C : Cd} (h : IsC w c b g C) : g < w.heap.size ∨ ∀ g', c ≠ g' → b ≠ g' → IsC w c b g' C := by
 obtain ⟨D, h1, h2⟩ := h
 obtain ⟨v, hv, hr⟩ := h1.hd
 rcases hr with h | ⟨o, c', C', T, f, e1, e2, e3, e4⟩
 ·exact .inr fun g' n1 n2 => ⟨D, ⟨⟨v, hv, .inl h⟩, h1.mp, h1.cb, n1, n2⟩, h2⟩
 ·exact .inl (Yk e3)
structure Kc (w : World) (a pb : Nat) (M : Mem) (c b : Nat) (C : Cd) (L : List (Nat × Obj)) (w1 : World) : Prop where
 m : Yd w1 a pb M
 cc : ∃ g, IsC w1 c b g C ∧ w.heap.size ≤ g ∧ g ≠ a ∧ g ≠ pb ∧ ∀ p ∈ L, p.1 ≠ g
 u : Upd [] w w1
 v : ∀ p ∈ L, w1.heap[p.1]? = some p.2
 s : L.Pairwise (fun p q => p.1 ≠ q.1)
 t : ∀ p ∈ L, w.heap.size ≤ p.1 ∧ p.1 ≠ a ∧ p.1 ≠ pb ∧ p.1 ≠ c ∧ p.1 ≠ b
 o : w.heap.size ≤ a ∧ w.heap.size ≤ pb ∧ w.heap.size ≤ c ∧ w.heap.size ≤ b
 ne : c ≠ a ∧ c ≠ pb ∧ b ≠ a ∧ b ≠ pb
section
variable {w w1 w2 : World} {a pb c b x : Nat} {M M2 : Mem} {C : Cd} {L : List (Nat × Obj)} {o o' : Obj} {T : St}
theorem Kc.lts (h : Kc w a pb M c b C L w1) : a < w1.heap.size ∧ pb < w1.heap.size ∧ c < w1.heap.size ∧ b < w1.heap.size := by
 obtain ⟨g, ⟨D, h1, _⟩, _⟩ := h.cc
 obtain ⟨v, hv, _⟩ := h1.hd
 exact ⟨h.m.al, h.m.pl, Yk hv, h1.mp.lt⟩
theorem Kc.get (h : Kc w a pb M c b C L w1) (n : Nat) (hn : L[n]? = some (x, o)) : w1.heap[x]? = some o := h.v (x, o) (List.mem_of_getElem? hn)
theorem Kc.quiet (h : Kc w a pb M c b C L w1) (u : Upd [] w1 w2) : Kc w a pb M c b C L w2 := by
 obtain ⟨g, h1, h2⟩ := h.cc
 exact ⟨h.m.keep u (by simp) (by simp), ⟨g, h1.keep u (by simp) (by simp) (by simp), h2⟩, h.u.also u (by simp), fun p hp => u.get (h.v p hp) (by simp), h.s, h.t, h.o, h.ne⟩
theorem Kc.step (h : Kc w a pb M c b C L w1) (hm : Yd w2 a pb M2) (u : Upd [pb] w1 w2) : Kc w a pb M2 c b C L w2 := by
 obtain ⟨g, h1, h2, h3, h4, h5⟩ := h.cc
 exact ⟨hm, ⟨g, h1.keep u (by simpa using h.ne.2.1) (by simpa using h.ne.2.2.2) (by simpa using h4), h2, h3, h4, h5⟩, h.u.also u (fun z hz => .inr (by rw [List.mem_singleton.1 hz]; exact h.o.2.1)), fun p hp => u.get (h.v p hp) (by simpa using (h.t p hp).2.2.1), h.s, h.t, h.o, h.ne⟩
theorem Kc.add (h : Kc w a pb M c b C L w1) (u : Upd [] w1 w2) (ho : w2.heap[w1.heap.size]? = some o) : Kc w a pb M c b C ((w1.heap.size, o) :: L) w2 := by
 have hq := h.quiet u
 have hl := h.lts
 have ht : ∀ p ∈ (w1.heap.size, o) :: L, w.heap.size ≤ p.1 ∧ p.1 ≠ a ∧ p.1 ≠ pb ∧ p.1 ≠ c ∧ p.1 ≠ b := by
  intro p hp
  rcases List.mem_cons.1 hp with rfl | hp
  ·exact ⟨h.u.size, by dsimp only; omega, by dsimp only; omega, by dsimp only; omega, by dsimp only; omega⟩
  ·exact h.t p hp
 have hv : ∀ p ∈ (w1.heap.size, o) :: L, w2.heap[p.1]? = some p.2 := by
  intro p hp
  rcases List.mem_cons.1 hp with rfl | hp
  ·exact ho
  ·exact hq.v p hp
 refine ⟨hq.m, ?_, hq.u, hv, List.pairwise_cons.2 ⟨fun q hq => Nat.ne_of_gt (Yk (h.v q hq)), h.s⟩, ht, h.o, h.ne⟩
 obtain ⟨g, h1, h2, h3, h4, h5⟩ := h.cc
 rcases h1.where_ with hw | hw
 ·refine ⟨g, h1.keep u (by simp) (by simp) (by simp), h2, h3, h4, fun p hp => ?_⟩
  rcases List.mem_cons.1 hp with rfl | hp
  ·dsimp only; omega
  ·exact h5 p hp
 ·have hu := u.size
  have hsz := h.u.size
  refine ⟨w2.heap.size, (hw w2.heap.size (by omega) (by omega)).keep u (by simp) (by simp) (by simp), by omega, by omega, by omega, fun p hp => ?_⟩
  have := Yk (hv p hp)
  omega
theorem Kc.put (h : Kc w a pb M c b C L w1) (n : Nat) (hn : L[n]? = some (x, o)) (u : Upd [x] w1 w2) (ho : w2.heap[x]? = some o') : Kc w a pb M c b C (L.set n (x, o')) w2 := by
 have ht := h.t _ (List.mem_of_getElem? hn)
 dsimp only at ht
 obtain ⟨hl, he⟩ := List.getElem?_eq_some_iff.1 hn
 have hs := List.pairwise_iff_getElem.1 h.s
 have hc : ∀ p, p ∈ L.set n (x, o') → p = (x, o') ∨ (p ∈ L ∧ p.1 ≠ x) := by
  intro p hp
  obtain ⟨j, hj⟩ := List.mem_iff_getElem?.1 hp
  rw [List.getElem?_set] at hj
  by_cases e : n = j
  ·subst e
   simp only [if_true, hl] at hj
   exact .inl (Option.some.inj hj).symm
  ·simp only [e, if_false] at hj
   obtain ⟨hl2, he2⟩ := List.getElem?_eq_some_iff.1 hj
   refine .inr ⟨List.mem_of_getElem? hj, fun hh => ?_⟩
   rcases Nat.lt_or_gt_of_ne e with h1 | h1
   ·have := hs n j hl hl2 h1; rw [he, he2] at this; exact this hh.symm
   ·have := hs j n hl2 hl h1; rw [he, he2] at this; exact this hh
 obtain ⟨g, h1, h2, h3, h4, h5⟩ := h.cc
 have hg := h5 _ (List.mem_of_getElem? hn)
 refine ⟨h.m.keep u (by simpa using fun e => ht.2.1 e.symm) (by simpa using fun e => ht.2.2.1 e.symm), ⟨g, h1.keep u (by simpa using fun e => ht.2.2.2.1 e.symm) (by simpa using fun e => ht.2.2.2.2 e.symm) (by simpa using fun e => hg e.symm), h2, h3, h4, fun p hp => ?_⟩, h.u.also u (fun z hz => .inr (by rw [List.mem_singleton.1 hz]; exact ht.1)), fun p hp => ?_, ?_, fun p hp => ?_, h.o, h.ne⟩
 ·rcases hc p hp with rfl | ⟨q1, q2⟩
  ·exact hg
  ·exact h5 p q1
 ·rcases hc p hp with rfl | ⟨q1, q2⟩
  ·exact ho
  ·exact u.get (h.v p q1) (by simpa using q2)
 ·refine List.pairwise_iff_getElem.2 fun i j hi hj hij => ?_
  rw [List.length_set] at hi hj
  have h1 : ∀ q (hq : q < L.length) (hq2 : q < (L.set n (x, o')).length), ((L.set n (x, o'))[q]).1 = (L[q]).1 := by
   intro q hq hq2
   rw [List.getElem_set]
   split
   ·rename_i e; subst e; rw [he]
   ·rfl
  rw [h1 i hi (by rw [List.length_set]; exact hi), h1 j hj (by rw [List.length_set]; exact hj)]
  exact hs i j hi hj hij
 ·rcases hc p hp with rfl | ⟨q1, q2⟩
  ·exact ht
  ·exact h.t p q1
theorem Kc.putR (h : Kc w a pb M c b C L w1) (n : Nat) (hn : L[n]? = some (x, .cells T.cells 37 (0, 0))) (k : Nat) (hk : k < 8) (v : Int) : Kc w a pb M c b C (L.set n (x, .cells (T.setR k v).cells 37 (0, 0))) (w1.setCell ⟨x, k, none⟩ (.int .u32 v)) :=
 h.put n hn ((Upd.refl [x] w1).setCell (p := ⟨x, k, none⟩) (.inl (by simp)) _) (by rw [← St.cells_setR T k v hk]; exact Ye (h.get n hn) k _)
theorem Kc.one (h : Kc w a pb M c b C L w1) (hw : (w1.alloc (.cells St.zero.cells 37)).setCells w1.heap.size 0 T.cells.toList = w2) : Kc w a pb M c b C ((w1.heap.size, .cells T.cells 37 (0, 0)) :: L) w2 := by
 subst hw
 exact h.add (((Upd.refl [] w1).alloc _).setCells (.inr (Nat.le_refl _)) _ _) (Ydc T (heap_alloc_new w1 _) (St.size _))
theorem Kc.start {n g : Nat} (hm : Yd w1 a pb M) (hC : IsC w1 c b g C) (hu : Upd [] w w1) (h1 : w.heap.size ≤ a ∧ w.heap.size ≤ pb) (h2 : a < n ∧ pb < n) (h3 : n ≤ c ∧ n ≤ b ∧ n ≤ g) : Kc w a pb M c b C [] w1 :=
 ⟨hm, ⟨g, hC, by omega, by omega, by omega, fun p hp => by simp at hp⟩, hu, fun p hp => by simp at hp, List.Pairwise.nil, fun p hp => by simp at hp, by omega, by omega⟩
theorem Yd3 (h : Kc w a pb M c b C L w1) (s : St) (hs : s.Ok) (hn : C.L.length < 1000000) :
  Calls Try.prog 12 #[.pointer (some ⟨c, 0, none⟩), .pointer (some ⟨a, 0, none⟩), .agg s.cells] w1 fun e w' => e = .returned (.tuple #[.agg (s.setR 0 (doR M s C)).cells, .bool (decide (s.R 0 = 1))]) ∧ Kc w a pb (doM M s C) c b (doC M s C) L w' := by
 obtain ⟨g, h1, h2, h3, h4, h5⟩ := h.cc
 refine (Do_any M a pb c b g C s w1 h.m h1 ⟨h.ne.1, h.ne.2.1, h.ne.2.2.1, h.ne.2.2.2, h3, h4⟩ hs hn).mono ?_
 rintro e w2 ⟨q1, q2, q3, u⟩
 refine ⟨q1, q2, ⟨g, q3, h2, h3, h4, h5⟩, h.u.also u (fun z hz => .inr ?_), fun p hp => u.get (h.v p hp) ?_, h.s, h.t, h.o, h.ne⟩
 ·simp at hz; have := h.o; omega
 ·have := h.t p hp; simp; omega
theorem Yes (h : Kc w a pb M c b C L w1) : Calls Try.prog 15 #[.pointer (some ⟨c, 0, none⟩)] w1 fun e w' => ∃ v g', e = .returned v ∧ ESl w' v C.last g' ∧ Upd [] w1 w' := by
 obtain ⟨g, h1, _⟩ := h.cc
 exact Yf4 c b g C w1 h1
theorem Left_kc (h : Kc w a pb M c b C L w1) : Calls Try.prog 14 #[.pointer (some ⟨c, 0, none⟩)] w1 fun e w' => e = .returned (.tuple #[.int .i64 C.l.length, .int .i64 C.i.size]) ∧ Upd [] w1 w' := by
 obtain ⟨g, h1, _⟩ := h.cc
 exact Left_all c b g C w1 h1
end
theorem rp_lit (w : World) (l : List Int) (T : TypeId) (n : Nat) (hn : n = l.length) (C : Array Value) (hC : C = (l.map (Value.int .u32)).toArray) : Rp (w.alloc (.cells C T)) (.slice (some ⟨w.heap.size, 0, none⟩) n n) l w.heap.size := by
 subst hn hC
 refine .inr ⟨0, _, _, _, _, rfl, Nat.le_refl _, heap_alloc_new w _, fun i hi => ?_⟩
 rw [Nat.zero_add]
 simp [List.getElem?_eq_getElem hi]
theorem rp_none (w : World) (g : Nat) : Rp w (.slice none 0 0) [] g := .inl ⟨rfl, rfl⟩
end
section
open Go.Maps
def kaI : ByteArray := { data := #[104, 101, 108, 108, 111] }
def ka0 : Cd := ⟨[7], kaI, []⟩
def kaM : Mem := Mem.zero.mapM 0 1 3
def Ya3 : St := ((St.zero.setR 0 3).setR 1 8).setR 2 4
def kaC1 : Cd := doC kaM Ya3 ka0
def kaM1 : Mem := doM kaM Ya3 ka0
def Yy : St := Ya3.setR 0 20
def kaC2 : Cd := doC kaM1 Yy kaC1
def kaM2 : Mem := doM kaM1 Yy kaC1
def kaC3 : Cd := doC kaM2 Yy kaC2
def kaM3 : Mem := doM kaM2 Yy kaC2
def Ya9 : St := (Yy.setR 0 1).setR 3 9
def kaC4 : Cd := doC kaM3 Ya9 kaC3
def kaM4 : Mem := doM kaM3 Ya9 kaC3
theorem ka_o1 : Ya3.Ok := St.setR_ok (St.setR_ok (St.setR_ok St.zero_ok 0 (by decide) (by decide)) 1 (by decide) (by decide)) 2 (by decide) (by decide)
theorem ka_o2 : Yy.Ok := St.setR_ok ka_o1 0 (by decide) (by decide)
theorem ka_o4 : Ya9.Ok := St.setR_ok (St.setR_ok ka_o2 0 (by decide) (by decide)) 3 (by decide) (by decide)
theorem ka_map : Mem.zero.mapB 0 1 3 = true := by decide +kernel
theorem ka_r1 : doR kaM Ya3 ka0 = 4 := by decide +kernel
theorem ka_r2 : doR kaM1 Yy kaC1 = 7 := by decide +kernel
theorem ka_r3 : doR kaM2 Yy kaC2 = 4294967258 := by decide +kernel
theorem ka_r4 : doR kaM3 Ya9 kaC3 = 9 := by decide +kernel
theorem ka_p : kaM4.peek 8 4 = [104, 101, 108, 108] := by decide +kernel
theorem ka_str : strOfNums [104, 101, 108, 108] = { data := #[104, 101, 108, 108] } := by decide +kernel
theorem Yfb : kaC4.last.length = 4 := by decide +kernel
theorem ka_l : kaC4.l.length = 0 := by decide +kernel
theorem ka_i : kaC4.i.size = 1 := by decide +kernel
theorem ka_e0s : (kaC4.last.getD 0 Ev.zero).s = { data := #[104, 101, 108, 108] } := by decide +kernel
theorem ka_e3r : (kaC4.last.getD 3 Ev.zero).r = 9 := by decide +kernel
theorem ESl.open_ {w : World} {v : Value} {l : List Ev} {g n : Nat} (h : ESl w v l g) (hl : l.length = n + 1) : ∃ o c, v = .slice (some ⟨g, o, none⟩) (n + 1) c := by
 rcases h with ⟨_, h⟩ | ⟨o, c, C, f, h1, _, _⟩
 ·rw [h] at hl; cases hl
 ·exact ⟨o, c, by rw [h1, hl]⟩
theorem ESl.cell {w : World} {l : List Ev} {g o c n : Nat} (h : ESl w (.slice (some ⟨g, o, none⟩) n c) l g) (k : Nat) (hk : k < l.length) (j : Nat) (hj : j < 6) : w.cell? ⟨g, o + k * 6 + j, none⟩ = (l.getD k Ev.zero).cells[j]? := by
 have hx : l[k]? = some (l.getD k Ev.zero) := by rw [List.getD_eq_getElem?_getD, List.getElem?_eq_getElem hk]; rfl
 have e : (l.getD k Ev.zero).cells[j]? = some ((l.getD k Ev.zero).cells[j]'(by simpa [Ev.cells] using hj)) := Array.getElem?_eq_getElem _
 rw [e]
 exact h.at hx j _ (by rw [Array.getElem?_toList]; exact e)
theorem ev_c5 (e : Ev) : e.cells[5]? = some (.string e.s) := rfl
theorem ev_c4 (e : Ev) : e.cells[4]? = some (.int .u32 e.r) := rfl
theorem Yfk (w : World) : Calls Try.prog 8 #[] w fun e w' => e = .returned (.bool true) ∧ Upd [] w w' := by
 have tok : True := trivial
 go_enter Try.func8, Try.ntmps8
 go_wp2_with (first | (have _t := tok; clear _t; go_at_call 9; refine (Yfu _).mono ?_; rintro e w1 ⟨a, pb, rfl, ha, hp, hM1, hu1⟩; clear tok) | (have _t := hM1; clear _t; go_at_call 10; refine (Yft [7] kaI _ w1.heap.size _ (rp_lit w1 [7] _ 1 rfl _ rfl) (by decide)).mono ?_; rintro e w2 ⟨c, b, g', rfl, hC, hz, hu2⟩; have ua := (Upd.refl [] w1).alloc (.cells #[.int .u32 7] 31); have K0 := Yh_ (show Kc w a pb Mem.zero c b ka0 [] w2 from Kc.start (n := w1.heap.size) (hM1.keep (ua.also hu2 (by simp)) (by simp) (by simp)) hC ((hu1.also ua (by simp)).also hu2 (by simp)) ⟨ha, hp⟩ ⟨hM1.al, hM1.pl⟩ ⟨Nat.le_trans ua.size hz.1, Nat.le_trans ua.size hz.2.1, Nat.le_trans ua.size hz.2.2⟩); clear hu1 ha hp hM1 hC hz hu2 ua) | (have _t := K0; clear _t; go_at_call 11; refine (Yeb Mem.zero a pb 0 1 3 _ K0.out.m (by decide)).mono ?_; rintro e w3 ⟨rfl, hm, hu⟩; rw [ka_map, errC_yes]; have K1 := Yh_ (show Kc w a pb kaM c b ka0 [] w3 from K0.out.step hm hu); clear hm hu K0) | (have _t := K1; clear _t; refine Ybl 37 rfl ?_; refine Yw St.zero w3.heap.size rfl _ _ rfl rfl rfl (heap_alloc_new w3 _) rfl ?_; intro w4 hw; have K2 := Yh_ (K1.out.one hw); have c0 : w4.cell? ⟨w3.heap.size, 0, none⟩ = some (.int .u32 (St.zero.R 0)) := (Ya (K2.out.get 0 rfl) 0).trans (St.cR _ 0 (by decide)); have c1 : w4.cell? ⟨w3.heap.size, 1, none⟩ = some (.int .u32 (St.zero.R 1)) := (Ya (K2.out.get 0 rfl) 1).trans (St.cR _ 1 (by decide)); have c2 : w4.cell? ⟨w3.heap.size, 2, none⟩ = some (.int .u32 (St.zero.R 2)) := (Ya (K2.out.get 0 rfl) 2).trans (St.cR _ 2 (by decide)); have fz := Yg (K2.out.get 0 rfl); have tk2 : True := trivial; clear hw K1) | (have _t := tk2; have _t2 := K2; clear _t _t2; refine Yb8 37 rfl ?_; clear tk2; have hk := (((K2.out).putR 0 rfl 0 (by decide) 3).putR 0 rfl 1 (by decide) 8).putR 0 rfl 2 (by decide) 4; dsimp only [List.set] at hk; have K3 := Yh_ (show Kc w a pb kaM c b ka0 [(w3.heap.size, .cells Ya3.cells 37 (0, 0))] _ from hk); clear hk K2 c0 c1 c2 fz; refine Yag Ya3 w3.heap.size rfl _ rfl rfl (K3.out.get 0 rfl) ?_) | (have _t := K3; clear _t; go_at_call 12; refine (Yd3 K3.out Ya3 ka_o1 (by decide)).mono ?_; rintro e w5 ⟨rfl, hk⟩; rw [ka_r1, show decide (Ya3.R 0 = 1) = false from rfl]; have K4 := Yh_ hk; clear hk K3) | (have _t := K4; clear _t; refine Ybl 37 rfl ?_; refine Yw (Ya3.setR 0 4) w5.heap.size rfl _ _ rfl rfl rfl (heap_alloc_new w5 _) rfl ?_; intro w6 hw; have K5 := Yh_ (K4.out.one hw); have c0 : w6.cell? ⟨w3.heap.size, 0, none⟩ = some (.int .u32 (Ya3.R 0)) := (Ya (K5.out.get 1 rfl) 0).trans (St.cR _ 0 (by decide)); have fz := Yg (K5.out.get 1 rfl); have tk5 : True := trivial; clear hw K4) | (have _t := tk5; have _t2 := K5; clear _t _t2; refine Yb8 37 rfl ?_; clear tk5; have hk := (K5.out).putR 1 rfl 0 (by decide) 20; dsimp only [List.set] at hk; have K6 := Yh_ (show Kc w a pb kaM1 c b kaC1 [(w5.heap.size, .cells (Ya3.setR 0 4).cells 37 (0, 0)), (w3.heap.size, .cells Yy.cells 37 (0, 0))] _ from hk); clear hk K5 c0 fz; refine Yag Yy w3.heap.size rfl _ rfl rfl (K6.out.get 1 rfl) ?_) | (have _t := K6; clear _t; go_at_call 12; refine (Yd3 K6.out Yy ka_o2 (by decide)).mono ?_; rintro e w7 ⟨rfl, hk⟩; rw [ka_r2, show decide (Yy.R 0 = 1) = false from rfl]; have K7 := Yh_ hk; clear hk K6) | (have _t := K7; clear _t; refine Ybl 37 rfl ?_; refine Yw (Yy.setR 0 7) w7.heap.size rfl _ _ rfl rfl rfl (heap_alloc_new w7 _) rfl ?_; intro w8 hw; have K8 := Yh_ (K7.out.one hw); have tk8 : True := trivial; clear hw K7) | (have _t := tk8; have _t2 := K8; clear _t _t2; refine Yb8 37 rfl ?_; clear tk8; have hk := K8.out; have K9 := Yh_ (show Kc w a pb kaM2 c b kaC2 [(w7.heap.size, .cells (Yy.setR 0 7).cells 37 (0, 0)), (w5.heap.size, .cells (Ya3.setR 0 4).cells 37 (0, 0)), (w3.heap.size, .cells Yy.cells 37 (0, 0))] _ from hk); clear hk K8 ; refine Yag Yy w3.heap.size rfl _ rfl rfl (K9.out.get 2 rfl) ?_) | (have _t := K9; clear _t; go_at_call 12; refine (Yd3 K9.out Yy ka_o2 (by decide)).mono ?_; rintro e w9 ⟨rfl, hk⟩; rw [ka_r3, show decide (Yy.R 0 = 1) = false from rfl]; have K10 := Yh_ hk; clear hk K9) | (have _t := K10; clear _t; refine Ybl 37 rfl ?_; refine Yw (Yy.setR 0 4294967258) w9.heap.size rfl _ _ rfl rfl rfl (heap_alloc_new w9 _) rfl ?_; intro w10 hw; have K11 := Yh_ (K10.out.one hw); have c0 : w10.cell? ⟨w3.heap.size, 0, none⟩ = some (.int .u32 (Yy.R 0)) := (Ya (K11.out.get 3 rfl) 0).trans (St.cR _ 0 (by decide)); have c3 : w10.cell? ⟨w3.heap.size, 3, none⟩ = some (.int .u32 (Yy.R 3)) := (Ya (K11.out.get 3 rfl) 3).trans (St.cR _ 3 (by decide)); have fz := Yg (K11.out.get 3 rfl); have tk11 : True := trivial; clear hw K10) | (have _t := tk11; have _t2 := K11; clear _t _t2; refine Yb8 37 rfl ?_; clear tk11; have hk := ((K11.out).putR 3 rfl 0 (by decide) 1).putR 3 rfl 3 (by decide) 9; dsimp only [List.set] at hk; have K12 := Yh_ (show Kc w a pb kaM3 c b kaC3 [(w9.heap.size, .cells (Yy.setR 0 4294967258).cells 37 (0, 0)), (w7.heap.size, .cells (Yy.setR 0 7).cells 37 (0, 0)), (w5.heap.size, .cells (Ya3.setR 0 4).cells 37 (0, 0)), (w3.heap.size, .cells Ya9.cells 37 (0, 0))] _ from hk); clear hk K11 c0 c3 fz; refine Yag Ya9 w3.heap.size rfl _ rfl rfl (K12.out.get 3 rfl) ?_) | (have _t := K12; clear _t; go_at_call 12; refine (Yd3 K12.out Ya9 ka_o4 (by decide)).mono ?_; rintro e w11 ⟨rfl, hk⟩; rw [ka_r4, show decide (Ya9.R 0 = 1) = true from rfl]; have K13 := Yh_ hk; clear hk K12) | (have _t := K13; clear _t; refine Ybl 37 rfl ?_; refine Yw (Ya9.setR 0 9) w11.heap.size rfl _ _ rfl rfl rfl (heap_alloc_new w11 _) rfl ?_; intro w12 hw; have K14 := Yh_ (K13.out.one hw); clear hw K13) | (have _t := K14; clear _t; go_at_call 15; refine (Yes K14.out).mono ?_; rintro e w13 ⟨ve, ge, rfl, hE, hu⟩; obtain ⟨oe, ce, rfl⟩ := hE.open_ (n := 3) Yfb; have K15 := Yh_ (show Kc w a pb kaM4 c b kaC4 [(w11.heap.size, .cells (Ya9.setR 0 9).cells 37 (0, 0)), (w9.heap.size, .cells (Yy.setR 0 4294967258).cells 37 (0, 0)), (w7.heap.size, .cells (Yy.setR 0 7).cells 37 (0, 0)), (w5.heap.size, .cells (Ya3.setR 0 4).cells 37 (0, 0)), (w3.heap.size, .cells Ya9.cells 37 (0, 0))] w13 from K14.out.quiet hu); have HE := Yh_ (show ESl w13 _ kaC4.last ge from hE); clear hu hE K14) | (have _t := K15; clear _t; go_at_call 14; refine (Left_kc K15.out).mono ?_; rintro e w14 ⟨rfl, hu⟩; rw [ka_l, ka_i]; have K16 := Yh_ (show Kc w a pb kaM4 c b kaC4 [(w11.heap.size, .cells (Ya9.setR 0 9).cells 37 (0, 0)), (w9.heap.size, .cells (Yy.setR 0 4294967258).cells 37 (0, 0)), (w7.heap.size, .cells (Yy.setR 0 7).cells 37 (0, 0)), (w5.heap.size, .cells (Ya3.setR 0 4).cells 37 (0, 0)), (w3.heap.size, .cells Ya9.cells 37 (0, 0))] w14 from K15.out.quiet hu); have HE2 := Yh_ (HE.out.keep hu (by simp)); have d1 : w14.cell? ⟨w5.heap.size, 0, none⟩ = some (.int .u32 4) := (Ya (K16.out.get 3 rfl) 0).trans (St.cR _ 0 (by decide)); have d2 : w14.cell? ⟨w7.heap.size, 0, none⟩ = some (.int .u32 7) := (Ya (K16.out.get 2 rfl) 0).trans (St.cR _ 0 (by decide)); have d3 : w14.cell? ⟨w9.heap.size, 0, none⟩ = some (.int .u32 4294967258) := (Ya (K16.out.get 1 rfl) 0).trans (St.cR _ 0 (by decide)); clear hu K15 HE) | (have _t := K16; clear _t; go_at_call 13; refine (Peek_any kaM4 a pb 8 4 _ K16.out.m (by decide) (by decide) (by decide) (by decide)).mono ?_; rintro e w15 ⟨v2, rfl, hown, hu⟩; have hcv := Ydo hown; rw [ka_p, ka_str] at hcv; have K17 := Yh_ (show Kc w a pb kaM4 c b kaC4 [(w11.heap.size, .cells (Ya9.setR 0 9).cells 37 (0, 0)), (w9.heap.size, .cells (Yy.setR 0 4294967258).cells 37 (0, 0)), (w7.heap.size, .cells (Yy.setR 0 7).cells 37 (0, 0)), (w5.heap.size, .cells (Ya3.setR 0 4).cells 37 (0, 0)), (w3.heap.size, .cells Ya9.cells 37 (0, 0))] w15 from K16.out.quiet hu); have HE3 := Yh_ (HE2.out.keep hu (by simp)); have d2 : w15.cell? ⟨w7.heap.size, 0, none⟩ = some (.int .u32 7) := (Ya (K17.out.get 2 rfl) 0).trans (St.cR _ 0 (by decide)); have d3 : w15.cell? ⟨w9.heap.size, 0, none⟩ = some (.int .u32 4294967258) := (Ya (K17.out.get 1 rfl) 0).trans (St.cR _ 0 (by decide)); have d4 : w15.cell? ⟨ge, oe + 5, none⟩ = some (.string { data := #[104, 101, 108, 108] }) := (by have h := HE3.out.cell 0 (by rw [Yfb]; decide) 5 (by decide); rw [ev_c5, ka_e0s] at h; exact h); have d5 : w15.cell? ⟨ge, oe + 18 + 4, none⟩ = some (.int .u32 9) := (by have h := HE3.out.cell 3 (by rw [Yfb]; decide) 4 (by decide); rw [ev_c4, ka_e3r] at h; exact h); clear hown hu K16 HE2))
 go_ret
 exact ⟨rfl, K17.out.u⟩
end
section
open Go.Maps
theorem Kc.none_ {w w1 : World} {a pb c b : Nat} {M : Mem} {C : Cd} {L : List (Nat × Obj)} (h : Kc w a pb M c b C L w1) : Kc w a pb M c b C [] w1 := by
 obtain ⟨g, h1, h2, h3, h4, h5⟩ := h.cc
 exact ⟨h.m, ⟨g, h1, h2, h3, h4, fun p hp => by simp at hp⟩, h.u, fun p hp => by simp at hp, List.Pairwise.nil, fun p hp => by simp at hp, h.o, h.ne⟩
theorem New_kc {w w0 w1 : World} {a pb g : Nat} {M : Mem} {l : List Int} {i : ByteArray} {v : Value} (hu0 : Upd [] w w0) (ha : w0.heap.size ≤ a) (hp : w0.heap.size ≤ pb) (hM : Yd w1 a pb M) (hu1 : Upd [] w0 w1) (hr : Rp w1 v l g) (hl : l.length ≤ 1000) :
  Calls Try.prog 10 #[v, .string i] w1 fun e w' => ∃ c b, e = .returned (.pointer (some ⟨c, 0, none⟩)) ∧ Kc w a pb M c b ⟨l, i, []⟩ [] w' ∧ Upd [] w1 w' := by
 refine (Yft l i v g w1 hr hl).mono ?_
 rintro e w2 ⟨c, b, g', rfl, hC, hz, hu2⟩
 exact ⟨c, b, rfl, Kc.start (n := w1.heap.size) (hM.keep hu2 (by simp) (by simp)) hC ((hu0.also hu1 (by simp)).also hu2 (by simp)) ⟨Nat.le_trans hu0.size ha, Nat.le_trans hu0.size hp⟩ ⟨hM.al, hM.pl⟩ hz, hu2⟩
def kpE (i : Nat) : Ev := ⟨900, i, 0, 0, 4294967258, ByteArray.empty⟩
def kpC (j : Nat) : Cd := ⟨[], ByteArray.empty, (List.range j).map kpE⟩
def kpS (i : Nat) : St := (St.zero.setR 0 900).setR 3 i
theorem kp_ok (i : Nat) (h : i < 4294967296) : (kpS i).Ok := St.setR_ok (St.setR_ok St.zero_ok 0 (by decide) (by decide)) 3 (by omega) (by omega)
theorem Ycy (i : Nat) : (kpS i).R 0 = 900 := rfl
theorem kp_r3 (i : Nat) : (kpS i).R 3 = i := rfl
theorem kp_doM (i : Nat) : doM Mem.zero (kpS i) (kpC i) = Mem.zero := by unfold doM; rw [Ycy]; simp
theorem kp_doR (i : Nat) : doR Mem.zero (kpS i) (kpC i) = 4294967258 := by unfold doR; rw [Ycy]; simp [kpC]
theorem kp_doC (i : Nat) : doC Mem.zero (kpS i) (kpC i) = kpC (i + 1) := by
 have e1 : doS Mem.zero (kpS i) (kpC i) = ByteArray.empty := by unfold doS; rw [Ycy]; rfl
 have e2 : doI Mem.zero (kpS i) (kpC i) = ByteArray.empty := by unfold doI; rw [Ycy]; rfl
 have e3 : doL (kpS i) (kpC i) = [] := by unfold doL; rw [Ycy]; rfl
 unfold doC doE
 rw [e1, e2, e3, kp_doR, Ycy, kp_r3, show (kpS i).R 1 = 0 from rfl, show (kpS i).R 2 = 0 from rfl]
 simp only [kpC, List.range_succ, List.map_append, List.map_cons, List.map_nil, kpE]
theorem kp_len (j : Nat) : (kpC j).L.length = j := by simp [kpC]
theorem Yfp (j : Nat) : (kpC j).last.length = min j 200 := by simp [Cd.last, kpC]; omega
theorem kp_at (j q : Nat) (h : q < min j 200) : (kpC j).last.getD q Ev.zero = kpE (j - min j 200 + q) := by
 rw [List.getD_eq_getElem?_getD, List.getElem?_eq_getElem (by rw [Yfp]; exact h)]
 simp only [Cd.last, kpC, List.getElem_drop, List.getElem_map, List.getElem_range, List.length_map, List.length_range, Option.getD_some]
 exact congrArg kpE (by omega)
theorem ev_c1 (e : Ev) : e.cells[1]? = some (.int .u32 e.b) := rfl
theorem Yeg (n : Int) (w : World) (hn : 0 ≤ n ∧ n < 65536) : Calls Try.prog 4 #[.int .u16 n] w fun e w' => e = .returned (.bool true) ∧ Upd [] w w' := by
 have e0 : n.tmod 450 = n % 450 := Int.tmod_eq_emod_of_nonneg hn.1
 obtain ⟨k, hk⟩ : ∃ k, n % 450 = k := ⟨_, rfl⟩
 rw [hk] at e0
 have hkb : 0 ≤ k ∧ k < 450 := by omega
 have HK := Yh_ hkb
 have ewk : wrap64 k = k := by unfold wrap64; omega
 clear hk hn hkb
 have tok : True := trivial
 go_enter Try.func4, Try.ntmps4
 go_wp2_with (first
  |(have _t := tok; clear _t; go_at_call 8; refine (Yfk _).mono ?_; rintro e w0 ⟨rfl, hu0⟩; clear tok)
  |(have _t := hu0; clear _t; go_at_call 9; refine (Yfu _).mono ?_; rintro e w1 ⟨a, pb, rfl, ha, hp, hM1, hu1⟩; have H0 := Yh_ (And.intro hu0 (And.intro ha (And.intro hp (And.intro hM1 hu1)))); clear hu0 ha hp hM1 hu1)
  |(have _t := H0; clear _t; go_at_call 10; refine (New_kc (l := []) H0.out.1 H0.out.2.1 H0.out.2.2.1 H0.out.2.2.2.1 H0.out.2.2.2.2 (rp_none w1 0) (by decide)).mono ?_; rintro e w2 ⟨c, b, rfl, hk0, _⟩; have K0 := Yh_ (show Kc w a pb Mem.zero c b (kpC 0) [] w2 from hk0); clear hk0 H0))
 simp only [ewk]
 clear ewk
 go_loopw [6, 7] (fun i _ wr => ∃ j : Int, i = .int .i64 j ∧ Hid (0 ≤ j ∧ j ≤ k) ∧ Hid (Kc w a pb Mem.zero c b (kpC j.toNat) [] wr)) (fun i _ _ => (k - intOf i).toNat)
 case atStart => exact ⟨0, rfl, Yh_ ⟨Int.le_refl _, HK.out.1⟩, K0⟩
 case round =>
  obtain ⟨j, rfl, hj, hK⟩ := hrel
  clear K0
  by_cases hlt : j < k
  ·have dlt : decide (j < k) = true := by simp [hlt]
   have hjj := hj.out
   have hkk := HK.out
   have e8 : j % 4294967296 = j := by omega
   have b1 : 0 ≤ j ∧ j < k := by omega
   have HB1 := Yh_ (And.intro b1 (show ((j.toNat : Nat) : Int) = j by omega))
   have tk1 : True := trivial
   clear hjj hkk b1 hlt
   go_wp2_with (first
    |(have _t := hK; clear _t; refine Ybl 37 rfl ?_; refine Yw St.zero wr.heap.size rfl _ _ rfl rfl rfl (heap_alloc_new wr _) rfl ?_; intro w4 hw; have K2 := Yh_ (hK.out.one hw); have c0 : w4.cell? ⟨wr.heap.size, 0, none⟩ = some (.int .u32 (St.zero.R 0)) := (Ya (K2.out.get 0 rfl) 0).trans (St.cR _ 0 (by decide)); have c3 : w4.cell? ⟨wr.heap.size, 3, none⟩ = some (.int .u32 (St.zero.R 3)) := (Ya (K2.out.get 0 rfl) 3).trans (St.cR _ 3 (by decide)); have fz := Yg (K2.out.get 0 rfl); clear hw hK)
    |(have _t := tk1; have _t2 := K2; clear _t _t2; refine Yb8 37 rfl ?_; clear tk1; have hk := (K2.out.putR 0 rfl 0 (by decide) 900).putR 0 rfl 3 (by decide) j; dsimp only [List.set] at hk; have hS : (St.zero.setR 0 900).setR 3 j = kpS j.toNat := (by unfold kpS; rw [HB1.out.2]); rw [hS] at hk; have K3 := Yh_ hk; clear hk hS K2 c0 c3 fz; refine Yag (kpS j.toNat) wr.heap.size rfl _ rfl rfl (K3.out.get 0 rfl) ?_)
    |(have _t := K3; clear _t; go_at_call 12; refine (Yd3 K3.out (kpS j.toNat) (kp_ok _ (by have := HB1.out; have := HK.out; omega)) (by rw [kp_len]; have := HB1.out; have := HK.out; omega)).mono ?_; rintro e w5 ⟨rfl, hk⟩; rw [kp_doC, kp_doM] at hk; have K4 := Yh_ hk.none_; clear hk K3))
   go_roundw
   case rel => exact ⟨j + 1, by go_num, Yh_ ⟨by have := HB1.out.1; omega, by have := HB1.out.1; omega⟩, by rw [show (j + 1).toNat = j.toNat + 1 by have := HB1.out.1; omega]; exact K4⟩
   case measure => have := HB1.out.1; simp only [intOf]; omega
  ·have hjk : j = k := by have := hj.out; omega
   subst hjk
   have dlt : decide (j < j) = false := by simp
   obtain ⟨ln, hln⟩ : ∃ ln : Int, ln = ((min j.toNat 200 : Nat) : Int) := ⟨_, rfl⟩
   have hmin : min j 200 = ln := by have := HK.out; rw [hln]; omega
   have hlen : (kpC j.toNat).last.length = ln.toNat := by rw [Yfp, hln]; omega
   have hcast : ((ln.toNat : Nat) : Int) = ln := by rw [hln]; omega
   have HL := Yh_ (And.intro hlen hln)
   have tk1 : True := trivial
   clear hlt hj hlen hln
   go_wp2_with (have _t := tk1; clear _t; go_at_call 15; refine (Yes hK.out).mono ?_; rintro e w6 ⟨ve, ge, rfl, hE, hu⟩; obtain ⟨sa, sc, rfl⟩ := hE.form; rw [HL.out.1] at hE ⊢; have HE := Yh_ (And.intro hE (hK.out.u.also hu (by simp))); clear hE hu tk1)
   go_loopw [9] (fun i wr => ∃ q : Int, i = .int .i64 q ∧ Hid (0 ≤ q ∧ q ≤ ln) ∧ wr = w6) (fun i _ => (ln - intOf i).toNat)
   case atStart => exact ⟨0, rfl, Yh_ ⟨Int.le_refl _, by have := HL.out.2; omega⟩, rfl⟩
   case round =>
    obtain ⟨q, rfl, hq, rfl⟩ := hrel
    by_cases hlt : q < ln
    ·have dlt : decide (q < ln) = true := by simp [hlt]
     have hqq := hq.out
     have hll := HL.out
     have hjj := HK.out
     obtain ⟨kl, hkl⟩ : ∃ kl, j - ln = kl := ⟨_, rfl⟩
     obtain ⟨z, hz⟩ : ∃ z, kl + q = z := ⟨_, rfl⟩
     have e1 : wrap64 kl = kl := by unfold wrap64; omega
     have e2 : wrap64 z = z := by unfold wrap64; omega
     have e3 : z % 4294967296 = z := by omega
     obtain ⟨oe, ce, hsl⟩ := HE.out.1.open_ (n := ln.toNat - 1) (by rw [hll.1]; omega)
     injection hsl with hsa hx hy
     clear hx hy
     subst hsa
     have hat : (kpC j.toNat).last.getD q.toNat Ev.zero = kpE z.toNat := by rw [kp_at _ _ (by omega)]; exact congrArg kpE (by omega)
     have c1 := HE.out.1.cell q.toNat (by rw [hll.1]; omega) 1 (by decide)
     have c4 := HE.out.1.cell q.toNat (by rw [hll.1]; omega) 4 (by decide)
     rw [hat, ev_c1, show (kpE z.toNat).b = z from by show ((z.toNat : Nat) : Int) = z; omega] at c1
     rw [hat, ev_c4, show (kpE z.toNat).r = 4294967258 from rfl] at c4
     have b1 : 0 ≤ q ∧ q < ln := by omega
     have HB1 := Yh_ b1
     have HM := Yh_ (show ln ≤ 200 by omega)
     clear hqq hll hjj hat hlt
     go_wp2_with fail
     go_roundw
     case rel => exact ⟨q + 1, rfl, Yh_ ⟨by have := HB1.out; omega, by have := HB1.out; omega⟩, trivial⟩
     case measure => have := HB1.out; simp only [intOf]; omega
    ·have hqk : q = ln := by have := hq.out; omega
     subst hqk
     have dlt : decide (q < q) = false := by simp
     clear hlt hq
     go_wp2_with fail
     go_ret
     exact ⟨rfl, HE.out.2⟩
end
def k1 : Mem := Mem.zero.mapN (0 : Int).toNat (1 : Int).toNat 3
def k2 : Mem := k1.putN 0 16909060 (Yr 4).toNat
theorem wf_u16 {n : Int} (h : (Lit.int .u16 n).wf = true) : 0 ≤ n ∧ n < 65536 := by
 simp [Lit.wf, IntKind.min, IntKind.max, IntKind.signed, IntKind.bits] at h; omega
end Go.Proofs.Ytchoedlinimeaaa
