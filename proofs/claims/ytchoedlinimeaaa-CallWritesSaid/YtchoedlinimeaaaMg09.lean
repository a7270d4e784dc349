/-
  Parts of the proof (their names shortened by a program). No condition.
-/
import Derived.Test.YtchoedlinimeaaaMg01
import Derived.Test.YtchoedlinimeaaaMg08
import Derived.Test.YtchoedlinimeaaaMg04
import Derived.Test.YtchoedlinimeaaaMg03
import Derived.Test.YtchoedlinimeaaaMg05
namespace Go.Proofs.Ytchoedlinimeaaa
open Go Go.RowKit
set_option linter.unusedVariables false
set_option linter.unusedSimpArgs false
set_option maxRecDepth 100000
set_option maxHeartbeats 16000000
section
open Go.Maps
def evD (D : DataW Value) (n : Nat) (e : Ev) : DataW Value := (D.put (.int .i64 n) (.held e.val)).del (.int .i64 ((n : Int) - 200))
theorem Yej (x : Lit × DataW Value) : ∀ (l : List (Lit × DataW Value)) p, p ∈ DataW.insert x l → p = x ∨ p ∈ l
 |[], p, h => by simp [DataW.insert] at h; exact .inl h
 |y :: r, p, h => by
  unfold DataW.insert at h
  split at h
  ·rcases List.mem_cons.1 h with h | h
   ·exact .inl h
   ·exact .inr h
  ·rcases List.mem_cons.1 h with h | h
   ·exact .inr (by rw [h]; simp)
   ·rcases Yej x r p h with h | h
    ·exact .inl h
    ·exact .inr (List.mem_cons_of_mem _ h)
structure Ybh (D : DataW Value) (L : List Ev) : Prop where
 t : Tidy D
 k : ∀ es, D = .map es → ∀ p ∈ es, ∃ x : Int, p.1 = .int .i64 x
 h : ∀ x : Int, has D (.int .i64 x) = decide (0 ≤ x ∧ x < L.length ∧ L.length ≤ x + 200)
 e : ∀ i : Nat, i < L.length → L.length ≤ i + 200 → ∀ z, D.atKey (.int .i64 i) z = .held (L.getD i Ev.zero).val
theorem Ybh.start : Ybh (.map []) [] :=
 ⟨tidy_empty, fun es he p hp => by cases he; simp at hp, fun x => by simp [has]; omega, fun i hi => by simp at hi⟩
theorem Yd8 {a b : Int} (h : a ≠ b) : (Lit.int .i64 a) ≠ .int .i64 b := fun e => by injection e with _ e; exact h e
theorem Ybh.step {D : DataW Value} {L : List Ev} (h : Ybh D L) (e : Ev) : Ybh (evD D L.length e) (L ++ [e]) := by
 have hI : IsMap D := h.t.isMap
 refine ⟨(h.t.put (by simp [WideAt.IsKeyLit]) _).del _, ?_, fun x => ?_, fun i hi hi2 z => ?_⟩
 ·obtain ⟨es, hD⟩ := hI
  subst hD
  intro es' he p hp
  simp only [evD, DataW.put, DataW.del, DataW.map.injEq] at he
  subst he
  rcases Yej _ _ _ (List.mem_filter.1 hp).1 with rfl | hp
  ·exact ⟨_, rfl⟩
  ·exact h.k es rfl p (List.mem_filter.1 hp).1
 ·unfold evD
  rw [List.length_append, List.length_singleton]
  by_cases h1 : x = (L.length : Int) - 200
  ·subst h1
   rw [has_del_same]
   symm; rw [decide_eq_false_iff_not]; omega
  ·rw [has_del_other (Yd8 h1)]
   by_cases h2 : x = (L.length : Int)
   ·subst h2
    rw [has_put_same hI (by simp [WideAt.IsKeyLit])]
    symm; rw [decide_eq_true_eq]; omega
   ·rw [has_put_other (Yd8 h2), h.h]
    apply decide_eq_decide.2
    omega
 ·unfold evD
  rw [List.length_append, List.length_singleton] at hi hi2
  rw [atKey_del_other (Yd8 (by omega))]
  by_cases h2 : i = L.length
  ·subst h2
   rw [atKey_put_same hI (by simp [WideAt.IsKeyLit])]
   simp
  ·rw [atKey_put_other (Yd8 (by omega)), h.e i (by omega) (by omega)]
   simp [List.getElem?_append_left (show i < L.length by omega)]
def Ybv (n : Nat) : List Int := (List.range (min n 200)).map fun i => ((n - 200 + i : Nat) : Int)
theorem Ybh.keys {D : DataW Value} {L : List Ev} (h : Ybh D L) : (Ybv L.length).Perm (intKeys D) := by
 obtain ⟨es, rfl, hp⟩ := h.t
 refine perm_intKeys hp (h.k es rfl) ?_ fun x => ?_
 ·unfold Ybv
  refine List.pairwise_map.2 (List.nodup_range.imp fun {a b} hab => ?_)
  omega
 ·rw [h.h, decide_eq_true_eq, Ybv, List.mem_map]
  constructor
  ·rintro ⟨i, hi, rfl⟩
   have := List.mem_range.1 hi
   omega
  ·rintro ⟨h1, h2, h3⟩
   exact ⟨x.toNat - (L.length - 200), List.mem_range.2 (by omega), by omega⟩
theorem Ybh.sorted {D : DataW Value} {L : List Ev} (h : Ybh D L) : Yak (intKeys D) = Ybv L.length := by
 show (intKeys D).mergeSort (fun x y => decide (x ≤ y)) = _
 rw [← mergeSort_of_perm_i h.keys]
 refine List.mergeSort_of_pairwise ?_
 unfold Ybv
 refine List.pairwise_map.2 (List.pairwise_lt_range.imp fun {a b} hab => ?_)
 simp; omega
theorem Ybh.size {D : DataW Value} {L : List Ev} (h : Ybh D L) : Maps.size D ≤ 1000 := by
 rw [Ye7 D h.t.isMap, ← h.keys.length_eq, Ybv]
 simp; omega
theorem Ybh.evAt {D : DataW Value} {L : List Ev} (h : Ybh D L) : EvAt D (fun k => L.getD k.toNat Ev.zero) := by
 intro k hk
 have h1 := h.keys.mem_iff.2 hk
 unfold Ybv at h1
 obtain ⟨i, hi, rfl⟩ := List.mem_map.1 h1
 have := List.mem_range.1 hi
 rw [h.e _ (by omega) (by omega)]
 simp only [Int.toNat_natCast]
theorem Ydo (L : List Ev) : (Ybv L.length).map (fun k => L.getD k.toNat Ev.zero) = L.drop (L.length - 200) := by
 apply List.ext_getElem
 ·simp [Ybv]; omega
 ·intro i h1 h2
  simp [Ybv] at h1 h2 ⊢
  rw [List.getElem?_eq_getElem (by omega)]
  rfl
structure Cd where
 l : List Int
 i : ByteArray
 L : List Ev
def IsC (w : World) (c b g : Nat) (C : Cd) : Prop := ∃ D, Yat w c b g C.l C.i C.L.length C.L.length D ∧ Ybh D C.L
theorem IsC.keep {w w' : World} {c b g : Nat} {C : Cd} {S : List Nat} (h : IsC w c b g C) (u : Upd S w w') (hc : c ∉ S) (hb : b ∉ S) (hg : g ∉ S) : IsC w' c b g C := by
 obtain ⟨D, h1, h2⟩ := h
 exact ⟨D, h1.keep u hc hb hg, h2⟩
def doR (M : Mem) (s : St) (C : Cd) : Int :=
 if s.R 0 = 1 then s.R 3 else if s.R 0 = 3 then (if rdK M (s.R 1) (rdN C.i (s.R 2)) = true then (rdN C.i (s.R 2) : Int) else 4294967282)
 else if s.R 0 = 4 then wrR M (s.R 1) (s.R 2) else if s.R 0 = 91 ∨ s.R 0 = 125 ∨ s.R 0 = 192 then chR M (s.R 0) (s.R 3) (s.R 1) (s.R 2)
 else match C.l with | [] => 4294967258 | x :: _ => x
def doS (M : Mem) (s : St) (C : Cd) : ByteArray :=
 if s.R 0 = 3 then (if rdK M (s.R 1) (rdN C.i (s.R 2)) = true then C.i.extract 0 (rdN C.i (s.R 2)) else ByteArray.empty)
 else if s.R 0 = 4 then wrS M (s.R 1) (s.R 2) else ByteArray.empty
def doI (M : Mem) (s : St) (C : Cd) : ByteArray :=
 if s.R 0 = 3 then (if rdK M (s.R 1) (rdN C.i (s.R 2)) = true then C.i.extract (rdN C.i (s.R 2)) C.i.size else C.i) else C.i
def doM (M : Mem) (s : St) (C : Cd) : Mem :=
 if s.R 0 = 3 then (if rdK M (s.R 1) (rdN C.i (s.R 2)) = true then Yae M (s.R 1) (Yn (C.i.extract 0 (rdN C.i (s.R 2)))) (rdN C.i (s.R 2)) else M)
 else if s.R 0 = 91 ∨ s.R 0 = 125 ∨ s.R 0 = 192 then chM M (s.R 0) (s.R 3) (s.R 1) (s.R 2) else M
def Yck (n : Int) : Bool := decide (n ≠ 1 ∧ n ≠ 3 ∧ n ≠ 4 ∧ n ≠ 91 ∧ n ≠ 125 ∧ n ≠ 192)
def doL (s : St) (C : Cd) : List Int := if Yck (s.R 0) = true then C.l.tail else C.l
def doE (M : Mem) (s : St) (C : Cd) : Ev := ⟨s.R 0, s.R 3, s.R 1, s.R 2, doR M s C, doS M s C⟩
def doC (M : Mem) (s : St) (C : Cd) : Cd := ⟨doL s C, doI M s C, C.L ++ [doE M s C]⟩
theorem Do_any (M : Mem) (a pb c b g : Nat) (C : Cd) (s : St) (w : World) (hM : Yd w a pb M) (hC : IsC w c b g C) (ne : c ≠ a ∧ c ≠ pb ∧ b ≠ a ∧ b ≠ pb ∧ g ≠ a ∧ g ≠ pb) (hs : s.Ok) (hn : C.L.length < 1000000) :
  Calls Try.prog 12 #[.pointer (some ⟨c, 0, none⟩), .pointer (some ⟨a, 0, none⟩), .agg s.cells] w fun e w' => e = .returned (.tuple #[.agg (s.setR 0 (doR M s C)).cells, .bool (decide (s.R 0 = 1))]) ∧ Yd w' a pb (doM M s C) ∧ IsC w' c b g (doC M s C) ∧ Upd [c, b, pb] w w' := by
 obtain ⟨D, hCl, hD⟩ := hC
 have hst := hD.step (doE M s C)
 have fin : ∀ (w' : World) (l2 : List Int) (i2 : ByteArray) (R : Int) (S : ByteArray), l2 = doL s C → i2 = doI M s C → R = doR M s C → S = doS M s C →
   Yat w' c b g l2 i2 (C.L.length + 1) (C.L.length + 1) ((D.put (.int .i64 C.L.length) (.held (Ev.val ⟨s.R 0, s.R 3, s.R 1, s.R 2, R, S⟩))).del (.int .i64 (C.L.length - 200))) → IsC w' c b g (doC M s C) := by
  rintro w' l2 i2 R S rfl rfl rfl rfl h
  refine ⟨_, ?_, hst⟩
  unfold doC
  simp only [List.length_append, List.length_singleton]
  exact h
 by_cases h1 : s.R 0 = 1
 ·refine (Do_exit M a pb c b g _ C.l C.i D s w hM hCl ne hs hn h1).mono ?_
  rintro e w' ⟨rfl, h3, h4, h5⟩
  have e1 : doR M s C = s.R 3 := by unfold doR; rw [if_pos h1]
  refine ⟨by rw [e1, decide_eq_true h1], ?_, fin w' _ _ _ _ ?_ ?_ e1.symm ?_ h4, h5⟩
  ·unfold doM; simp [h1]; exact h3
  ·unfold doL Yck; simp [h1]
  ·unfold doI; simp [h1]
  ·unfold doS; simp [h1]
 ·by_cases h2 : s.R 0 = 3
  ·refine (Do_read M a pb c b g _ C.l C.i D s w hM hCl ne hs hn h2).mono ?_
   rintro e w' ⟨RV, SV, IV, MV, ⟨rfl, h3, h4, h5⟩, p1, p2⟩
   cases hk : rdK M (s.R 1) (rdN C.i (s.R 2))
   ·obtain ⟨rfl, rfl, rfl, e4⟩ := p2 hk
    rw [e4] at h3
    have e1 : doR M s C = 4294967282 := by unfold doR; rw [if_neg h1, if_pos h2, hk]; rfl
    refine ⟨by rw [e1, decide_eq_false h1], ?_, fin w' _ _ _ _ ?_ ?_ e1.symm ?_ h4, h5⟩
    ·unfold doM; simp [h2, hk]; exact h3
    ·unfold doL Yck; simp [h2]
    ·unfold doI; simp [h2, hk]
    ·unfold doS; simp [h2, hk]
   ·obtain ⟨rfl, rfl, rfl, e4⟩ := p1 hk
    rw [e4] at h3
    have e1 : doR M s C = (rdN C.i (s.R 2) : Int) := by unfold doR; rw [if_neg h1, if_pos h2, hk]; rfl
    refine ⟨by rw [e1, decide_eq_false h1], ?_, fin w' _ _ _ _ ?_ ?_ e1.symm ?_ h4, h5⟩
    ·unfold doM; rw [if_pos h2, if_pos hk]; exact h3
    ·unfold doL Yck; simp [h2]
    ·unfold doI; rw [if_pos h2, if_pos hk]
    ·unfold doS; rw [if_pos h2, if_pos hk]
  ·by_cases h3 : s.R 0 = 4
   ·refine (Do_write M a pb c b g _ C.l C.i D s w hM hCl ne hs hn h3).mono ?_
    rintro e w' ⟨rfl, q1, q2, q3⟩
    have e1 : doR M s C = wrR M (s.R 1) (s.R 2) := by unfold doR; rw [if_neg h1, if_neg h2, if_pos h3]
    refine ⟨by rw [e1, decide_eq_false h1], ?_, fin w' _ _ _ _ ?_ ?_ e1.symm ?_ q2, q3⟩
    ·unfold doM; simp [h3]; exact q1
    ·unfold doL Yck; simp [h3]
    ·unfold doI; simp [h3]
    ·unfold doS; simp [h3]
   ·by_cases h4 : s.R 0 = 91 ∨ s.R 0 = 125 ∨ s.R 0 = 192
    ·refine (Do_pages M a pb c b g _ C.l C.i D s w hM hCl ne hs hn h4).mono ?_
     rintro e w' ⟨rfl, q1, q2, q3⟩
     have e1 : doR M s C = chR M (s.R 0) (s.R 3) (s.R 1) (s.R 2) := by unfold doR; rw [if_neg h1, if_neg h2, if_neg h3, if_pos h4]
     refine ⟨by rw [e1, decide_eq_false h1], ?_, fin w' _ _ _ _ ?_ ?_ e1.symm ?_ q2, q3⟩
     ·unfold doM; rw [if_neg h2, if_pos h4]; exact q1
     ·unfold doL Yck; rw [if_neg (by simp; omega)]
     ·unfold doI; rw [if_neg h2]
     ·unfold doS; rw [if_neg h2, if_neg h3]
    ·have hq : s.R 0 ≠ 1 ∧ s.R 0 ≠ 3 ∧ s.R 0 ≠ 4 ∧ s.R 0 ≠ 91 ∧ s.R 0 ≠ 125 ∧ s.R 0 ≠ 192 := by omega
     have eL : doL s C = C.l.tail := by unfold doL Yck; rw [if_pos (by rw [decide_eq_true_eq]; exact hq)]
     cases hl : C.l with
     |nil =>
      refine (Do_none M a pb c b g _ C.l C.i D s w hM hCl ne hs hn hq hl).mono ?_
      rintro e w' ⟨rfl, q1, q2, q3⟩
      have e1 : doR M s C = 4294967258 := by unfold doR; rw [if_neg h1, if_neg h2, if_neg h3, if_neg h4, hl]
      refine ⟨by rw [e1, decide_eq_false h1], ?_, fin w' _ _ _ _ ?_ ?_ e1.symm ?_ q2, q3⟩
      ·unfold doM; rw [if_neg h2, if_neg h4]; exact q1
      ·rw [eL, hl]; rfl
      ·unfold doI; rw [if_neg h2]
      ·unfold doS; rw [if_neg h2, if_neg h3]
     |cons x t =>
      refine (Do_reply M a pb c b g _ C.l C.i D s w hM hCl ne hs hn hq x t hl).mono ?_
      rintro e w' ⟨rfl, q1, q2, q3⟩
      have e1 : doR M s C = x := by unfold doR; rw [if_neg h1, if_neg h2, if_neg h3, if_neg h4, hl]
      refine ⟨by rw [e1, decide_eq_false h1], ?_, fin w' _ _ _ _ ?_ ?_ e1.symm ?_ q2, q3⟩
      ·unfold doM; rw [if_neg h2, if_neg h4]; exact q1
      ·rw [eL, hl]; rfl
      ·unfold doI; rw [if_neg h2]
      ·unfold doS; rw [if_neg h2, if_neg h3]
def Cd.last (C : Cd) : List Ev := C.L.drop (C.L.length - 200)
theorem Ygo (c b g : Nat) (C : Cd) (w : World) (h : IsC w c b g C) :
  Calls Try.prog 15 #[.pointer (some ⟨c, 0, none⟩)] w fun e w' => ∃ v g', e = .returned v ∧ ESl w' v C.last g' ∧ Upd [] w w' := by
 obtain ⟨D, h1, h2⟩ := h
 refine (Ygh c b g _ _ C.l C.i D _ w h1 h2.evAt h2.size).mono ?_
 rw [h2.sorted, Ydo]
 intro e w' h
 exact h
theorem Left_all (c b g : Nat) (C : Cd) (w : World) (h : IsC w c b g C) :
  Calls Try.prog 14 #[.pointer (some ⟨c, 0, none⟩)] w fun e w' => e = .returned (.tuple #[.int .i64 C.l.length, .int .i64 C.i.size]) ∧ Upd [] w w' := by
 obtain ⟨D, h1, h2⟩ := h
 exact Left_any c b g _ _ C.l C.i D w h1
theorem Yf7 (l : List Int) (inp : ByteArray) (v : Value) (g : Nat) (w : World) (h : Rp w v l g) (hl : l.length ≤ 1000) :
  Calls Try.prog 10 #[v, .string inp] w fun e w' => ∃ c b g', e = .returned (.pointer (some ⟨c, 0, none⟩)) ∧ IsC w' c b g' ⟨l, inp, []⟩ ∧ (w.heap.size ≤ c ∧ w.heap.size ≤ b ∧ w.heap.size ≤ g') ∧ Upd [] w w' := by
 refine (NewC_any l inp v g w h hl).mono ?_
 rintro e w' ⟨c, b, g', h1, h2, h3, h4⟩
 exact ⟨c, b, g', h1, ⟨_, h2, Ybh.start⟩, h3, h4⟩
end
section
open Go.Maps
theorem Yd1 (n : Int) : Ybr true n = 0 := rfl
theorem IsC.where_ {w : World} {c b g : Nat} {C : Cd} (h : IsC w c b g C) : g < w.heap.size ∨ ∀ g', c ≠ g' → b ≠ g' → IsC w c b g' C := by
 obtain ⟨D, h1, h2⟩ := h
 obtain ⟨v, hv, hr⟩ := h1.hd
 rcases hr with h | ⟨o, c', C', T, f, e1, e2, e3, e4⟩
 ·exact .inr fun g' n1 n2 => ⟨D, ⟨⟨v, hv, .inl h⟩, h1.mp, h1.cb, n1, n2⟩, h2⟩
 ·exact .inl (Yj e3)
structure Kc (w : World) (a pb : Nat) (M : Mem) (c b : Nat) (C : Cd) (L : List (Nat × Obj)) (w1 : World) : Prop where
 m : Yd w1 a pb M
 cc : ∃ g, IsC w1 c b g C ∧ w.heap.size ≤ g ∧ g ≠ a ∧ g ≠ pb ∧ ∀ p ∈ L, p.1 ≠ g
 u : Upd [] w w1
 v : ∀ p ∈ L, w1.heap[p.1]? = some p.2
 s : L.Pairwise (fun p q => p.1 ≠ q.1)
 t : ∀ p ∈ L, w.heap.size ≤ p.1 ∧ p.1 ≠ a ∧ p.1 ≠ pb ∧ p.1 ≠ c ∧ p.1 ≠ b
 o : w.heap.size ≤ a ∧ w.heap.size ≤ pb ∧ w.heap.size ≤ c ∧ w.heap.size ≤ b
 ne : c ≠ a ∧ c ≠ pb ∧ b ≠ a ∧ b ≠ pb
section
variable {w w1 w2 : World} {a pb c b x : Nat} {M M2 : Mem} {C : Cd} {L : List (Nat × Obj)} {o o' : Obj} {T : St}
theorem Kc.lts (h : Kc w a pb M c b C L w1) : a < w1.heap.size ∧ pb < w1.heap.size ∧ c < w1.heap.size ∧ b < w1.heap.size := by
 obtain ⟨g, ⟨D, h1, _⟩, _⟩ := h.cc
 obtain ⟨v, hv, _⟩ := h1.hd
 exact ⟨h.m.al, h.m.pl, Yj hv, h1.mp.lt⟩
theorem Kc.get (h : Kc w a pb M c b C L w1) (n : Nat) (hn : L[n]? = some (x, o)) : w1.heap[x]? = some o := h.v (x, o) (List.mem_of_getElem? hn)
theorem Kc.quiet (h : Kc w a pb M c b C L w1) (u : Upd [] w1 w2) : Kc w a pb M c b C L w2 := by
 obtain ⟨g, h1, h2⟩ := h.cc
 exact ⟨h.m.keep u (by simp) (by simp), ⟨g, h1.keep u (by simp) (by simp) (by simp), h2⟩, h.u.also u (by simp), fun p hp => u.get (h.v p hp) (by simp), h.s, h.t, h.o, h.ne⟩
theorem Kc.step (h : Kc w a pb M c b C L w1) (hm : Yd w2 a pb M2) (u : Upd [pb] w1 w2) : Kc w a pb M2 c b C L w2 := by
 obtain ⟨g, h1, h2, h3, h4, h5⟩ := h.cc
 exact ⟨hm, ⟨g, h1.keep u (by simpa using h.ne.2.1) (by simpa using h.ne.2.2.2) (by simpa using h4), h2, h3, h4, h5⟩, h.u.also u (fun z hz => .inr (by rw [List.mem_singleton.1 hz]; exact h.o.2.1)), fun p hp => u.get (h.v p hp) (by simpa using (h.t p hp).2.2.1), h.s, h.t, h.o, h.ne⟩
theorem Kc.add (h : Kc w a pb M c b C L w1) (u : Upd [] w1 w2) (ho : w2.heap[w1.heap.size]? = some o) : Kc w a pb M c b C ((w1.heap.size, o) :: L) w2 := by
 have hq := h.quiet u
 have hl := h.lts
 have ht : ∀ p ∈ (w1.heap.size, o) :: L, w.heap.size ≤ p.1 ∧ p.1 ≠ a ∧ p.1 ≠ pb ∧ p.1 ≠ c ∧ p.1 ≠ b := by
  intro p hp
  rcases List.mem_cons.1 hp with rfl | hp
  ·exact ⟨h.u.size, by dsimp only; omega, by dsimp only; omega, by dsimp only; omega, by dsimp only; omega⟩
  ·exact h.t p hp
 have hv : ∀ p ∈ (w1.heap.size, o) :: L, w2.heap[p.1]? = some p.2 := by
  intro p hp
  rcases List.mem_cons.1 hp with rfl | hp
  ·exact ho
  ·exact hq.v p hp
 refine ⟨hq.m, ?_, hq.u, hv, List.pairwise_cons.2 ⟨fun q hq => Nat.ne_of_gt (Yj (h.v q hq)), h.s⟩, ht, h.o, h.ne⟩
 obtain ⟨g, h1, h2, h3, h4, h5⟩ := h.cc
 rcases h1.where_ with hw | hw
 ·refine ⟨g, h1.keep u (by simp) (by simp) (by simp), h2, h3, h4, fun p hp => ?_⟩
  rcases List.mem_cons.1 hp with rfl | hp
  ·dsimp only; omega
  ·exact h5 p hp
 ·have hu := u.size
  have hsz := h.u.size
  refine ⟨w2.heap.size, (hw w2.heap.size (by omega) (by omega)).keep u (by simp) (by simp) (by simp), by omega, by omega, by omega, fun p hp => ?_⟩
  have := Yj (hv p hp)
  omega
theorem Kc.put (h : Kc w a pb M c b C L w1) (n : Nat) (hn : L[n]? = some (x, o)) (u : Upd [x] w1 w2) (ho : w2.heap[x]? = some o') : Kc w a pb M c b C (L.set n (x, o')) w2 := by
 have ht := h.t _ (List.mem_of_getElem? hn)
 dsimp only at ht
 obtain ⟨hl, he⟩ := List.getElem?_eq_some_iff.1 hn
 have hs := List.pairwise_iff_getElem.1 h.s
 have hc : ∀ p, p ∈ L.set n (x, o') → p = (x, o') ∨ (p ∈ L ∧ p.1 ≠ x) := by
  intro p hp
  obtain ⟨j, hj⟩ := List.mem_iff_getElem?.1 hp
  rw [List.getElem?_set] at hj
  by_cases e : n = j
  ·subst e
   simp only [if_true, hl] at hj
   exact .inl (Option.some.inj hj).symm
  ·simp only [e, if_false] at hj
   obtain ⟨hl2, he2⟩ := List.getElem?_eq_some_iff.1 hj
   refine .inr ⟨List.mem_of_getElem? hj, fun hh => ?_⟩
   rcases Nat.lt_or_gt_of_ne e with h1 | h1
   ·have := hs n j hl hl2 h1; rw [he, he2] at this; exact this hh.symm
   ·have := hs j n hl2 hl h1; rw [he, he2] at this; exact this hh
 obtain ⟨g, h1, h2, h3, h4, h5⟩ := h.cc
 have hg := h5 _ (List.mem_of_getElem? hn)
 refine ⟨h.m.keep u (by simpa using fun e => ht.2.1 e.symm) (by simpa using fun e => ht.2.2.1 e.symm), ⟨g, h1.keep u (by simpa using fun e => ht.2.2.2.1 e.symm) (by simpa using fun e => ht.2.2.2.2 e.symm) (by simpa using fun e => hg e.symm), h2, h3, h4, fun p hp => ?_⟩, h.u.also u (fun z hz => .inr (by rw [List.mem_singleton.1 hz]; exact ht.1)), fun p hp => ?_, ?_, fun p hp => ?_, h.o, h.ne⟩
 ·rcases hc p hp with rfl | ⟨q1, q2⟩
  ·exact hg
  ·exact h5 p q1
 ·rcases hc p hp with rfl | ⟨q1, q2⟩
  ·exact ho
  ·exact u.get (h.v p q1) (by simpa using q2)
 ·refine List.pairwise_iff_getElem.2 fun i j hi hj hij => ?_
  rw [List.length_set] at hi hj
  have h1 : ∀ q (hq : q < L.length) (hq2 : q < (L.set n (x, o')).length), ((L.set n (x, o'))[q]).1 = (L[q]).1 := by
   intro q hq hq2
   rw [List.getElem_set]
   split
   ·rename_i e; subst e; rw [he]
   ·rfl
  rw [h1 i hi (by rw [List.length_set]; exact hi), h1 j hj (by rw [List.length_set]; exact hj)]
  exact hs i j hi hj hij
 ·rcases hc p hp with rfl | ⟨q1, q2⟩
  ·exact ht
  ·exact h.t p q1
theorem Kc.putR (h : Kc w a pb M c b C L w1) (n : Nat) (hn : L[n]? = some (x, .cells T.cells 37 (0, 0))) (k : Nat) (hk : k < 8) (v : Int) : Kc w a pb M c b C (L.set n (x, .cells (T.setR k v).cells 37 (0, 0))) (w1.setCell ⟨x, k, none⟩ (.int .u32 v)) :=
 h.put n hn ((Upd.refl [x] w1).setCell (p := ⟨x, k, none⟩) (.inl (by simp)) _) (by rw [← St.cells_setR T k v hk]; exact Ye (h.get n hn) k _)
theorem Kc.one (h : Kc w a pb M c b C L w1) (hw : (w1.alloc (.cells St.zero.cells 37)).setCells w1.heap.size 0 T.cells.toList = w2) : Kc w a pb M c b C ((w1.heap.size, .cells T.cells 37 (0, 0)) :: L) w2 := by
 subst hw
 exact h.add (((Upd.refl [] w1).alloc _).setCells (.inr (Nat.le_refl _)) _ _) (Ydz T (heap_alloc_new w1 _) (St.size _))
theorem Kc.start {n g : Nat} (hm : Yd w1 a pb M) (hC : IsC w1 c b g C) (hu : Upd [] w w1) (h1 : w.heap.size ≤ a ∧ w.heap.size ≤ pb) (h2 : a < n ∧ pb < n) (h3 : n ≤ c ∧ n ≤ b ∧ n ≤ g) : Kc w a pb M c b C [] w1 :=
 ⟨hm, ⟨g, hC, by omega, by omega, by omega, fun p hp => by simp at hp⟩, hu, fun p hp => by simp at hp, List.Pairwise.nil, fun p hp => by simp at hp, by omega, by omega⟩
theorem Yee (h : Kc w a pb M c b C L w1) (s : St) (hs : s.Ok) (hn : C.L.length < 1000000) :
  Calls Try.prog 12 #[.pointer (some ⟨c, 0, none⟩), .pointer (some ⟨a, 0, none⟩), .agg s.cells] w1 fun e w' => e = .returned (.tuple #[.agg (s.setR 0 (doR M s C)).cells, .bool (decide (s.R 0 = 1))]) ∧ Kc w a pb (doM M s C) c b (doC M s C) L w' := by
 obtain ⟨g, h1, h2, h3, h4, h5⟩ := h.cc
 refine (Do_any M a pb c b g C s w1 h.m h1 ⟨h.ne.1, h.ne.2.1, h.ne.2.2.1, h.ne.2.2.2, h3, h4⟩ hs hn).mono ?_
 rintro e w2 ⟨q1, q2, q3, u⟩
 refine ⟨q1, q2, ⟨g, q3, h2, h3, h4, h5⟩, h.u.also u (fun z hz => .inr ?_), fun p hp => u.get (h.v p hp) ?_, h.s, h.t, h.o, h.ne⟩
 ·simp at hz; have := h.o; omega
 ·have := h.t p hp; simp; omega
theorem Yg3 (h : Kc w a pb M c b C L w1) : Calls Try.prog 15 #[.pointer (some ⟨c, 0, none⟩)] w1 fun e w' => ∃ v g', e = .returned v ∧ ESl w' v C.last g' ∧ Upd [] w1 w' := by
 obtain ⟨g, h1, _⟩ := h.cc
 exact Ygo c b g C w1 h1
theorem Left_kc (h : Kc w a pb M c b C L w1) : Calls Try.prog 14 #[.pointer (some ⟨c, 0, none⟩)] w1 fun e w' => e = .returned (.tuple #[.int .i64 C.l.length, .int .i64 C.i.size]) ∧ Upd [] w1 w' := by
 obtain ⟨g, h1, _⟩ := h.cc
 exact Left_all c b g C w1 h1
end
theorem rp_lit (w : World) (l : List Int) (T : TypeId) (n : Nat) (hn : n = l.length) (C : Array Value) (hC : C = (l.map (Value.int .u32)).toArray) : Rp (w.alloc (.cells C T)) (.slice (some ⟨w.heap.size, 0, none⟩) n n) l w.heap.size := by
 subst hn hC
 refine .inr ⟨0, _, _, _, _, rfl, Nat.le_refl _, heap_alloc_new w _, fun i hi => ?_⟩
 rw [Nat.zero_add]
 simp [List.getElem?_eq_getElem hi]
theorem rp_none (w : World) (g : Nat) : Rp w (.slice none 0 0) [] g := .inl ⟨rfl, rfl⟩
end
section
open Go.Maps
def kaI : ByteArray := { data := #[104, 101, 108, 108, 111] }
def ka0 : Cd := ⟨[7], kaI, []⟩
def kaM : Mem := Mem.zero.mapM 0 1 3
def Ya9 : St := ((St.zero.setR 0 3).setR 1 8).setR 2 4
def kaC1 : Cd := doC kaM Ya9 ka0
def kaM1 : Mem := doM kaM Ya9 ka0
def Yaa : St := Ya9.setR 0 20
def kaC2 : Cd := doC kaM1 Yaa kaC1
def kaM2 : Mem := doM kaM1 Yaa kaC1
def kaC3 : Cd := doC kaM2 Yaa kaC2
def kaM3 : Mem := doM kaM2 Yaa kaC2
def Ybg : St := (Yaa.setR 0 1).setR 3 9
def kaC4 : Cd := doC kaM3 Ybg kaC3
def kaM4 : Mem := doM kaM3 Ybg kaC3
theorem ka_o1 : Ya9.Ok := St.setR_ok (St.setR_ok (St.setR_ok St.zero_ok 0 (by decide) (by decide)) 1 (by decide) (by decide)) 2 (by decide) (by decide)
theorem ka_o2 : Yaa.Ok := St.setR_ok ka_o1 0 (by decide) (by decide)
theorem ka_o4 : Ybg.Ok := St.setR_ok (St.setR_ok ka_o2 0 (by decide) (by decide)) 3 (by decide) (by decide)
theorem ka_map : Mem.zero.mapB 0 1 3 = true := by decide +kernel
theorem ka_r1 : doR kaM Ya9 ka0 = 4 := by decide +kernel
theorem ka_r2 : doR kaM1 Yaa kaC1 = 7 := by decide +kernel
theorem ka_r3 : doR kaM2 Yaa kaC2 = 4294967258 := by decide +kernel
theorem ka_r4 : doR kaM3 Ybg kaC3 = 9 := by decide +kernel
theorem ka_p : kaM4.peek 8 4 = [104, 101, 108, 108] := by decide +kernel
theorem ka_str : strOfNums [104, 101, 108, 108] = { data := #[104, 101, 108, 108] } := by decide +kernel
theorem Yfh : kaC4.last.length = 4 := by decide +kernel
theorem ka_l : kaC4.l.length = 0 := by decide +kernel
theorem ka_i : kaC4.i.size = 1 := by decide +kernel
theorem ka_e0s : (kaC4.last.getD 0 Ev.zero).s = { data := #[104, 101, 108, 108] } := by decide +kernel
theorem ka_e3r : (kaC4.last.getD 3 Ev.zero).r = 9 := by decide +kernel
theorem ESl.open_ {w : World} {v : Value} {l : List Ev} {g n : Nat} (h : ESl w v l g) (hl : l.length = n + 1) : ∃ o c, v = .slice (some ⟨g, o, none⟩) (n + 1) c := by
 rcases h with ⟨_, h⟩ | ⟨o, c, C, f, h1, _, _⟩
 ·rw [h] at hl; cases hl
 ·exact ⟨o, c, by rw [h1, hl]⟩
theorem ESl.cell {w : World} {l : List Ev} {g o c n : Nat} (h : ESl w (.slice (some ⟨g, o, none⟩) n c) l g) (k : Nat) (hk : k < l.length) (j : Nat) (hj : j < 6) : w.cell? ⟨g, o + k * 6 + j, none⟩ = (l.getD k Ev.zero).cells[j]? := by
 have hx : l[k]? = some (l.getD k Ev.zero) := by rw [List.getD_eq_getElem?_getD, List.getElem?_eq_getElem hk]; rfl
 have e : (l.getD k Ev.zero).cells[j]? = some ((l.getD k Ev.zero).cells[j]'(by simpa [Ev.cells] using hj)) := Array.getElem?_eq_getElem _
 rw [e]
 exact h.at hx j _ (by rw [Array.getElem?_toList]; exact e)
theorem ev_c5 (e : Ev) : e.cells[5]? = some (.string e.s) := rfl
theorem ev_c4 (e : Ev) : e.cells[4]? = some (.int .u32 e.r) := rfl
theorem Ydq (w : World) : Calls Try.prog 8 #[] w fun e w' => e = .returned (.bool true) ∧ Upd [] w w' := by
 have tok : True := trivial
 go_enter Try.func8, Try.ntmps8
 go_wp2_with (first | (have _t := tok; clear _t; go_at_call 9; refine (Ygc _).mono ?_; rintro e w1 ⟨a, pb, rfl, ha, hp, hM1, hu1⟩; clear tok) | (have _t := hM1; clear _t; go_at_call 10; refine (Yf7 [7] kaI _ w1.heap.size _ (rp_lit w1 [7] _ 1 rfl _ rfl) (by decide)).mono ?_; rintro e w2 ⟨c, b, g', rfl, hC, hz, hu2⟩; have ua := (Upd.refl [] w1).alloc (.cells #[.int .u32 7] 31); have K0 := Yh_ (show Kc w a pb Mem.zero c b ka0 [] w2 from Kc.start (n := w1.heap.size) (hM1.keep (ua.also hu2 (by simp)) (by simp) (by simp)) hC ((hu1.also ua (by simp)).also hu2 (by simp)) ⟨ha, hp⟩ ⟨hM1.al, hM1.pl⟩ ⟨Nat.le_trans ua.size hz.1, Nat.le_trans ua.size hz.2.1, Nat.le_trans ua.size hz.2.2⟩); clear hu1 ha hp hM1 hC hz hu2 ua) | (have _t := K0; clear _t; go_at_call 11; refine (Yda Mem.zero a pb 0 1 3 _ K0.out.m (by decide)).mono ?_; rintro e w3 ⟨rfl, hm, hu⟩; rw [ka_map, Yd1]; have K1 := Yh_ (show Kc w a pb kaM c b ka0 [] w3 from K0.out.step hm hu); clear hm hu K0) | (have _t := K1; clear _t; refine Ybi 37 rfl ?_; refine Yx St.zero w3.heap.size rfl _ _ rfl rfl rfl (heap_alloc_new w3 _) rfl ?_; intro w4 hw; have K2 := Yh_ (K1.out.one hw); have c0 : w4.cell? ⟨w3.heap.size, 0, none⟩ = some (.int .u32 (St.zero.R 0)) := (Ya (K2.out.get 0 rfl) 0).trans (St.cR _ 0 (by decide)); have c1 : w4.cell? ⟨w3.heap.size, 1, none⟩ = some (.int .u32 (St.zero.R 1)) := (Ya (K2.out.get 0 rfl) 1).trans (St.cR _ 1 (by decide)); have c2 : w4.cell? ⟨w3.heap.size, 2, none⟩ = some (.int .u32 (St.zero.R 2)) := (Ya (K2.out.get 0 rfl) 2).trans (St.cR _ 2 (by decide)); have fz := Yh (K2.out.get 0 rfl); have tk2 : True := trivial; clear hw K1) | (have _t := tk2; have _t2 := K2; clear _t _t2; refine Ybb 37 rfl ?_; clear tk2; have hk := (((K2.out).putR 0 rfl 0 (by decide) 3).putR 0 rfl 1 (by decide) 8).putR 0 rfl 2 (by decide) 4; dsimp only [List.set] at hk; have K3 := Yh_ (show Kc w a pb kaM c b ka0 [(w3.heap.size, .cells Ya9.cells 37 (0, 0))] _ from hk); clear hk K2 c0 c1 c2 fz; refine Yaj Ya9 w3.heap.size rfl _ rfl rfl (K3.out.get 0 rfl) ?_) | (have _t := K3; clear _t; go_at_call 12; refine (Yee K3.out Ya9 ka_o1 (by decide)).mono ?_; rintro e w5 ⟨rfl, hk⟩; rw [ka_r1, show decide (Ya9.R 0 = 1) = false from rfl]; have K4 := Yh_ hk; clear hk K3) | (have _t := K4; clear _t; refine Ybi 37 rfl ?_; refine Yx (Ya9.setR 0 4) w5.heap.size rfl _ _ rfl rfl rfl (heap_alloc_new w5 _) rfl ?_; intro w6 hw; have K5 := Yh_ (K4.out.one hw); have c0 : w6.cell? ⟨w3.heap.size, 0, none⟩ = some (.int .u32 (Ya9.R 0)) := (Ya (K5.out.get 1 rfl) 0).trans (St.cR _ 0 (by decide)); have fz := Yh (K5.out.get 1 rfl); have tk5 : True := trivial; clear hw K4) | (have _t := tk5; have _t2 := K5; clear _t _t2; refine Ybb 37 rfl ?_; clear tk5; have hk := (K5.out).putR 1 rfl 0 (by decide) 20; dsimp only [List.set] at hk; have K6 := Yh_ (show Kc w a pb kaM1 c b kaC1 [(w5.heap.size, .cells (Ya9.setR 0 4).cells 37 (0, 0)), (w3.heap.size, .cells Yaa.cells 37 (0, 0))] _ from hk); clear hk K5 c0 fz; refine Yaj Yaa w3.heap.size rfl _ rfl rfl (K6.out.get 1 rfl) ?_) | (have _t := K6; clear _t; go_at_call 12; refine (Yee K6.out Yaa ka_o2 (by decide)).mono ?_; rintro e w7 ⟨rfl, hk⟩; rw [ka_r2, show decide (Yaa.R 0 = 1) = false from rfl]; have K7 := Yh_ hk; clear hk K6) | (have _t := K7; clear _t; refine Ybi 37 rfl ?_; refine Yx (Yaa.setR 0 7) w7.heap.size rfl _ _ rfl rfl rfl (heap_alloc_new w7 _) rfl ?_; intro w8 hw; have K8 := Yh_ (K7.out.one hw); have tk8 : True := trivial; clear hw K7) | (have _t := tk8; have _t2 := K8; clear _t _t2; refine Ybb 37 rfl ?_; clear tk8; have hk := K8.out; have K9 := Yh_ (show Kc w a pb kaM2 c b kaC2 [(w7.heap.size, .cells (Yaa.setR 0 7).cells 37 (0, 0)), (w5.heap.size, .cells (Ya9.setR 0 4).cells 37 (0, 0)), (w3.heap.size, .cells Yaa.cells 37 (0, 0))] _ from hk); clear hk K8 ; refine Yaj Yaa w3.heap.size rfl _ rfl rfl (K9.out.get 2 rfl) ?_) | (have _t := K9; clear _t; go_at_call 12; refine (Yee K9.out Yaa ka_o2 (by decide)).mono ?_; rintro e w9 ⟨rfl, hk⟩; rw [ka_r3, show decide (Yaa.R 0 = 1) = false from rfl]; have K10 := Yh_ hk; clear hk K9) | (have _t := K10; clear _t; refine Ybi 37 rfl ?_; refine Yx (Yaa.setR 0 4294967258) w9.heap.size rfl _ _ rfl rfl rfl (heap_alloc_new w9 _) rfl ?_; intro w10 hw; have K11 := Yh_ (K10.out.one hw); have c0 : w10.cell? ⟨w3.heap.size, 0, none⟩ = some (.int .u32 (Yaa.R 0)) := (Ya (K11.out.get 3 rfl) 0).trans (St.cR _ 0 (by decide)); have c3 : w10.cell? ⟨w3.heap.size, 3, none⟩ = some (.int .u32 (Yaa.R 3)) := (Ya (K11.out.get 3 rfl) 3).trans (St.cR _ 3 (by decide)); have fz := Yh (K11.out.get 3 rfl); have tk11 : True := trivial; clear hw K10) | (have _t := tk11; have _t2 := K11; clear _t _t2; refine Ybb 37 rfl ?_; clear tk11; have hk := ((K11.out).putR 3 rfl 0 (by decide) 1).putR 3 rfl 3 (by decide) 9; dsimp only [List.set] at hk; have K12 := Yh_ (show Kc w a pb kaM3 c b kaC3 [(w9.heap.size, .cells (Yaa.setR 0 4294967258).cells 37 (0, 0)), (w7.heap.size, .cells (Yaa.setR 0 7).cells 37 (0, 0)), (w5.heap.size, .cells (Ya9.setR 0 4).cells 37 (0, 0)), (w3.heap.size, .cells Ybg.cells 37 (0, 0))] _ from hk); clear hk K11 c0 c3 fz; refine Yaj Ybg w3.heap.size rfl _ rfl rfl (K12.out.get 3 rfl) ?_) | (have _t := K12; clear _t; go_at_call 12; refine (Yee K12.out Ybg ka_o4 (by decide)).mono ?_; rintro e w11 ⟨rfl, hk⟩; rw [ka_r4, show decide (Ybg.R 0 = 1) = true from rfl]; have K13 := Yh_ hk; clear hk K12) | (have _t := K13; clear _t; refine Ybi 37 rfl ?_; refine Yx (Ybg.setR 0 9) w11.heap.size rfl _ _ rfl rfl rfl (heap_alloc_new w11 _) rfl ?_; intro w12 hw; have K14 := Yh_ (K13.out.one hw); clear hw K13) | (have _t := K14; clear _t; go_at_call 15; refine (Yg3 K14.out).mono ?_; rintro e w13 ⟨ve, ge, rfl, hE, hu⟩; obtain ⟨oe, ce, rfl⟩ := hE.open_ (n := 3) Yfh; have K15 := Yh_ (show Kc w a pb kaM4 c b kaC4 [(w11.heap.size, .cells (Ybg.setR 0 9).cells 37 (0, 0)), (w9.heap.size, .cells (Yaa.setR 0 4294967258).cells 37 (0, 0)), (w7.heap.size, .cells (Yaa.setR 0 7).cells 37 (0, 0)), (w5.heap.size, .cells (Ya9.setR 0 4).cells 37 (0, 0)), (w3.heap.size, .cells Ybg.cells 37 (0, 0))] w13 from K14.out.quiet hu); have HE := Yh_ (show ESl w13 _ kaC4.last ge from hE); clear hu hE K14) | (have _t := K15; clear _t; go_at_call 14; refine (Left_kc K15.out).mono ?_; rintro e w14 ⟨rfl, hu⟩; rw [ka_l, ka_i]; have K16 := Yh_ (show Kc w a pb kaM4 c b kaC4 [(w11.heap.size, .cells (Ybg.setR 0 9).cells 37 (0, 0)), (w9.heap.size, .cells (Yaa.setR 0 4294967258).cells 37 (0, 0)), (w7.heap.size, .cells (Yaa.setR 0 7).cells 37 (0, 0)), (w5.heap.size, .cells (Ya9.setR 0 4).cells 37 (0, 0)), (w3.heap.size, .cells Ybg.cells 37 (0, 0))] w14 from K15.out.quiet hu); have HE2 := Yh_ (HE.out.keep hu (by simp)); have d1 : w14.cell? ⟨w5.heap.size, 0, none⟩ = some (.int .u32 4) := (Ya (K16.out.get 3 rfl) 0).trans (St.cR _ 0 (by decide)); have d2 : w14.cell? ⟨w7.heap.size, 0, none⟩ = some (.int .u32 7) := (Ya (K16.out.get 2 rfl) 0).trans (St.cR _ 0 (by decide)); have d3 : w14.cell? ⟨w9.heap.size, 0, none⟩ = some (.int .u32 4294967258) := (Ya (K16.out.get 1 rfl) 0).trans (St.cR _ 0 (by decide)); clear hu K15 HE) | (have _t := K16; clear _t; go_at_call 13; refine (Ydt kaM4 a pb 8 4 _ K16.out.m (by decide) (by decide) (by decide) (by decide)).mono ?_; rintro e w15 ⟨v2, rfl, hown, hu⟩; have hcv := Yeh hown; rw [ka_p, ka_str] at hcv; have K17 := Yh_ (show Kc w a pb kaM4 c b kaC4 [(w11.heap.size, .cells (Ybg.setR 0 9).cells 37 (0, 0)), (w9.heap.size, .cells (Yaa.setR 0 4294967258).cells 37 (0, 0)), (w7.heap.size, .cells (Yaa.setR 0 7).cells 37 (0, 0)), (w5.heap.size, .cells (Ya9.setR 0 4).cells 37 (0, 0)), (w3.heap.size, .cells Ybg.cells 37 (0, 0))] w15 from K16.out.quiet hu); have HE3 := Yh_ (HE2.out.keep hu (by simp)); have d2 : w15.cell? ⟨w7.heap.size, 0, none⟩ = some (.int .u32 7) := (Ya (K17.out.get 2 rfl) 0).trans (St.cR _ 0 (by decide)); have d3 : w15.cell? ⟨w9.heap.size, 0, none⟩ = some (.int .u32 4294967258) := (Ya (K17.out.get 1 rfl) 0).trans (St.cR _ 0 (by decide)); have d4 : w15.cell? ⟨ge, oe + 5, none⟩ = some (.string { data := #[104, 101, 108, 108] }) := (by have h := HE3.out.cell 0 (by rw [Yfh]; decide) 5 (by decide); rw [ev_c5, ka_e0s] at h; exact h); have d5 : w15.cell? ⟨ge, oe + 18 + 4, none⟩ = some (.int .u32 9) := (by have h := HE3.out.cell 3 (by rw [Yfh]; decide) 4 (by decide); rw [ev_c4, ka_e3r] at h; exact h); clear hown hu K16 HE2))
 go_ret
 exact ⟨rfl, K17.out.u⟩
end
section
open Go.Maps
theorem New_kc {w w0 w1 : World} {a pb g : Nat} {M : Mem} {l : List Int} {i : ByteArray} {v : Value} (hu0 : Upd [] w w0) (ha : w0.heap.size ≤ a) (hp : w0.heap.size ≤ pb) (hM : Yd w1 a pb M) (hu1 : Upd [] w0 w1) (hr : Rp w1 v l g) (hl : l.length ≤ 1000) :
  Calls Try.prog 10 #[v, .string i] w1 fun e w' => ∃ c b, e = .returned (.pointer (some ⟨c, 0, none⟩)) ∧ Kc w a pb M c b ⟨l, i, []⟩ [] w' ∧ Upd [] w1 w' := by
 refine (Yf7 l i v g w1 hr hl).mono ?_
 rintro e w2 ⟨c, b, g', rfl, hC, hz, hu2⟩
 exact ⟨c, b, rfl, Kc.start (n := w1.heap.size) (hM.keep hu2 (by simp) (by simp)) hC ((hu0.also hu1 (by simp)).also hu2 (by simp)) ⟨Nat.le_trans hu0.size ha, Nat.le_trans hu0.size hp⟩ ⟨hM.al, hM.pl⟩ hz, hu2⟩
end
section
open Go.Maps
theorem Ycg {x : Int} {i : Nat} (h0 : 0 ≤ x) (h : x + i < 4294967296) : Yf x i = x + i := by unfold Yf; omega
def cwM0 : Mem := Mem.zero.mapM 1 1 3
def cwM (L : List Int) : Mem := cwM0.poke 256 L
def cw0 : Cd := ⟨[], ByteArray.empty, []⟩
def cwS (a n : Int) : St := (((St.zero.setR 0 4).setR 1 a).setR 2 n).setR 3 2
theorem cw_map : Mem.zero.mapB 1 1 3 = true := by decide +kernel
theorem cw_R0 (p : Nat) : cwM0.R p = if p = 1 then 3 else 0 := by
 unfold cwM0 Mem.mapM
 rw [cw_map]
 simp only [Mem.mapN, if_true, Mem.zero]
 by_cases h : p = 1
 ·subst h; rfl
 ·rw [if_neg h, if_neg (by simp; omega)]
theorem Yfp (M : Mem) (x : Int) (l : List Int) : ∀ j, (M.pokeN x l j).R = M.R
 |0 => rfl
 |j + 1 => by rw [Mem.pokeN]; exact Yfp M x l j
theorem cw_R (L : List Int) (p : Nat) : (cwM L).R p = if p = 1 then 3 else 0 := by
 unfold cwM Mem.poke
 split
 ·rw [Yfp, cw_R0]
 ·exact cw_R0 p
theorem cw_poke (L : List Int) (h : L.length ≤ 256) : cwM0.pokeB 256 L = true := by
 simp only [Mem.pokeB, Bool.and_eq_true, decide_eq_true_eq, List.all_eq_true, List.mem_range]
 refine ⟨by omega, fun i hi => ?_⟩
 rw [Ycg (by decide) (by omega), Mem.mappedB, cw_R0, if_pos (by omega)]
 simp; omega
theorem Yfq (L : List Int) (x : Int) (h0 : 0 ≤ x) (h1 : x < 16384) : (cwM L).can x 1 = decide (256 ≤ x ∧ x < 512) := by
 unfold Mem.can
 rw [cw_R, decide_eq_true h1]
 by_cases h : 256 ≤ x ∧ x < 512
 ·rw [if_pos (by omega), decide_eq_true h]; decide
 ·rw [if_neg (by omega), decide_eq_false h]; decide
theorem Ygv (L : List Int) (x : Int) (h0 : 256 ≤ x) (h1 : x < 512) : (cwM L).mappedB x = true := by
 unfold Mem.mappedB
 rw [cw_R, if_pos (by omega)]
 simp; omega
theorem cw_good (L : List Int) (a n k : Int) (ha : 0 ≤ a ∧ a < 800) (hn : 0 ≤ n) (hk : min n 64 = k) (h : k = 0 ∨ 256 ≤ a ∧ a + k ≤ 512) : wrR (cwM L) a n = k ∧ wrS (cwM L) a n = strOfNums ((cwM L).peek a k) := by
 have e : wrK (cwM L) a k.toNat = true := by
  unfold wrK
  rw [List.all_eq_true]
  intro i hi
  have := List.mem_range.1 hi
  rw [Ycg ha.1 (by omega), Yfq _ _ (by omega) (by omega)]
  simp; omega
 have e2 : (cwM L).peek a k = (cwM L).peekL a k.toNat := by
  unfold Mem.peek
  rw [show (min k 16384).toNat = k.toNat by omega, Yc6]
  intro t ht
  rw [Ycg ha.1 (by omega)]
  exact Ygv L _ (by omega) (by omega)
 unfold wrR wrS
 rw [hk, e, e2]
 exact ⟨rfl, rfl⟩
theorem cw_bad (L : List Int) (a n k : Int) (ha : 0 ≤ a ∧ a < 800) (hn : 0 ≤ n) (hk : min n 64 = k) (h : 0 < k) (h2 : a < 256 ∨ 512 < a + k) : wrR (cwM L) a n = 4294967282 ∧ wrS (cwM L) a n = ByteArray.empty := by
 have e : wrK (cwM L) a k.toNat = false := by
  unfold wrK
  rw [List.all_eq_false]
  by_cases h3 : a < 256 ∨ 512 ≤ a
  ·refine ⟨0, List.mem_range.2 (by omega), ?_⟩
   rw [Ycg ha.1 (by omega), Yfq _ _ (by omega) (by omega)]
   simp; omega
  ·refine ⟨(512 - a).toNat, List.mem_range.2 (by omega), ?_⟩
   rw [Ycg ha.1 (by omega), Yfq _ _ (by omega) (by omega)]
   simp; omega
 unfold wrR wrS
 rw [hk, e]
 exact ⟨rfl, rfl⟩
theorem cw_doM (M : Mem) (a n : Int) : doM M (cwS a n) cw0 = M := rfl
theorem cw_doR (M : Mem) (a n : Int) : doR M (cwS a n) cw0 = wrR M a n := rfl
theorem cw_doC (M : Mem) (a n R : Int) (S : ByteArray) (hR : wrR M a n = R) (hS : wrS M a n = S) : doC M (cwS a n) cw0 = ⟨[], ByteArray.empty, [⟨4, 2, a, n, R, S⟩]⟩ := by
 have e1 : doS M (cwS a n) cw0 = S := hS
 have e2 : doI M (cwS a n) cw0 = ByteArray.empty := rfl
 have e3 : doL (cwS a n) cw0 = [] := rfl
 unfold doC doE
 rw [e1, e2, e3, cw_doR, hR, show (cwS a n).R 0 = 4 from rfl, show (cwS a n).R 1 = a from rfl, show (cwS a n).R 2 = n from rfl, show (cwS a n).R 3 = 2 from rfl]
 simp only [cw0, List.nil_append]
theorem cw_last (a n R : Int) (S : ByteArray) : (Cd.mk [] ByteArray.empty [⟨4, 2, a, n, R, S⟩]).last = [⟨4, 2, a, n, R, S⟩] := rfl
theorem cwS_ok (a n : Int) (ha : 0 ≤ a ∧ a < 4294967296) (hn : 0 ≤ n ∧ n < 4294967296) : (cwS a n).Ok := St.setR_ok (St.setR_ok (St.setR_ok (St.setR_ok St.zero_ok 0 (by decide) (by decide)) 1 ha.1 ha.2) 2 hn.1 hn.2) 3 (by decide) (by decide)
structure PkB (P : World → Prop) (L : List Int) (i : Nat) (d : Nat → Bool) (r : Nat → Value) (w : World) : Prop where
 p : P w
 q : d i = true → ∃ g, Ya3 w (r i) L g
section
variable {P : World → Prop} {L : List Int} {i : Nat} {d : Nat → Bool} {r : Nat → Value} {w w1 : World}
theorem PkB.same (h : PkB P L i d r w) (j : Nat) (hj : i ≠ j) : PkB P L i (Yab d j) r w :=
 ⟨h.p, fun e => h.q (by simpa [Yab, hj] using e)⟩
theorem PkB.put (h : PkB P L i d r w) (hP : ∀ w w', P w → Upd [] w w' → P w') (u : Upd [] w w1) {v : Value} (hv : ∃ g, Ya3 w1 v L g) : PkB P L i (Yab d i) (Ybz r i v) w1 :=
 ⟨hP _ _ h.p u, fun _ => by simpa [Ybz] using hv⟩
end
end
section
open Go.Maps
theorem Ygf {w w1 : World} {a pb c b : Nat} {M : Mem} {C : Cd} {L : List (Nat × Obj)} (h : Kc w a pb M c b C L w1) : Calls Try.prog 15 #[.pointer (some ⟨c, 0, none⟩)] w1 fun e w' => ∃ v g', e = .returned v ∧ ESl w' v C.last g' ∧ Upd [] w1 w' ∧ w1.heap.size ≤ g' := by
 obtain ⟨g, ⟨D, h1, h2⟩, _⟩ := h.cc
 refine (Ydg c b g _ _ C.l C.i D _ w1 h1 h2.evAt h2.size).mono ?_
 rw [h2.sorted, Ydo]
 intro e w' h
 exact h
theorem cw_eqS (S : St) (w : World) : (binOp .eql 37 (.agg S.cells) (.agg S.cells)).run Try.prog w = .ok (.bool true) w := by
 rw [Yfb, St.eqB_self]
theorem bysl_far {w : World} {v : Value} {L : List Int} {g : Nat} (h : Ya3 w v L g) (x : Nat) (hx : w.heap.size ≤ x) : ∃ g', Ya3 w v L g' ∧ g' ≠ x := by
 rcases h with h | ⟨o, c, C, T, f, h1, h2, h3⟩
 ·exact ⟨x + 1, .inl h, by omega⟩
 ·exact ⟨g, .inr ⟨o, c, C, T, f, h1, h2, h3⟩, by have := Yj h2; omega⟩
theorem Yd7 (v0 : Value) (L : List Int) (n0 n : Int) (w : World) (gb : Nat) (hv : Ya3 w v0 L gb) (hL : ∀ i, 0 ≤ L.getD i 0 ∧ L.getD i 0 ≤ 255) (hm : L.length ≤ maxLen) (ha : 0 ≤ n0 ∧ n0 < 65536) (hn : 0 ≤ n ∧ n < 4294967296) :
  Calls Try.prog 6 #[v0, .int .u16 n0, .int .u32 n] w fun e w' => e = .returned (.bool true) ∧ Upd [] w w' := by
 obtain ⟨sv, sc, rfl⟩ := hv.form
 obtain ⟨ll, hll⟩ : ∃ ll : Int, ll = (L.length : Int) := ⟨_, rfl⟩
 have hcast : ((L.length : Nat) : Int) = ll := hll.symm
 have e0 : n0.tmod 800 = n0 % 800 := Int.tmod_eq_emod_of_nonneg ha.1
 obtain ⟨a, hab⟩ : ∃ a, n0 % 800 = a := ⟨_, rfl⟩
 rw [hab] at e0
 have hb : 0 ≤ a ∧ a < 800 := by omega
 have e1 : a % 4294967296 = a := by omega
 obtain ⟨k, hk⟩ : ∃ k, min n 64 = k := ⟨_, rfl⟩
 have HV := Yh_ (And.intro hv (And.intro hL hm))
 have HA := Yh_ (And.intro hb (And.intro hn hk))
 have tok : True := trivial
 clear hv hL hm hab ha hb
 by_cases hbig : 256 < ll
 ·have d0 : decide (256 < ll) = true := by simp [hbig]
  clear hll hbig e1 hk hn
  go_enter Try.func6, Try.ntmps6
  go_wp2_with (have _t := tok; clear _t; go_at_call 8; refine (Ydq _).mono ?_; rintro e w0 ⟨rfl, hu0⟩; clear tok)
  go_ret
  exact ⟨rfl, hu0⟩
 ·have d0 : decide (256 < ll) = false := by simp [hbig]
  have HP := Yh_ (cw_poke L (by omega))
  obtain ⟨R, hR⟩ : ∃ R, wrR (cwM L) a n = R := ⟨_, rfl⟩
  obtain ⟨S, hS⟩ : ∃ S, wrS (cwM L) a n = S := ⟨_, rfl⟩
  have HRS := Yh_ (And.intro hR hS)
  have hdC := Yh_ (cw_doC (cwM L) a n R S hR hS)
  have hdR := Yh_ ((cw_doR (cwM L) a n).trans hR)
  clear hll hbig hR hS hn
  go_enter Try.func6, Try.ntmps6
  go_upto_region 15 with (first
   |(have _t := tok; clear _t; go_at_call 8; refine (Ydq _).mono ?_; rintro e w0 ⟨rfl, hu0⟩; clear tok)
   |(have _t := hu0; clear _t; go_at_call 9; refine (Ygc _).mono ?_; rintro e w1 ⟨ma, pb, rfl, ha, hp, hM1, hu1⟩; have H0 := Yh_ (And.intro hu0 (And.intro ha (And.intro hp (And.intro hM1 hu1)))); clear hu0 ha hp hM1 hu1)
   |(have _t := H0; clear _t; go_at_call 11; refine (Yda Mem.zero ma pb 1 1 3 _ H0.out.2.2.2.1 (by decide)).mono ?_; rintro e w2 ⟨rfl, hm, hu⟩; rw [cw_map, Yd1]; have H1 := Yh_ (show Upd [] w w2 ∧ Yd w2 ma pb cwM0 from ⟨(H0.out.1.also H0.out.2.2.2.2 (by simp)).also hu (by have := H0.out.2.2.1; have := H0.out.1.size; intro x hx; rw [List.mem_singleton.1 hx]; exact .inr (by omega)), hm⟩); have HB := Yh_ (show w.heap.size ≤ ma ∧ w.heap.size ≤ pb from ⟨Nat.le_trans H0.out.1.size H0.out.2.1, Nat.le_trans H0.out.1.size H0.out.2.2.1⟩); clear hm hu H0)
   |(have _t := H1; clear _t; go_at_call 20; obtain ⟨g2, hg2, hgp⟩ := bysl_far HV.out.1 pb HB.out.2; refine (Poke_any cwM0 ma pb 256 _ L g2 _ H1.out.2 (by decide) (by decide) (hg2.keep H1.out.1 (by simp)) hgp HV.out.2.1 HV.out.2.2).mono ?_; clear hg2 hgp; rintro e w3 ⟨rfl, hm, hu⟩; rw [HP.out, Yd1]; have H2 := Yh_ (show Upd [] w w3 ∧ Yd w3 ma pb (cwM L) from ⟨H1.out.1.also hu (by have := HB.out; intro x hx; rw [List.mem_singleton.1 hx]; exact .inr (by omega)), hm⟩); clear hm hu H1)
   |(have _t := H2; clear _t; go_at_call 10; refine (New_kc (w0 := w) (l := []) (Upd.refl [] w) HB.out.1 HB.out.2 H2.out.2 H2.out.1 (rp_none w3 0) (by decide)).mono ?_; rintro e w4 ⟨c, b, rfl, hk0, _⟩; have K0 := Yh_ (show Kc w ma pb (cwM L) c b cw0 [] w4 from hk0); clear hk0 H2)
   |(have _t := K0; clear _t; refine Ybi 37 rfl ?_; refine Yx St.zero w4.heap.size rfl _ _ rfl rfl rfl (heap_alloc_new w4 _) rfl ?_; intro w5 hw; have K1 := Yh_ (K0.out.one hw); have c0 : w5.cell? ⟨w4.heap.size, 0, none⟩ = some (.int .u32 (St.zero.R 0)) := (Ya (K1.out.get 0 rfl) 0).trans (St.cR _ 0 (by decide)); have c1 : w5.cell? ⟨w4.heap.size, 1, none⟩ = some (.int .u32 (St.zero.R 1)) := (Ya (K1.out.get 0 rfl) 1).trans (St.cR _ 1 (by decide)); have c2 : w5.cell? ⟨w4.heap.size, 2, none⟩ = some (.int .u32 (St.zero.R 2)) := (Ya (K1.out.get 0 rfl) 2).trans (St.cR _ 2 (by decide)); have c3 : w5.cell? ⟨w4.heap.size, 3, none⟩ = some (.int .u32 (St.zero.R 3)) := (Ya (K1.out.get 0 rfl) 3).trans (St.cR _ 3 (by decide)); have fz := Yh (K1.out.get 0 rfl); clear hw K0)
   |(have _t2 := K1; clear _t2; refine Ybb 37 rfl ?_; have hk := (((K1.out.putR 0 rfl 0 (by decide) 4).putR 0 rfl 1 (by decide) a).putR 0 rfl 2 (by decide) n).putR 0 rfl 3 (by decide) 2; dsimp only [List.set] at hk; have K2 := Yh_ (show Kc w ma pb (cwM L) c b cw0 [(w4.heap.size, .cells (cwS a n).cells 37 (0, 0))] _ from hk); clear hk K1 c0 c1 c2 c3 fz; refine Yaj (cwS a n) w4.heap.size rfl _ rfl rfl (K2.out.get 0 rfl) ?_)
   |(have _t := K2; clear _t; go_at_call 12; refine (Yee K2.out (cwS a n) (cwS_ok a n (by have := HA.out; omega) HA.out.2.1) (by decide)).mono ?_; rintro e w6 ⟨rfl, hk⟩; rw [cw_doM, hdC.out] at hk; rw [hdR.out, show decide ((cwS a n).R 0 = 1) = false from rfl]; have K3 := Yh_ hk; clear hk K2)
   |(have _t := K3; clear _t; refine Ybi 37 rfl ?_; refine Yx ((cwS a n).setR 0 R) w6.heap.size rfl _ _ rfl rfl rfl (heap_alloc_new w6 _) rfl ?_; intro w7 hw; have K4 := Yh_ (K3.out.one hw); clear hw K3)
   |(have _t := K4; clear _t; go_at_call 15; refine (Ygf K4.out).mono ?_; rintro e w8 ⟨ve, ge, rfl, hE, hu, hge⟩; have HGE := Yh_ (show ge ≠ w4.heap.size by have := Yj (K4.out.get 1 rfl); omega); clear hge; rw [cw_last] at hE; obtain ⟨oe, ce, rfl⟩ := hE.open_ (n := 0) rfl; have K5 := Yh_ (K4.out.quiet hu); have HE := Yh_ hE; clear hu hE K4))
  have f0 : w8.cell? ⟨ge, oe, none⟩ = some (.int .u32 4) := by have h := HE.out.cell 0 Nat.zero_lt_one 0 (by decide); simp only [Nat.zero_mul, Nat.add_zero] at h; exact h
  have f1 : w8.cell? ⟨ge, oe + 1, none⟩ = some (.int .u32 2) := by have h := HE.out.cell 0 Nat.zero_lt_one 1 (by decide); simp only [Nat.zero_mul, Nat.add_zero] at h; exact h
  have f2 : w8.cell? ⟨ge, oe + 2, none⟩ = some (.int .u32 a) := by have h := HE.out.cell 0 Nat.zero_lt_one 2 (by decide); simp only [Nat.zero_mul, Nat.add_zero] at h; exact h
  have f3 : w8.cell? ⟨ge, oe + 3, none⟩ = some (.int .u32 n) := by have h := HE.out.cell 0 Nat.zero_lt_one 3 (by decide); simp only [Nat.zero_mul, Nat.add_zero] at h; exact h
  have f4 : w8.cell? ⟨ge, oe + 4, none⟩ = some (.int .u32 R) := by have h := HE.out.cell 0 Nat.zero_lt_one 4 (by decide); simp only [Nat.zero_mul, Nat.add_zero] at h; exact h
  have f5 : w8.cell? ⟨ge, oe + 5, none⟩ = some (.string S) := by have h := HE.out.cell 0 Nat.zero_lt_one 5 (by decide); simp only [Nat.zero_mul, Nat.add_zero] at h; exact h
  have f6 : w8.cell? ⟨w6.heap.size, 0, none⟩ = some (.int .u32 R) := (Ya (K5.out.get 0 rfl) 0).trans (St.cR _ 0 (by decide))
  refine Yq 46 (fun w1 => ∃ n, w1 = w8.drewN n) (fun _ _ => False) (by kernel_rfl) (by decide +kernel) ⟨1, rfl⟩ (fun _ _ _ h => h.elim) ?_
  simp only [List.take_succ_cons, List.take_zero, List.drop_succ_cons, List.drop_zero]
  iterate 46
   apply Yi rfl rfl
   ·intro K hK w5 hB1
    obtain ⟨n, rfl⟩ := hB1
    go_wp2_with fail
    first | exact hK _ ⟨n, rfl⟩ | exact ⟨n, rfl⟩
   ·exact ⟨_, rfl⟩
  refine Yk (fun _ w9 hB1 => ?_)
  obtain ⟨nn, rfl⟩ := hB1
  have K6 := Yh_ (K5.out.quiet (Yu (Upd.refl [] w8) nn))
  have HE2 := Yh_ (HE.out.keep (Yu (Upd.refl [] w8) nn) (by simp))
  generalize w8.drewN nn = w9 at K6 HE2 ⊢
  clear f0 f1 f2 f3 f4 f5 f6 K5 HE
  have f6 : w9.cell? ⟨w6.heap.size, 0, none⟩ = some (.int .u32 R) := (Ya (K6.out.get 0 rfl) 0).trans (St.cR _ 0 (by decide))
  have f7 : w9.cell? ⟨w4.heap.size, 0, none⟩ = some (.int .u32 4) := (Ya (K6.out.get 1 rfl) 0).trans (St.cR _ 0 (by decide))
  have f8 := Yh (K6.out.get 1 rfl)
  go_upto_region 18 with fail
  have hk7 := K6.out.putR 1 rfl 0 (by decide) R
  dsimp only [List.set] at hk7
  rw [show (cwS a n).setR 0 R = (cwS a n).setR 0 R from rfl] at hk7
  have K7 := Yh_ (show Kc w ma pb (cwM L) c b ⟨[], ByteArray.empty, [⟨4, 2, a, n, R, S⟩]⟩ [(w6.heap.size, .cells ((cwS a n).setR 0 R).cells 37 (0, 0)), (w4.heap.size, .cells ((cwS a n).setR 0 R).cells 37 (0, 0))] _ from hk7)
  have HE3 := Yh_ (HE2.out.keep (w' := w9.setCell ⟨w4.heap.size, 0, none⟩ (.int .u32 R)) ((Upd.refl [w4.heap.size] w9).setCell (p := ⟨w4.heap.size, 0, none⟩) (.inl (by simp)) _) (by simpa using HGE.out))
  generalize w9.setCell ⟨w4.heap.size, 0, none⟩ (.int .u32 R) = w10 at K7 HE3 ⊢
  clear f6 f7 f8 hk7 K6 HE2 hdC hdR
  have f6 : w10.cell? ⟨w6.heap.size, 0, none⟩ = some (.int .u32 R) := (Ya (K7.out.get 0 rfl) 0).trans (St.cR _ 0 (by decide))
  have f5 : w10.cell? ⟨ge, oe + 5, none⟩ = some (.string S) := by have h := HE3.out.cell 0 Nat.zero_lt_one 5 (by decide); simp only [Nat.zero_mul, Nat.add_zero] at h; exact h
  have hq := cw_eqS ((cwS a n).setR 0 R)
  obtain ⟨z, hz⟩ : ∃ z, a + k = z := ⟨_, rfl⟩
  have ez : z % 4294967296 = z := by have := HA.out; omega
  have tk1 : True := trivial
  have tk2 : True := trivial
  by_cases hb : 0 < k ∧ (a < 256 ∨ 512 < z)
  ·obtain ⟨e1, e2⟩ := HRS.out
   obtain ⟨q1, q2⟩ := cw_bad L a n k HA.out.1 HA.out.2.1.1 HA.out.2.2 hb.1 (by omega)
   rw [e1] at q1
   rw [e2] at q2
   subst q1 q2
   clear e1 e2
   have d1 : decide (0 < k) = true := by simp [hb.1]
   by_cases h3 : a < 256
   ·have d2 : decide (a < 256) = true := by simp [h3]
    clear hb h3
    go_wp2_with (first
     |(have _t := tk1; clear _t; refine Ybb 37 rfl ?_; clear tk1; refine Yas ((cwS a n).setR 0 4294967282) w6.heap.size rfl _ rfl rfl (K7.out.get 0 rfl) ?_)
     |(have _t := tk2; clear _t; refine Ybb 37 rfl ?_; clear tk2; refine Yas ((cwS a n).setR 0 4294967282) w4.heap.size rfl _ rfl rfl (K7.out.get 1 rfl) ?_))
    go_ret
    exact ⟨rfl, K7.out.u⟩
   ·have d2 : decide (a < 256) = false := by simp [h3]
    have d3 : decide (512 < z) = true := by simp; omega
    clear hb h3
    go_wp2_with (first
     |(have _t := tk1; clear _t; refine Ybb 37 rfl ?_; clear tk1; refine Yas ((cwS a n).setR 0 4294967282) w6.heap.size rfl _ rfl rfl (K7.out.get 0 rfl) ?_)
     |(have _t := tk2; clear _t; refine Ybb 37 rfl ?_; clear tk2; refine Yas ((cwS a n).setR 0 4294967282) w4.heap.size rfl _ rfl rfl (K7.out.get 1 rfl) ?_))
    go_ret
    exact ⟨rfl, K7.out.u⟩
  ·obtain ⟨e1, e2⟩ := HRS.out
   obtain ⟨q1, q2⟩ := cw_good L a n k HA.out.1 HA.out.2.1.1 HA.out.2.2 (by have := HA.out; omega)
   rw [e1] at q1
   rw [e2] at q2
   rw [← q1] at q2
   subst q2
   have HG := Yh_ (show 0 ≤ a ∧ a < 4294967296 ∧ -9223372036854775808 ≤ R ∧ R ≤ 9223372036854775807 by have := HA.out; omega)
   subst q1
   clear e1 e2
   by_cases h1 : 0 < R
   ·have d1 : decide (0 < R) = true := by simp [h1]
    have d2 : decide (a < 256) = false := by simp; omega
    have d3 : decide (512 < z) = false := by simp; omega
    clear hb h1
    go_wp2_with fail
    refine Yaq 23 (PkB (fun w1 => Kc w ma pb (cwM L) c b ⟨[], ByteArray.empty, [⟨4, 2, a, n, R, strOfNums ((cwM L).peek a R)⟩]⟩ [(w6.heap.size, .cells ((cwS a n).setR 0 R).cells 37 (0, 0)), (w4.heap.size, .cells ((cwS a n).setR 0 R).cells 37 (0, 0))] w1 ∧ ESl w1 (.slice (some ⟨ge, oe, none⟩) (0 + 1) ce) [(⟨4, 2, a, n, R, strOfNums ((cwM L).peek a R)⟩ : Ev)] ge) ((cwM L).peek a R) 14) (fun _ _ => False) (by kernel_rfl) (by decide +kernel) (fun r0 => ⟨⟨K7.out.quiet (Upd.refl [] _).drew, HE3.out.keep (Upd.refl [] _).drew (by simp)⟩, by simp⟩) (fun _ _ _ h => h.elim) ?_
    simp only [List.take_succ_cons, List.take_zero, List.drop_succ_cons, List.drop_zero]
    iterate 14
     apply Yb rfl rfl
     ·intro dn r0 K hd hdep hK w11 hB1
      have f6 : w11.cell? ⟨w6.heap.size, 0, none⟩ = some (.int .u32 R) := (Ya (hB1.p.1.get 0 rfl) 0).trans (St.cR _ 0 (by decide))
      have f5 : w11.cell? ⟨ge, oe + 5, none⟩ = some (.string (strOfNums ((cwM L).peek a R))) := by have h := hB1.p.2.cell 0 Nat.zero_lt_one 5 (by decide); simp only [Nat.zero_mul, Nat.add_zero] at h; exact h
      have HB1 := Yh_ hB1
      clear hB1 hdep
      go_wp2_with fail
      first
      |exact hK _ (HB1.out.same _ (by decide))
      |exact HB1.out.same _ (by decide)
     ·exact ⟨_, rfl⟩
    refine Yb3 rfl (fun _ => rfl) 149 rfl (by simp [Act.put]) ?_ ?_
    ·intro dn r0 K hd w11 hB1 hK
     have HB1 := Yh_ hB1
     clear hB1
     simp only [Yg]
     go_wp2_with fail
     refine (Ydt (cwM L) ma pb a R _ HB1.out.p.1.m HG.out.1 HG.out.2.1 HG.out.2.2.1 HG.out.2.2.2).mono ?_
     rintro e w12 ⟨v, rfl, ho, hu⟩
     exact hK v w12 (HB1.out.put (fun w w' h u => ⟨h.1.quiet u, h.2.keep u (by simp)⟩) hu (Yfv ho))
    apply Yac rfl (fun _ => rfl)
    ·intro dn r0 K hd hdep hK w11 hB1
     have h14 : dn 14 = true := hdep ⟨14, .data⟩ (by simp) rfl
     obtain ⟨g5, hg5⟩ := hB1.q h14
     have hcv := Ydi hg5
     have HB1 := Yh_ hB1
     clear hB1 hdep hg5
     show Oper.wp _ _ (Act.put (Yg _ _ [] _) (some 149) (r0 14)) _ _ _
     simp only [Yg]
     go_wp2_with fail
     first
     |exact hK _ (HB1.out.same _ (by decide))
     |exact HB1.out.same _ (by decide)
    ·exact ⟨_, fun _ => rfl, Eq.symm (by go_simp; exact rfl)⟩
    iterate 3
     apply Yac rfl (fun _ => rfl)
     ·intro dn r0 K hd hdep hK w11 hB1
      have HB1 := Yh_ hB1
      clear hB1 hdep
      show Oper.wp _ _ (Act.put (Yg _ _ [] _) (some 149) (r0 14)) _ _ _
      simp only [Yg]
      go_wp2_with fail
      first
      |exact hK _ (HB1.out.same _ (by decide))
      |exact HB1.out.same _ (by decide)
     ·exact ⟨_, fun _ => rfl, Eq.symm (by go_simp; exact rfl)⟩
    apply Yac rfl (fun _ => rfl)
    ·intro dn r0 K hd hdep hK w11 hB1
     refine Yt ((cwS a n).setR 0 R) _ _ rfl rfl (hB1.p.1.get 0 rfl) ?_
     exact hK _ (hB1.same _ (by decide))
    ·exact ⟨_, fun _ => rfl, Eq.symm (by go_simp; exact rfl)⟩
    apply Yac rfl (fun _ => rfl)
    ·intro dn r0 K hd hdep hK w11 hB1
     refine Yt ((cwS a n).setR 0 R) _ _ rfl rfl (hB1.p.1.get 1 rfl) ?_
     exact hK _ (hB1.same _ (by decide))
    ·exact ⟨_, fun _ => rfl, Eq.symm (by go_simp; exact rfl)⟩
    iterate 2
     apply Yac rfl (fun _ => rfl)
     ·intro dn r0 K hd hdep hK w11 hB1
      have HB1 := Yh_ hB1
      clear hB1 hdep
      show Oper.wp _ _ (Act.put (Yg _ _ [] _) (some 149) (r0 14)) _ _ _
      simp only [Yg]
      go_wp2_with fail
      first
      |exact hK _ (HB1.out.same _ (by decide))
      |exact HB1.out.same _ (by decide)
     ·exact ⟨_, fun _ => rfl, Eq.symm (by go_simp; exact rfl)⟩
    refine Yag (fun _ r0 w12 dn hall hB2 => ?_)
    have hU := hB2.p.1.u
    clear hB2 hall
    show wpList _ _ _ _ (Act.put (Yg _ _ [] _) (some 149) (r0 14)) _
    simp only [Yg]
    go_wp2_with fail
    go_ret
    exact ⟨rfl, hU⟩
   ·have d1 : decide (0 < R) = false := by simp [h1]
    clear hb h1
    go_wp2_with fail
    refine Yaq 23 (PkB (fun w1 => Kc w ma pb (cwM L) c b ⟨[], ByteArray.empty, [⟨4, 2, a, n, R, strOfNums ((cwM L).peek a R)⟩]⟩ [(w6.heap.size, .cells ((cwS a n).setR 0 R).cells 37 (0, 0)), (w4.heap.size, .cells ((cwS a n).setR 0 R).cells 37 (0, 0))] w1 ∧ ESl w1 (.slice (some ⟨ge, oe, none⟩) (0 + 1) ce) [(⟨4, 2, a, n, R, strOfNums ((cwM L).peek a R)⟩ : Ev)] ge) ((cwM L).peek a R) 14) (fun _ _ => False) (by kernel_rfl) (by decide +kernel) (fun r0 => ⟨⟨K7.out.quiet (Upd.refl [] _).drew, HE3.out.keep (Upd.refl [] _).drew (by simp)⟩, by simp⟩) (fun _ _ _ h => h.elim) ?_
    simp only [List.take_succ_cons, List.take_zero, List.drop_succ_cons, List.drop_zero]
    iterate 14
     apply Yb rfl rfl
     ·intro dn r0 K hd hdep hK w11 hB1
      have f6 : w11.cell? ⟨w6.heap.size, 0, none⟩ = some (.int .u32 R) := (Ya (hB1.p.1.get 0 rfl) 0).trans (St.cR _ 0 (by decide))
      have f5 : w11.cell? ⟨ge, oe + 5, none⟩ = some (.string (strOfNums ((cwM L).peek a R))) := by have h := hB1.p.2.cell 0 Nat.zero_lt_one 5 (by decide); simp only [Nat.zero_mul, Nat.add_zero] at h; exact h
      have HB1 := Yh_ hB1
      clear hB1 hdep
      go_wp2_with fail
      first
      |exact hK _ (HB1.out.same _ (by decide))
      |exact HB1.out.same _ (by decide)
     ·exact ⟨_, rfl⟩
    refine Yb3 rfl (fun _ => rfl) 149 rfl (by simp [Act.put]) ?_ ?_
    ·intro dn r0 K hd w11 hB1 hK
     have HB1 := Yh_ hB1
     clear hB1
     simp only [Yg]
     go_wp2_with fail
     refine (Ydt (cwM L) ma pb a R _ HB1.out.p.1.m HG.out.1 HG.out.2.1 HG.out.2.2.1 HG.out.2.2.2).mono ?_
     rintro e w12 ⟨v, rfl, ho, hu⟩
     exact hK v w12 (HB1.out.put (fun w w' h u => ⟨h.1.quiet u, h.2.keep u (by simp)⟩) hu (Yfv ho))
    apply Yac rfl (fun _ => rfl)
    ·intro dn r0 K hd hdep hK w11 hB1
     have h14 : dn 14 = true := hdep ⟨14, .data⟩ (by simp) rfl
     obtain ⟨g5, hg5⟩ := hB1.q h14
     have hcv := Ydi hg5
     have HB1 := Yh_ hB1
     clear hB1 hdep hg5
     show Oper.wp _ _ (Act.put (Yg _ _ [] _) (some 149) (r0 14)) _ _ _
     simp only [Yg]
     go_wp2_with fail
     first
     |exact hK _ (HB1.out.same _ (by decide))
     |exact HB1.out.same _ (by decide)
    ·exact ⟨_, fun _ => rfl, Eq.symm (by go_simp; exact rfl)⟩
    iterate 3
     apply Yac rfl (fun _ => rfl)
     ·intro dn r0 K hd hdep hK w11 hB1
      have HB1 := Yh_ hB1
      clear hB1 hdep
      show Oper.wp _ _ (Act.put (Yg _ _ [] _) (some 149) (r0 14)) _ _ _
      simp only [Yg]
      go_wp2_with fail
      first
      |exact hK _ (HB1.out.same _ (by decide))
      |exact HB1.out.same _ (by decide)
     ·exact ⟨_, fun _ => rfl, Eq.symm (by go_simp; exact rfl)⟩
    apply Yac rfl (fun _ => rfl)
    ·intro dn r0 K hd hdep hK w11 hB1
     refine Yt ((cwS a n).setR 0 R) _ _ rfl rfl (hB1.p.1.get 0 rfl) ?_
     exact hK _ (hB1.same _ (by decide))
    ·exact ⟨_, fun _ => rfl, Eq.symm (by go_simp; exact rfl)⟩
    apply Yac rfl (fun _ => rfl)
    ·intro dn r0 K hd hdep hK w11 hB1
     refine Yt ((cwS a n).setR 0 R) _ _ rfl rfl (hB1.p.1.get 1 rfl) ?_
     exact hK _ (hB1.same _ (by decide))
    ·exact ⟨_, fun _ => rfl, Eq.symm (by go_simp; exact rfl)⟩
    iterate 2
     apply Yac rfl (fun _ => rfl)
     ·intro dn r0 K hd hdep hK w11 hB1
      have HB1 := Yh_ hB1
      clear hB1 hdep
      show Oper.wp _ _ (Act.put (Yg _ _ [] _) (some 149) (r0 14)) _ _ _
      simp only [Yg]
      go_wp2_with fail
      first
      |exact hK _ (HB1.out.same _ (by decide))
      |exact HB1.out.same _ (by decide)
     ·exact ⟨_, fun _ => rfl, Eq.symm (by go_simp; exact rfl)⟩
    refine Yag (fun _ r0 w12 dn hall hB2 => ?_)
    have hU := hB2.p.1.u
    clear hB2 hall
    show wpList _ _ _ _ (Act.put (Yg _ _ [] _) (some 149) (r0 14)) _
    simp only [Yg]
    go_wp2_with fail
    go_ret
    exact ⟨rfl, hU⟩
end
def k1 : Mem := Mem.zero.mapN (0 : Int).toNat (1 : Int).toNat 3
def k2 : Mem := k1.putN 0 16909060 (Ys 4).toNat
theorem wf_u32 {n : Int} (h : (Lit.int .u32 n).wf = true) : 0 ≤ n ∧ n < 4294967296 := by
 simp [Lit.wf, IntKind.min, IntKind.max, IntKind.signed, IntKind.bits] at h; omega
theorem wf_u16 {n : Int} (h : (Lit.int .u16 n).wf = true) : 0 ≤ n ∧ n < 65536 := by
 simp [Lit.wf, IntKind.min, IntKind.max, IntKind.signed, IntKind.bits] at h; omega
end Go.Proofs.Ytchoedlinimeaaa
