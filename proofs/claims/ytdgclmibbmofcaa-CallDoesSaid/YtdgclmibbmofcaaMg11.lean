/-
  Package call: calls as data: what Do makes of them; the latest events. No condition.
-/
import Derived.Test.YtdgclmibbmofcaaMg10
import Derived.Test.YtdgclmibbmofcaaMg06
import Derived.Test.YtdgclmibbmofcaaMg04
import Derived.Test.YtdgclmibbmofcaaMg02
import Derived.Test.YtdgclmibbmofcaaMg01
namespace Go.Proofs.Ytdgclmibbmofcaa
open Go Go.RowKit Go.Maps
set_option linter.unusedVariables false
set_option linter.unusedSimpArgs false

/-- The map of events after one more. -/
def evD (D : DataW Value) (n : Nat) (e : Ev) : DataW Value := (D.put (.int .i64 n) (.held e.val)).del (.int .i64 ((n : Int) - 200))
theorem mem_insert (x : Lit × DataW Value) : ∀ (l : List (Lit × DataW Value)) p, p ∈ DataW.insert x l → p = x ∨ p ∈ l
  | [], p, h => by simp [DataW.insert] at h; exact .inl h
  | y :: r, p, h => by
    unfold DataW.insert at h
    split at h
    · rcases List.mem_cons.1 h with h | h
      · exact .inl h
      · exact .inr h
    · rcases List.mem_cons.1 h with h | h
      · exact .inr (by rw [h]; simp)
      · rcases mem_insert x r p h with h | h
        · exact .inl h
        · exact .inr (List.mem_cons_of_mem _ h)
/-- The map holds the latest of the events L, by their numbers. -/
structure MdOk (D : DataW Value) (L : List Ev) : Prop where
  t : Tidy D
  k : ∀ es, D = .map es → ∀ p ∈ es, ∃ x : Int, p.1 = .int .i64 x
  h : ∀ x : Int, has D (.int .i64 x) = decide (0 ≤ x ∧ x < L.length ∧ L.length ≤ x + 200)
  e : ∀ i : Nat, i < L.length → L.length ≤ i + 200 → ∀ z, D.atKey (.int .i64 i) z = .held (L.getD i Ev.zero).val
theorem MdOk.start : MdOk (.map []) [] :=
  ⟨tidy_empty, fun es he p hp => by cases he; simp at hp, fun x => by simp [has]; omega, fun i hi => by simp at hi⟩
theorem lit_ne {a b : Int} (h : a ≠ b) : (Lit.int .i64 a) ≠ .int .i64 b := fun e => by injection e with _ e; exact h e
theorem MdOk.step {D : DataW Value} {L : List Ev} (h : MdOk D L) (e : Ev) : MdOk (evD D L.length e) (L ++ [e]) := by
  have hI : IsMap D := h.t.isMap
  refine ⟨(h.t.put (by simp [WideAt.IsKeyLit]) _).del _, ?_, fun x => ?_, fun i hi hi2 z => ?_⟩
  · obtain ⟨es, hD⟩ := hI
    subst hD
    intro es' he p hp
    simp only [evD, DataW.put, DataW.del, DataW.map.injEq] at he
    subst he
    rcases mem_insert _ _ _ (List.mem_filter.1 hp).1 with rfl | hp
    · exact ⟨_, rfl⟩
    · exact h.k es rfl p (List.mem_filter.1 hp).1
  · unfold evD
    rw [List.length_append, List.length_singleton]
    by_cases h1 : x = (L.length : Int) - 200
    · subst h1
      rw [has_del_same]
      symm; rw [decide_eq_false_iff_not]; omega
    · rw [has_del_other (lit_ne h1)]
      by_cases h2 : x = (L.length : Int)
      · subst h2
        rw [has_put_same hI (by simp [WideAt.IsKeyLit])]
        symm; rw [decide_eq_true_eq]; omega
      · rw [has_put_other (lit_ne h2), h.h]
        apply decide_eq_decide.2
        omega
  · unfold evD
    rw [List.length_append, List.length_singleton] at hi hi2
    rw [atKey_del_other (lit_ne (by omega))]
    by_cases h2 : i = L.length
    · subst h2
      rw [atKey_put_same hI (by simp [WideAt.IsKeyLit])]
      simp
    · rw [atKey_put_other (lit_ne (by omega)), h.e i (by omega) (by omega)]
      simp [List.getElem?_append_left (show i < L.length by omega)]
/-- Their numbers. -/
def lastN (n : Nat) : List Int := (List.range (min n 200)).map fun i => ((n - 200 + i : Nat) : Int)
theorem MdOk.keys {D : DataW Value} {L : List Ev} (h : MdOk D L) : (lastN L.length).Perm (intKeys D) := by
  obtain ⟨es, rfl, hp⟩ := h.t
  refine perm_intKeys hp (h.k es rfl) ?_ fun x => ?_
  · unfold lastN
    refine List.pairwise_map.2 (List.nodup_range.imp fun {a b} hab => ?_)
    omega
  · rw [h.h, decide_eq_true_eq, lastN, List.mem_map]
    constructor
    · rintro ⟨i, hi, rfl⟩
      have := List.mem_range.1 hi
      omega
    · rintro ⟨h1, h2, h3⟩
      exact ⟨x.toNat - (L.length - 200), List.mem_range.2 (by omega), by omega⟩
theorem MdOk.sorted {D : DataW Value} {L : List Ev} (h : MdOk D L) : sortI (intKeys D) = lastN L.length := by
  show (intKeys D).mergeSort (fun x y => decide (x ≤ y)) = _
  rw [← mergeSort_of_perm_i h.keys]
  refine List.mergeSort_of_pairwise ?_
  unfold lastN
  refine List.pairwise_map.2 (List.pairwise_lt_range.imp fun {a b} hab => ?_)
  simp; omega
theorem MdOk.size {D : DataW Value} {L : List Ev} (h : MdOk D L) : Maps.size D ≤ 1000 := by
  rw [size_keys D h.t.isMap, ← h.keys.length_eq, lastN]
  simp; omega
theorem MdOk.evAt {D : DataW Value} {L : List Ev} (h : MdOk D L) : EvAt D (fun k => L.getD k.toNat Ev.zero) := by
  intro k hk
  have h1 := h.keys.mem_iff.2 hk
  unfold lastN at h1
  obtain ⟨i, hi, rfl⟩ := List.mem_map.1 h1
  have := List.mem_range.1 hi
  rw [h.e _ (by omega) (by omega)]
  simp only [Int.toNat_natCast]
theorem last_events (L : List Ev) : (lastN L.length).map (fun k => L.getD k.toNat Ev.zero) = L.drop (L.length - 200) := by
  apply List.ext_getElem
  · simp [lastN]; omega
  · intro i h1 h2
    simp [lastN] at h1 h2 ⊢
    rw [List.getElem?_eq_getElem (by omega)]
    rfl

/-- Calls as data: what is left of replies and input; all events. -/
structure Cd where
  l : List Int
  i : ByteArray
  L : List Ev
def IsC (w : World) (c b g : Nat) (C : Cd) : Prop := ∃ D, IsCl w c b g C.l C.i C.L.length C.L.length D ∧ MdOk D C.L
theorem IsC.keep {w w' : World} {c b g : Nat} {C : Cd} {S : List Nat} (h : IsC w c b g C) (u : Upd S w w') (hc : c ∉ S) (hb : b ∉ S) (hg : g ∉ S) : IsC w' c b g C := by
  obtain ⟨D, h1, h2⟩ := h
  exact ⟨D, h1.keep u hc hb hg, h2⟩
/-- The result of a call. -/
def doR (M : Mem) (s : St) (C : Cd) : Int :=
  if s.R 0 = 1 then s.R 3 else if s.R 0 = 3 then (if rdK M (s.R 1) (rdN C.i (s.R 2)) = true then (rdN C.i (s.R 2) : Int) else 4294967282)
  else if s.R 0 = 4 then wrR M (s.R 1) (s.R 2) else if s.R 0 = 91 ∨ s.R 0 = 125 ∨ s.R 0 = 192 then chR M (s.R 0) (s.R 3) (s.R 1) (s.R 2)
  else match C.l with | [] => 4294967258 | x :: _ => x
def doS (M : Mem) (s : St) (C : Cd) : ByteArray :=
  if s.R 0 = 3 then (if rdK M (s.R 1) (rdN C.i (s.R 2)) = true then C.i.extract 0 (rdN C.i (s.R 2)) else ByteArray.empty)
  else if s.R 0 = 4 then wrS M (s.R 1) (s.R 2) else ByteArray.empty
def doI (M : Mem) (s : St) (C : Cd) : ByteArray :=
  if s.R 0 = 3 then (if rdK M (s.R 1) (rdN C.i (s.R 2)) = true then C.i.extract (rdN C.i (s.R 2)) C.i.size else C.i) else C.i
def doM (M : Mem) (s : St) (C : Cd) : Mem :=
  if s.R 0 = 3 then (if rdK M (s.R 1) (rdN C.i (s.R 2)) = true then rdMem M (s.R 1) (strInts (C.i.extract 0 (rdN C.i (s.R 2)))) (rdN C.i (s.R 2)) else M)
  else if s.R 0 = 91 ∨ s.R 0 = 125 ∨ s.R 0 = 192 then chM M (s.R 0) (s.R 3) (s.R 1) (s.R 2) else M
def isOdd (n : Int) : Bool := decide (n ≠ 1 ∧ n ≠ 3 ∧ n ≠ 4 ∧ n ≠ 91 ∧ n ≠ 125 ∧ n ≠ 192)
def doL (s : St) (C : Cd) : List Int := if isOdd (s.R 0) = true then C.l.tail else C.l
def doE (M : Mem) (s : St) (C : Cd) : Ev := ⟨s.R 0, s.R 3, s.R 1, s.R 2, doR M s C, doS M s C⟩
def doC (M : Mem) (s : St) (C : Cd) : Cd := ⟨doL s C, doI M s C, C.L ++ [doE M s C]⟩

theorem Do_any (M : Mem) (a pb c b g : Nat) (C : Cd) (s : St) (w : World) (hM : IsMem w a pb M) (hC : IsC w c b g C) (ne : c ≠ a ∧ c ≠ pb ∧ b ≠ a ∧ b ≠ pb ∧ g ≠ a ∧ g ≠ pb) (hs : s.Ok) (hn : C.L.length < 1000000) :
    Calls Try.prog 8 #[.pointer (some ⟨c, 0, none⟩), .pointer (some ⟨a, 0, none⟩), .agg s.cells] w fun e w' => e = .returned (.tuple #[.agg (s.setR 0 (doR M s C)).cells, .bool (decide (s.R 0 = 1))]) ∧ IsMem w' a pb (doM M s C) ∧ IsC w' c b g (doC M s C) ∧ Upd [c, b, pb] w w' := by
  obtain ⟨D, hCl, hD⟩ := hC
  have hst := hD.step (doE M s C)
  have fin : ∀ (w' : World) (l2 : List Int) (i2 : ByteArray) (R : Int) (S : ByteArray), l2 = doL s C → i2 = doI M s C → R = doR M s C → S = doS M s C →
      IsCl w' c b g l2 i2 (C.L.length + 1) (C.L.length + 1) ((D.put (.int .i64 C.L.length) (.held (Ev.val ⟨s.R 0, s.R 3, s.R 1, s.R 2, R, S⟩))).del (.int .i64 (C.L.length - 200))) → IsC w' c b g (doC M s C) := by
    rintro w' l2 i2 R S rfl rfl rfl rfl h
    refine ⟨_, ?_, hst⟩
    unfold doC
    simp only [List.length_append, List.length_singleton]
    exact h
  by_cases h1 : s.R 0 = 1
  · refine (Do_exit M a pb c b g _ C.l C.i D s w hM hCl ne hs hn h1).mono ?_
    rintro e w' ⟨rfl, h3, h4, h5⟩
    have e1 : doR M s C = s.R 3 := by unfold doR; rw [if_pos h1]
    refine ⟨by rw [e1, decide_eq_true h1], ?_, fin w' _ _ _ _ ?_ ?_ e1.symm ?_ h4, h5⟩
    · unfold doM; simp [h1]; exact h3
    · unfold doL isOdd; simp [h1]
    · unfold doI; simp [h1]
    · unfold doS; simp [h1]
  · by_cases h2 : s.R 0 = 3
    · refine (Do_read M a pb c b g _ C.l C.i D s w hM hCl ne hs hn h2).mono ?_
      rintro e w' ⟨RV, SV, IV, MV, ⟨rfl, h3, h4, h5⟩, p1, p2⟩
      cases hk : rdK M (s.R 1) (rdN C.i (s.R 2))
      · obtain ⟨rfl, rfl, rfl, e4⟩ := p2 hk
        rw [e4] at h3
        have e1 : doR M s C = 4294967282 := by unfold doR; rw [if_neg h1, if_pos h2, hk]; rfl
        refine ⟨by rw [e1, decide_eq_false h1], ?_, fin w' _ _ _ _ ?_ ?_ e1.symm ?_ h4, h5⟩
        · unfold doM; simp [h2, hk]; exact h3
        · unfold doL isOdd; simp [h2]
        · unfold doI; simp [h2, hk]
        · unfold doS; simp [h2, hk]
      · obtain ⟨rfl, rfl, rfl, e4⟩ := p1 hk
        rw [e4] at h3
        have e1 : doR M s C = (rdN C.i (s.R 2) : Int) := by unfold doR; rw [if_neg h1, if_pos h2, hk]; rfl
        refine ⟨by rw [e1, decide_eq_false h1], ?_, fin w' _ _ _ _ ?_ ?_ e1.symm ?_ h4, h5⟩
        · unfold doM; rw [if_pos h2, if_pos hk]; exact h3
        · unfold doL isOdd; simp [h2]
        · unfold doI; rw [if_pos h2, if_pos hk]
        · unfold doS; rw [if_pos h2, if_pos hk]
    · by_cases h3 : s.R 0 = 4
      · refine (Do_write M a pb c b g _ C.l C.i D s w hM hCl ne hs hn h3).mono ?_
        rintro e w' ⟨rfl, q1, q2, q3⟩
        have e1 : doR M s C = wrR M (s.R 1) (s.R 2) := by unfold doR; rw [if_neg h1, if_neg h2, if_pos h3]
        refine ⟨by rw [e1, decide_eq_false h1], ?_, fin w' _ _ _ _ ?_ ?_ e1.symm ?_ q2, q3⟩
        · unfold doM; simp [h3]; exact q1
        · unfold doL isOdd; simp [h3]
        · unfold doI; simp [h3]
        · unfold doS; simp [h3]
      · by_cases h4 : s.R 0 = 91 ∨ s.R 0 = 125 ∨ s.R 0 = 192
        · refine (Do_pages M a pb c b g _ C.l C.i D s w hM hCl ne hs hn h4).mono ?_
          rintro e w' ⟨rfl, q1, q2, q3⟩
          have e1 : doR M s C = chR M (s.R 0) (s.R 3) (s.R 1) (s.R 2) := by unfold doR; rw [if_neg h1, if_neg h2, if_neg h3, if_pos h4]
          refine ⟨by rw [e1, decide_eq_false h1], ?_, fin w' _ _ _ _ ?_ ?_ e1.symm ?_ q2, q3⟩
          · unfold doM; rw [if_neg h2, if_pos h4]; exact q1
          · unfold doL isOdd; rw [if_neg (by simp; omega)]
          · unfold doI; rw [if_neg h2]
          · unfold doS; rw [if_neg h2, if_neg h3]
        · have hq : s.R 0 ≠ 1 ∧ s.R 0 ≠ 3 ∧ s.R 0 ≠ 4 ∧ s.R 0 ≠ 91 ∧ s.R 0 ≠ 125 ∧ s.R 0 ≠ 192 := by omega
          have eL : doL s C = C.l.tail := by unfold doL isOdd; rw [if_pos (by rw [decide_eq_true_eq]; exact hq)]
          cases hl : C.l with
          | nil =>
            refine (Do_none M a pb c b g _ C.l C.i D s w hM hCl ne hs hn hq hl).mono ?_
            rintro e w' ⟨rfl, q1, q2, q3⟩
            have e1 : doR M s C = 4294967258 := by unfold doR; rw [if_neg h1, if_neg h2, if_neg h3, if_neg h4, hl]
            refine ⟨by rw [e1, decide_eq_false h1], ?_, fin w' _ _ _ _ ?_ ?_ e1.symm ?_ q2, q3⟩
            · unfold doM; rw [if_neg h2, if_neg h4]; exact q1
            · rw [eL, hl]; rfl
            · unfold doI; rw [if_neg h2]
            · unfold doS; rw [if_neg h2, if_neg h3]
          | cons x t =>
            refine (Do_reply M a pb c b g _ C.l C.i D s w hM hCl ne hs hn hq x t hl).mono ?_
            rintro e w' ⟨rfl, q1, q2, q3⟩
            have e1 : doR M s C = x := by unfold doR; rw [if_neg h1, if_neg h2, if_neg h3, if_neg h4, hl]
            refine ⟨by rw [e1, decide_eq_false h1], ?_, fin w' _ _ _ _ ?_ ?_ e1.symm ?_ q2, q3⟩
            · unfold doM; rw [if_neg h2, if_neg h4]; exact q1
            · rw [eL, hl]; rfl
            · unfold doI; rw [if_neg h2]
            · unfold doS; rw [if_neg h2, if_neg h3]

/-- The latest events. -/
def Cd.last (C : Cd) : List Ev := C.L.drop (C.L.length - 200)
theorem Events_all (c b g : Nat) (C : Cd) (w : World) (h : IsC w c b g C) :
    Calls Try.prog 18 #[.pointer (some ⟨c, 0, none⟩)] w fun e w' => ∃ v g', e = .returned v ∧ ESl w' v C.last g' ∧ Upd [] w w' := by
  obtain ⟨D, h1, h2⟩ := h
  refine (Events_any c b g _ _ C.l C.i D _ w h1 h2.evAt h2.size).mono ?_
  rw [h2.sorted, last_events]
  intro e w' h
  exact h
theorem Left_all (c b g : Nat) (C : Cd) (w : World) (h : IsC w c b g C) :
    Calls Try.prog 16 #[.pointer (some ⟨c, 0, none⟩)] w fun e w' => e = .returned (.tuple #[.int .i64 C.l.length, .int .i64 C.i.size]) ∧ Upd [] w w' := by
  obtain ⟨D, h1, h2⟩ := h
  exact Left_any c b g _ _ C.l C.i D w h1
theorem New_all (l : List Int) (inp : ByteArray) (v : Value) (g : Nat) (w : World) (h : Rp w v l g) (hl : l.length ≤ 1000) :
    Calls Try.prog 7 #[v, .string inp] w fun e w' => ∃ c b g', e = .returned (.pointer (some ⟨c, 0, none⟩)) ∧ IsC w' c b g' ⟨l, inp, []⟩ ∧ (w.heap.size ≤ c ∧ w.heap.size ≤ b ∧ w.heap.size ≤ g') ∧ Upd [] w w' := by
  refine (NewC_any l inp v g w h hl).mono ?_
  rintro e w' ⟨c, b, g', h1, h2, h3, h4⟩
  exact ⟨c, b, g', h1, ⟨_, h2, MdOk.start⟩, h3, h4⟩
end Go.Proofs.Ytdgclmibbmofcaa

/-
  The document's calls: plain facts on what they read and write. No condition.
-/
namespace Go.Proofs.Ytdgclmibbmofcaa
open Go Go.RowKit Go.Maps
set_option linter.unusedVariables false
set_option linter.unusedSimpArgs false

theorem canK_rd {M : Mem} (hM : M.Ok) (c : Int) (N : Nat) : M.canK c N 2 = rdK M c N := by
  rw [Mem.canK, canBad_bad hM c 2 N (by simp), Bool.eq_iff_iff, Option.isNone_iff_eq_none, bad_isNone, rdK, List.all_eq_true]
  simp
theorem canK_wr {M : Mem} (hM : M.Ok) (c : Int) (N : Nat) : M.canK c N 1 = wrK M c N := by
  rw [Mem.canK, canBad_bad hM c 1 N (by simp), Bool.eq_iff_iff, Option.isNone_iff_eq_none, bad_isNone, wrK, List.all_eq_true]
  simp
theorem rcplus0 {x : Int} (h0 : 0 ≤ x) (h1 : x < 4294967296) : plus x 0 = x := by unfold plus; omega
theorem rdMem_step {M : Mem} {c : Int} {N : Nat} (h : rdK M c N = true) (L : List Int) (k : Nat) (hk : k < N) : rdMem M c L (k + 1) = (rdMem M c L k).putN (plus c k) (L.getD k 0) 1 ∧ plus (plus c k) 0 < 16384 := by
  have hp := plus_nn c k
  have hl := plus_lt c k
  unfold rdK at h
  have hc := List.all_eq_true.1 h k (List.mem_range.2 hk)
  have hc2 : (rdMem M c L k).can (plus c k) 2 = true := by rw [can_R (rdMem_R M c L k)]; exact hc
  have hw := write1 (rdMem M c L k) (plus c k) 0 hp hl
  rw [hc2] at hw
  have e2 : (widthI 1).toNat = 1 := by decide
  refine ⟨?_, ?_⟩
  · show (rdMem M c L k).writeM (plus c k) 1 (L.getD k 0) = _
    unfold Mem.writeM
    unfold Mem.writeK at hw
    cases hb : (rdMem M c L k).bad (plus c k) 2 (widthI 1).toNat with
    | none => rw [e2]
    | some i => rw [hb] at hw; cases hw
  · rw [rcplus0 hp hl]; exact can_lt hp hc
theorem rcwr_get {M : Mem} {c : Int} {N : Nat} (h : wrK M c N = true) (k : Nat) (hk : k < N) : M.get (plus c k) 1 = M.B (plus c k).toNat ∧ plus (plus c k) 0 < 16384 := by
  have hp := plus_nn c k
  have hl := plus_lt c k
  unfold wrK at h
  have hc := List.all_eq_true.1 h k (List.mem_range.2 hk)
  refine ⟨?_, ?_⟩
  · simp only [Mem.get]; rw [rcplus0 hp hl]; simp
  · rw [rcplus0 hp hl]; exact can_lt hp hc
end Go.Proofs.Ytdgclmibbmofcaa

/-
  Events held against one another; rows of events told alike. No condition.
-/
namespace Go.Proofs.Ytdgclmibbmofcaa
open Go Go.RowKit Go.Maps
set_option linter.unusedVariables false
set_option linter.unusedSimpArgs false

set_option maxRecDepth 100000 in
theorem run_equalIn_ev (e : Ev) (w : World) (d : Nat) : (Op.equalIn (d + 1 + 1) 70 (.agg e.cells) (.agg e.cells)).run Try.prog w = .ok true w := by
  have hf : Try.prog.fieldsOf 70 = #[{ name := "N", type := 33, offset := 0, embedded := false, tag := "", pkgPath := "", byteOffset := 0 }, { name := "B", type := 33, offset := 1, embedded := false, tag := "", pkgPath := "", byteOffset := 4 },
    { name := "C", type := 33, offset := 2, embedded := false, tag := "", pkgPath := "", byteOffset := 8 }, { name := "D", type := 33, offset := 3, embedded := false, tag := "", pkgPath := "", byteOffset := 12 },
    { name := "Result", type := 33, offset := 4, embedded := false, tag := "", pkgPath := "", byteOffset := 16 }, { name := "Bytes", type := 9, offset := 5, embedded := false, tag := "", pkgPath := "", byteOffset := 24 }] := by kernel_rfl
  have hu : Try.prog.underlying 70 = some (.struct (Try.prog.fieldsOf 70)) := by kernel_rfl
  have hp : Try.prog.plainKey 33 = true := by kernel_rfl
  have hps : Try.prog.plainKey 9 = true := by kernel_rfl
  have hn := fun (a : Int) => run_equalIn_int (P := Try.prog) w d 33 .u32 .u32 a a Try.underlying33
  have hs := run_equalIn_string (P := Try.prog) w d 9 e.s e.s Try.underlying9
  have e1 : ∀ a : Int, (a == a) = true := fun a => by simp
  have e2 : (e.s.toList == e.s.toList) = true := by simp
  rw [e2] at hs
  have h1 : ∀ a : Int, (Op.equalIn (d + 1) 33 (.int .u32 a) (.int .u32 a)).run Try.prog w = .ok true w := fun a => by rw [hn a, e1]
  rw [run_equalIn_struct w _ 70 _ _ hu (by kernel_rfl), hf]
  show _ = Result.ok (true && (true && (true && (true && (true && (true && true)))))) w
  exact eqFields_cons (by decide) (run_part_plain w hp rfl) (run_part_plain w hp rfl) (h1 _) (eqFields_cons (by decide) (run_part_plain w hp rfl) (run_part_plain w hp rfl) (h1 _) (eqFields_cons (by decide) (run_part_plain w hp rfl) (run_part_plain w hp rfl) (h1 _) (eqFields_cons (by decide) (run_part_plain w hp rfl) (run_part_plain w hp rfl) (h1 _) (eqFields_cons (by decide) (run_part_plain w hp rfl) (run_part_plain w hp rfl) (h1 _) (eqFields_cons (by decide) (run_part_plain w hps rfl) (run_part_plain w hps rfl) hs eqFields_nil)))))
theorem run_neq_ev (e : Ev) (w : World) : (binOp .neq 70 (.agg e.cells) (.agg e.cells)).run Try.prog w = .ok (.bool false) w := by
  have h := run_equalIn_ev e w 9998
  rw [run_neq_struct]
  rw [show (10000 : Nat) = 9998 + 1 + 1 from rfl, h, Result.andThen_ok]; rfl
theorem ev_size6 : (Try.prog.info? 70).map (·.size) = some 6 := by kernel_rfl
theorem ESl.openAt {w : World} {l : List Ev} {g n c : Nat} {b : Option Addr} (h : ESl w (.slice b n c) l g) (hl : 0 < l.length) : ∃ o, b = some ⟨g, o, none⟩ := by
  rcases h with ⟨h, h2⟩ | ⟨o', c', C, f, h1, h2, h3⟩
  · rw [h2] at hl; cases hl
  · injection h1 with h1 _ _
    exact ⟨_, h1⟩
set_option maxRecDepth 100000 in
set_option maxHeartbeats 1000000 in
theorem EventsR_any (L : List Ev) (va vb : Value) (ga gb : Nat) (w : World) (h1 : ESl w va L ga) (h2 : ESl w vb L gb) (hl : L.length ≤ 1000) :
    Calls Try.prog 17 #[va, vb] w fun e w' => e = .returned (.bool true) ∧ Upd [] w w' := by
  obtain ⟨ba, ca, rfl⟩ := h1.form
  obtain ⟨bb, cb, rfl⟩ := h2.form
  obtain ⟨ln, hln⟩ : ∃ ln : Int, ln = (L.length : Int) := ⟨_, rfl⟩
  have ec : ((L.length : Nat) : Int) = ln := hln.symm
  have d0 : (ln != ln) = false := by simp
  have H := Lib.hid (And.intro h1 (And.intro h2 (And.intro hl hln)))
  clear h1 h2 hl hln
  go_enter Try.func17, Try.ntmps17
  go_wp2_with fail
  go_loopw [5] (fun i wr => ∃ q : Int, i = .int .i64 q ∧ Hid (0 ≤ q ∧ q ≤ ln) ∧ Hid (Upd [] w wr)) (fun i _ => (ln - intOf i).toNat)
  case atStart => exact ⟨0, rfl, Lib.hid (by have := H.out.2.2.2; omega), Lib.hid (Upd.refl _ _)⟩
  case round =>
    obtain ⟨q, rfl, hq, HU⟩ := hrel
    by_cases hlt : q < ln
    · have dlt : decide (q < ln) = true := by simp [hlt]
      have hqq := hq.out
      have hll := H.out.2.2.2
      have hls := H.out.2.2.1
      have ewq : wrap64 (q + 1) = q + 1 := by unfold wrap64; omega
      obtain ⟨oa, rfl⟩ := H.out.1.openAt (by omega)
      obtain ⟨ob, rfl⟩ := H.out.2.1.openAt (by omega)
      obtain ⟨e, he⟩ : ∃ e, L[q.toNat]? = some e := ⟨_, List.getElem?_eq_getElem (by omega)⟩
      have HA := Lib.hid (And.intro (ESl.at (H.out.1.keep HU.out (by simp)) he) (ESl.at (H.out.2.1.keep HU.out (by simp)) he))
      have hneq := fun w => run_neq_ev e w
      have bq : 0 ≤ q ∧ q < ln := by omega
      have HB := Lib.hid bq
      clear hqq hll hls he hlt
      go_upto_region 6 with fail
      refine wp_draw 9 (fun w1 => ∃ n, w1 = wr.drewN n) (fun _ _ => False) (by kernel_rfl) (by decide +kernel) ⟨1, rfl⟩ (fun _ _ _ h => h.elim) ?_
      simp only [List.take_succ_cons, List.take_zero, List.drop_succ_cons, List.drop_zero]
      apply headW_val rfl rfl
      · intro K hK w5 hB1
        obtain ⟨n, rfl⟩ := hB1
        go_wp2_with fail
        first | exact hK _ ⟨n, rfl⟩ | exact ⟨n, rfl⟩
      · exact ⟨_, rfl⟩
      apply headW_val rfl rfl
      · intro K hK w5 hB1
        obtain ⟨n, rfl⟩ := hB1
        go_wp2_with fail
        first | exact hK _ ⟨n, rfl⟩ | exact ⟨n, rfl⟩
      · exact ⟨_, rfl⟩
      apply headW_val rfl rfl
      · intro K hK w5 hB1
        obtain ⟨n, rfl⟩ := hB1
        go_wp2_with fail
        first | exact hK _ ⟨n, rfl⟩ | exact ⟨n, rfl⟩
      · exact ⟨_, rfl⟩
      apply headW_val rfl rfl
      · intro K hK w5 hB1
        obtain ⟨n, rfl⟩ := hB1
        refine wp_load_mid 70 _ rfl ga (oa + q.toNat * 6) rfl e.cells.toList _ (fun j u hu => HA.out.1 j u hu) Try.underlying70 rfl (by rw [Array.length_toList]; exact ev_size6) ?_
        rw [Array.toArray_toList]
        exact hK _ ⟨n, rfl⟩
      · exact ⟨_, rfl⟩
      apply headW_val rfl rfl
      · intro K hK w5 hB1
        obtain ⟨n, rfl⟩ := hB1
        go_wp2_with fail
        first | exact hK _ ⟨n, rfl⟩ | exact ⟨n, rfl⟩
      · exact ⟨_, rfl⟩
      apply headW_val rfl rfl
      · intro K hK w5 hB1
        obtain ⟨n, rfl⟩ := hB1
        go_wp2_with fail
        first | exact hK _ ⟨n, rfl⟩ | exact ⟨n, rfl⟩
      · exact ⟨_, rfl⟩
      apply headW_val rfl rfl
      · intro K hK w5 hB1
        obtain ⟨n, rfl⟩ := hB1
        go_wp2_with fail
        first | exact hK _ ⟨n, rfl⟩ | exact ⟨n, rfl⟩
      · exact ⟨_, rfl⟩
      apply headW_val rfl rfl
      · intro K hK w5 hB1
        obtain ⟨n, rfl⟩ := hB1
        refine wp_load_mid 70 _ rfl gb (ob + q.toNat * 6) rfl e.cells.toList _ (fun j u hu => HA.out.2 j u hu) Try.underlying70 rfl (by rw [Array.length_toList]; exact ev_size6) ?_
        rw [Array.toArray_toList]
        exact hK _ ⟨n, rfl⟩
      · exact ⟨_, rfl⟩
      apply headW_val rfl rfl
      · intro K hK w5 hB1
        obtain ⟨n, rfl⟩ := hB1
        go_wp2_with fail
        first | exact hK _ ⟨n, rfl⟩ | exact ⟨n, rfl⟩
      · exact ⟨_, rfl⟩
      refine headW_nil (fun _ w8 hB1 => ?_)
      obtain ⟨nn, rfl⟩ := hB1
      try simp only [ewq]
      go_wp2_with fail
      go_roundw
      case rel => exact ⟨q + 1, by first | rfl | rw [ewq], Lib.hid (by have := HB.out; omega), Lib.hid (Upd_drewN HU.out _)⟩
      case measure => have := HB.out; simp only [intOf]; omega
    · have hqn : q = ln := by have := hq.out; omega
      subst hqn
      have dlt : decide (q < q) = false := by simp
      go_wp2_with fail
      go_ret
      exact ⟨rfl, HU.out⟩
end Go.Proofs.Ytdgclmibbmofcaa

/-
  The laws of layer 14: along their walks: the memory, the calls, variables. No condition.
-/
namespace Go.Proofs.Ytdgclmibbmofcaa
open Go Go.RowKit Go.Maps
set_option linter.unusedVariables false
set_option linter.unusedSimpArgs false

theorem errC_yes (n : Int) : errI true n = 0 := rfl
/-- Replies that are none need no block. -/
theorem IsC.where_ {w : World} {c b g : Nat} {C : Cd} (h : IsC w c b g C) : g < w.heap.size ∨ ∀ g', c ≠ g' → b ≠ g' → IsC w c b g' C := by
  obtain ⟨D, h1, h2⟩ := h
  obtain ⟨v, hv, hr⟩ := h1.hd
  rcases hr with h | ⟨o, c', C', T, f, e1, e2, e3, e4⟩
  · exact .inr fun g' n1 n2 => ⟨D, ⟨⟨v, hv, .inl h⟩, h1.mp, h1.cb, n1, n2⟩, h2⟩
  · exact .inl (lt_of_heap e3)
structure Kc (w : World) (a pb : Nat) (M : Mem) (c b : Nat) (C : Cd) (L : List (Nat × Obj)) (w1 : World) : Prop where
  m : IsMem w1 a pb M
  cc : ∃ g, IsC w1 c b g C ∧ w.heap.size ≤ g ∧ g ≠ a ∧ g ≠ pb ∧ ∀ p ∈ L, p.1 ≠ g
  u : Upd [] w w1
  v : ∀ p ∈ L, w1.heap[p.1]? = some p.2
  s : L.Pairwise (fun p q => p.1 ≠ q.1)
  t : ∀ p ∈ L, w.heap.size ≤ p.1 ∧ p.1 ≠ a ∧ p.1 ≠ pb ∧ p.1 ≠ c ∧ p.1 ≠ b
  o : w.heap.size ≤ a ∧ w.heap.size ≤ pb ∧ w.heap.size ≤ c ∧ w.heap.size ≤ b
  ne : c ≠ a ∧ c ≠ pb ∧ b ≠ a ∧ b ≠ pb
section
variable {w w1 w2 : World} {a pb c b x : Nat} {M M2 : Mem} {C : Cd} {L : List (Nat × Obj)} {o o' : Obj} {T : St}
theorem Kc.lts (h : Kc w a pb M c b C L w1) : a < w1.heap.size ∧ pb < w1.heap.size ∧ c < w1.heap.size ∧ b < w1.heap.size := by
  obtain ⟨g, ⟨D, h1, _⟩, _⟩ := h.cc
  obtain ⟨v, hv, _⟩ := h1.hd
  exact ⟨h.m.al, h.m.pl, lt_of_heap hv, h1.mp.lt⟩
theorem Kc.get (h : Kc w a pb M c b C L w1) (n : Nat) (hn : L[n]? = some (x, o)) : w1.heap[x]? = some o := h.v (x, o) (List.mem_of_getElem? hn)
theorem Kc.quiet (h : Kc w a pb M c b C L w1) (u : Upd [] w1 w2) : Kc w a pb M c b C L w2 := by
  obtain ⟨g, h1, h2⟩ := h.cc
  exact ⟨h.m.keep u (by simp) (by simp), ⟨g, h1.keep u (by simp) (by simp) (by simp), h2⟩, h.u.also u (by simp), fun p hp => u.get (h.v p hp) (by simp), h.s, h.t, h.o, h.ne⟩
/-- The memory changes. -/
theorem Kc.step (h : Kc w a pb M c b C L w1) (hm : IsMem w2 a pb M2) (u : Upd [pb] w1 w2) : Kc w a pb M2 c b C L w2 := by
  obtain ⟨g, h1, h2, h3, h4, h5⟩ := h.cc
  exact ⟨hm, ⟨g, h1.keep u (by simpa using h.ne.2.1) (by simpa using h.ne.2.2.2) (by simpa using h4), h2, h3, h4, h5⟩, h.u.also u (fun z hz => .inr (by rw [List.mem_singleton.1 hz]; exact h.o.2.1)), fun p hp => u.get (h.v p hp) (by simpa using (h.t p hp).2.2.1), h.s, h.t, h.o, h.ne⟩
/-- One more variable. -/
theorem Kc.add (h : Kc w a pb M c b C L w1) (u : Upd [] w1 w2) (ho : w2.heap[w1.heap.size]? = some o) : Kc w a pb M c b C ((w1.heap.size, o) :: L) w2 := by
  have hq := h.quiet u
  have hl := h.lts
  have ht : ∀ p ∈ (w1.heap.size, o) :: L, w.heap.size ≤ p.1 ∧ p.1 ≠ a ∧ p.1 ≠ pb ∧ p.1 ≠ c ∧ p.1 ≠ b := by
    intro p hp
    rcases List.mem_cons.1 hp with rfl | hp
    · exact ⟨h.u.size, by dsimp only; omega, by dsimp only; omega, by dsimp only; omega, by dsimp only; omega⟩
    · exact h.t p hp
  have hv : ∀ p ∈ (w1.heap.size, o) :: L, w2.heap[p.1]? = some p.2 := by
    intro p hp
    rcases List.mem_cons.1 hp with rfl | hp
    · exact ho
    · exact hq.v p hp
  refine ⟨hq.m, ?_, hq.u, hv, List.pairwise_cons.2 ⟨fun q hq => Nat.ne_of_gt (lt_of_heap (h.v q hq)), h.s⟩, ht, h.o, h.ne⟩
  obtain ⟨g, h1, h2, h3, h4, h5⟩ := h.cc
  rcases h1.where_ with hw | hw
  · refine ⟨g, h1.keep u (by simp) (by simp) (by simp), h2, h3, h4, fun p hp => ?_⟩
    rcases List.mem_cons.1 hp with rfl | hp
    · dsimp only; omega
    · exact h5 p hp
  · have hu := u.size
    have hsz := h.u.size
    refine ⟨w2.heap.size, (hw w2.heap.size (by omega) (by omega)).keep u (by simp) (by simp) (by simp), by omega, by omega, by omega, fun p hp => ?_⟩
    have := lt_of_heap (hv p hp)
    omega
theorem Kc.put (h : Kc w a pb M c b C L w1) (n : Nat) (hn : L[n]? = some (x, o)) (u : Upd [x] w1 w2) (ho : w2.heap[x]? = some o') : Kc w a pb M c b C (L.set n (x, o')) w2 := by
  have ht := h.t _ (List.mem_of_getElem? hn)
  dsimp only at ht
  obtain ⟨hl, he⟩ := List.getElem?_eq_some_iff.1 hn
  have hs := List.pairwise_iff_getElem.1 h.s
  have hc : ∀ p, p ∈ L.set n (x, o') → p = (x, o') ∨ (p ∈ L ∧ p.1 ≠ x) := by
    intro p hp
    obtain ⟨j, hj⟩ := List.mem_iff_getElem?.1 hp
    rw [List.getElem?_set] at hj
    by_cases e : n = j
    · subst e
      simp only [if_true, hl] at hj
      exact .inl (Option.some.inj hj).symm
    · simp only [e, if_false] at hj
      obtain ⟨hl2, he2⟩ := List.getElem?_eq_some_iff.1 hj
      refine .inr ⟨List.mem_of_getElem? hj, fun hh => ?_⟩
      rcases Nat.lt_or_gt_of_ne e with h1 | h1
      · have := hs n j hl hl2 h1; rw [he, he2] at this; exact this hh.symm
      · have := hs j n hl2 hl h1; rw [he, he2] at this; exact this hh
  obtain ⟨g, h1, h2, h3, h4, h5⟩ := h.cc
  have hg := h5 _ (List.mem_of_getElem? hn)
  refine ⟨h.m.keep u (by simpa using fun e => ht.2.1 e.symm) (by simpa using fun e => ht.2.2.1 e.symm), ⟨g, h1.keep u (by simpa using fun e => ht.2.2.2.1 e.symm) (by simpa using fun e => ht.2.2.2.2 e.symm) (by simpa using fun e => hg e.symm), h2, h3, h4, fun p hp => ?_⟩, h.u.also u (fun z hz => .inr (by rw [List.mem_singleton.1 hz]; exact ht.1)), fun p hp => ?_, ?_, fun p hp => ?_, h.o, h.ne⟩
  · rcases hc p hp with rfl | ⟨q1, q2⟩
    · exact hg
    · exact h5 p q1
  · rcases hc p hp with rfl | ⟨q1, q2⟩
    · exact ho
    · exact u.get (h.v p q1) (by simpa using q2)
  · refine List.pairwise_iff_getElem.2 fun i j hi hj hij => ?_
    rw [List.length_set] at hi hj
    have h1 : ∀ q (hq : q < L.length) (hq2 : q < (L.set n (x, o')).length), ((L.set n (x, o'))[q]).1 = (L[q]).1 := by
      intro q hq hq2
      rw [List.getElem_set]
      split
      · rename_i e; subst e; rw [he]
      · rfl
    rw [h1 i hi (by rw [List.length_set]; exact hi), h1 j hj (by rw [List.length_set]; exact hj)]
    exact hs i j hi hj hij
  · rcases hc p hp with rfl | ⟨q1, q2⟩
    · exact ht
    · exact h.t p q1
theorem Kc.putR (h : Kc w a pb M c b C L w1) (n : Nat) (hn : L[n]? = some (x, .cells T.cells 39 (0, 0))) (k : Nat) (hk : k < 8) (v : Int) : Kc w a pb M c b C (L.set n (x, .cells (T.setR k v).cells 39 (0, 0))) (w1.setCell ⟨x, k, none⟩ (.int .u32 v)) :=
  h.put n hn ((Upd.refl [x] w1).setCell (p := ⟨x, k, none⟩) (.inl (by simp)) _) (by rw [← St.cells_setR T k v hk]; exact heap_set_same (h.get n hn) k _)
/-- A state variable, new. -/
theorem Kc.one (h : Kc w a pb M c b C L w1) (hw : (w1.alloc (.cells St.zero.cells 39)).setCells w1.heap.size 0 T.cells.toList = w2) : Kc w a pb M c b C ((w1.heap.size, .cells T.cells 39 (0, 0)) :: L) w2 := by
  subst hw
  exact h.add (((Upd.refl [] w1).alloc _).setCells (.inr (Nat.le_refl _)) _ _) (heap_store_state T (heap_alloc_new w1 _) (St.size _))
/-- At the beginning. -/
theorem Kc.start {n g : Nat} (hm : IsMem w1 a pb M) (hC : IsC w1 c b g C) (hu : Upd [] w w1) (h1 : w.heap.size ≤ a ∧ w.heap.size ≤ pb) (h2 : a < n ∧ pb < n) (h3 : n ≤ c ∧ n ≤ b ∧ n ≤ g) : Kc w a pb M c b C [] w1 :=
  ⟨hm, ⟨g, hC, by omega, by omega, by omega, fun p hp => by simp at hp⟩, hu, fun p hp => by simp at hp, List.Pairwise.nil, fun p hp => by simp at hp, by omega, by omega⟩
theorem Do_kc (h : Kc w a pb M c b C L w1) (s : St) (hs : s.Ok) (hn : C.L.length < 1000000) :
    Calls Try.prog 8 #[.pointer (some ⟨c, 0, none⟩), .pointer (some ⟨a, 0, none⟩), .agg s.cells] w1 fun e w' => e = .returned (.tuple #[.agg (s.setR 0 (doR M s C)).cells, .bool (decide (s.R 0 = 1))]) ∧ Kc w a pb (doM M s C) c b (doC M s C) L w' := by
  obtain ⟨g, h1, h2, h3, h4, h5⟩ := h.cc
  refine (Do_any M a pb c b g C s w1 h.m h1 ⟨h.ne.1, h.ne.2.1, h.ne.2.2.1, h.ne.2.2.2, h3, h4⟩ hs hn).mono ?_
  rintro e w2 ⟨q1, q2, q3, u⟩
  refine ⟨q1, q2, ⟨g, q3, h2, h3, h4, h5⟩, h.u.also u (fun z hz => .inr ?_), fun p hp => u.get (h.v p hp) ?_, h.s, h.t, h.o, h.ne⟩
  · simp at hz; have := h.o; omega
  · have := h.t p hp; simp; omega
theorem Events_kc (h : Kc w a pb M c b C L w1) : Calls Try.prog 18 #[.pointer (some ⟨c, 0, none⟩)] w1 fun e w' => ∃ v g', e = .returned v ∧ ESl w' v C.last g' ∧ Upd [] w1 w' := by
  obtain ⟨g, h1, _⟩ := h.cc
  exact Events_all c b g C w1 h1
theorem Left_kc (h : Kc w a pb M c b C L w1) : Calls Try.prog 16 #[.pointer (some ⟨c, 0, none⟩)] w1 fun e w' => e = .returned (.tuple #[.int .i64 C.l.length, .int .i64 C.i.size]) ∧ Upd [] w1 w' := by
  obtain ⟨g, h1, _⟩ := h.cc
  exact Left_all c b g C w1 h1
end
theorem rp_lit (w : World) (l : List Int) (T : TypeId) (n : Nat) (hn : n = l.length) (C : Array Value) (hC : C = (l.map (Value.int .u32)).toArray) : Rp (w.alloc (.cells C T)) (.slice (some ⟨w.heap.size, 0, none⟩) n n) l w.heap.size := by
  subst hn hC
  refine .inr ⟨0, _, _, _, _, rfl, Nat.le_refl _, heap_alloc_new w _, fun i hi => ?_⟩
  rw [Nat.zero_add]
  simp [List.getElem?_eq_getElem hi]
end Go.Proofs.Ytdgclmibbmofcaa

/-
  The law of layer 14: its check of known answers returns true. No condition.
-/
namespace Go.Proofs.Ytdgclmibbmofcaa
open Go Go.RowKit Go.Maps
set_option linter.unusedVariables false
set_option linter.unusedSimpArgs false

def kaI : ByteArray := { data := #[104, 101, 108, 108, 111] }
def ka0 : Cd := ⟨[7], kaI, []⟩
def kaM : Mem := Mem.zero.mapM 0 1 3
def kaS1 : St := ((St.zero.setR 0 3).setR 1 8).setR 2 4
def kaC1 : Cd := doC kaM kaS1 ka0
def kaM1 : Mem := doM kaM kaS1 ka0
def kaS2 : St := kaS1.setR 0 20
def kaC2 : Cd := doC kaM1 kaS2 kaC1
def kaM2 : Mem := doM kaM1 kaS2 kaC1
def kaC3 : Cd := doC kaM2 kaS2 kaC2
def kaM3 : Mem := doM kaM2 kaS2 kaC2
def kaS4 : St := (kaS2.setR 0 1).setR 3 9
def kaC4 : Cd := doC kaM3 kaS4 kaC3
def kaM4 : Mem := doM kaM3 kaS4 kaC3
theorem ka_o1 : kaS1.Ok := St.setR_ok (St.setR_ok (St.setR_ok St.zero_ok 0 (by decide) (by decide)) 1 (by decide) (by decide)) 2 (by decide) (by decide)
theorem ka_o2 : kaS2.Ok := St.setR_ok ka_o1 0 (by decide) (by decide)
theorem ka_o4 : kaS4.Ok := St.setR_ok (St.setR_ok ka_o2 0 (by decide) (by decide)) 3 (by decide) (by decide)
theorem ka_map : Mem.zero.mapB 0 1 3 = true := by decide +kernel
theorem ka_r1 : doR kaM kaS1 ka0 = 4 := by decide +kernel
theorem ka_r2 : doR kaM1 kaS2 kaC1 = 7 := by decide +kernel
theorem ka_r3 : doR kaM2 kaS2 kaC2 = 4294967258 := by decide +kernel
theorem ka_r4 : doR kaM3 kaS4 kaC3 = 9 := by decide +kernel
theorem ka_p : kaM4.peek 8 4 = [104, 101, 108, 108] := by decide +kernel
theorem ka_str : strOfNums [104, 101, 108, 108] = { data := #[104, 101, 108, 108] } := by decide +kernel
theorem ka_len : kaC4.last.length = 4 := by decide +kernel
theorem ka_l : kaC4.l.length = 0 := by decide +kernel
theorem ka_i : kaC4.i.size = 1 := by decide +kernel
theorem ka_e0s : (kaC4.last.getD 0 Ev.zero).s = { data := #[104, 101, 108, 108] } := by decide +kernel
theorem ka_e3r : (kaC4.last.getD 3 Ev.zero).r = 9 := by decide +kernel
theorem ESl.open_ {w : World} {v : Value} {l : List Ev} {g n : Nat} (h : ESl w v l g) (hl : l.length = n + 1) : ∃ o c, v = .slice (some ⟨g, o, none⟩) (n + 1) c := by
  rcases h with ⟨_, h⟩ | ⟨o, c, C, f, h1, _, _⟩
  · rw [h] at hl; cases hl
  · exact ⟨o, c, by rw [h1, hl]⟩
theorem ESl.cell {w : World} {l : List Ev} {g o c n : Nat} (h : ESl w (.slice (some ⟨g, o, none⟩) n c) l g) (k : Nat) (hk : k < l.length) (j : Nat) (hj : j < 6) : w.cell? ⟨g, o + k * 6 + j, none⟩ = (l.getD k Ev.zero).cells[j]? := by
  have hx : l[k]? = some (l.getD k Ev.zero) := by rw [List.getD_eq_getElem?_getD, List.getElem?_eq_getElem hk]; rfl
  have e : (l.getD k Ev.zero).cells[j]? = some ((l.getD k Ev.zero).cells[j]'(by simpa [Ev.cells] using hj)) := Array.getElem?_eq_getElem _
  rw [e]
  exact h.at hx j _ (by rw [Array.getElem?_toList]; exact e)
theorem ev_c5 (e : Ev) : e.cells[5]? = some (.string e.s) := rfl
theorem ev_c4 (e : Ev) : e.cells[4]? = some (.int .u32 e.r) := rfl
set_option maxRecDepth 100000 in
set_option maxHeartbeats 4000000 in
/-- Printed by gen_ck.py. -/
theorem known14_any (w : World) : Calls Try.prog 5 #[] w fun e w' => e = .returned (.bool true) ∧ Upd [] w w' := by
  have tok : True := trivial
  go_enter Try.func5, Try.ntmps5
  go_wp2_with (first | (have _t := tok; clear _t; go_at_call 6; refine (New_any _).mono ?_; rintro e w1 ⟨a, pb, rfl, ha, hp, hM1, hu1⟩; clear tok) | (have _t := hM1; clear _t; go_at_call 7; refine (New_all [7] kaI _ w1.heap.size _ (rp_lit w1 [7] _ 1 rfl _ rfl) (by decide)).mono ?_; rintro e w2 ⟨c, b, g', rfl, hC, hz, hu2⟩; have ua := (Upd.refl [] w1).alloc (.cells #[.int .u32 7] 33); have K0 := Lib.hid (show Kc w a pb Mem.zero c b ka0 [] w2 from Kc.start (n := w1.heap.size) (hM1.keep (ua.also hu2 (by simp)) (by simp) (by simp)) hC ((hu1.also ua (by simp)).also hu2 (by simp)) ⟨ha, hp⟩ ⟨hM1.al, hM1.pl⟩ ⟨Nat.le_trans ua.size hz.1, Nat.le_trans ua.size hz.2.1, Nat.le_trans ua.size hz.2.2⟩); clear hu1 ha hp hM1 hC hz hu2 ua) | (have _t := K0; clear _t; go_at_call 20; refine (Map_any Mem.zero a pb 0 1 3 _ K0.out.m (by decide)).mono ?_; rintro e w3 ⟨rfl, hm, hu⟩; rw [ka_map, errC_yes]; have K1 := Lib.hid (show Kc w a pb kaM c b ka0 [] w3 from K0.out.step hm hu); clear hm hu K0) | (have _t := K1; clear _t; refine at_store 39 rfl ?_; refine wpList_store_state' St.zero w3.heap.size rfl _ _ rfl rfl rfl (heap_alloc_new w3 _) rfl ?_; intro w4 hw; have K2 := Lib.hid (K1.out.one hw); have c0 : w4.cell? ⟨w3.heap.size, 0, none⟩ = some (.int .u32 (St.zero.R 0)) := (cells_of (K2.out.get 0 rfl) 0).trans (St.cR _ 0 (by decide)); have c1 : w4.cell? ⟨w3.heap.size, 1, none⟩ = some (.int .u32 (St.zero.R 1)) := (cells_of (K2.out.get 0 rfl) 1).trans (St.cR _ 1 (by decide)); have c2 : w4.cell? ⟨w3.heap.size, 2, none⟩ = some (.int .u32 (St.zero.R 2)) := (cells_of (K2.out.get 0 rfl) 2).trans (St.cR _ 2 (by decide)); have fz := free_of (K2.out.get 0 rfl); have tk2 : True := trivial; clear hw K1) | (have _t := tk2; have _t2 := K2; clear _t _t2; refine at_load 39 rfl ?_; clear tk2; have hk := (((K2.out).putR 0 rfl 0 (by decide) 3).putR 0 rfl 1 (by decide) 8).putR 0 rfl 2 (by decide) 4; dsimp only [List.set] at hk; have K3 := Lib.hid (show Kc w a pb kaM c b ka0 [(w3.heap.size, .cells kaS1.cells 39 (0, 0))] _ from hk); clear hk K2 c0 c1 c2 fz; refine wpList_load_state kaS1 w3.heap.size rfl _ rfl rfl (K3.out.get 0 rfl) ?_) | (have _t := K3; clear _t; go_at_call 8; refine (Do_kc K3.out kaS1 ka_o1 (by decide)).mono ?_; rintro e w5 ⟨rfl, hk⟩; rw [ka_r1, show decide (kaS1.R 0 = 1) = false from rfl]; have K4 := Lib.hid hk; clear hk K3) | (have _t := K4; clear _t; refine at_store 39 rfl ?_; refine wpList_store_state' (kaS1.setR 0 4) w5.heap.size rfl _ _ rfl rfl rfl (heap_alloc_new w5 _) rfl ?_; intro w6 hw; have K5 := Lib.hid (K4.out.one hw); have c0 : w6.cell? ⟨w3.heap.size, 0, none⟩ = some (.int .u32 (kaS1.R 0)) := (cells_of (K5.out.get 1 rfl) 0).trans (St.cR _ 0 (by decide)); have fz := free_of (K5.out.get 1 rfl); have tk5 : True := trivial; clear hw K4) | (have _t := tk5; have _t2 := K5; clear _t _t2; refine at_load 39 rfl ?_; clear tk5; have hk := (K5.out).putR 1 rfl 0 (by decide) 20; dsimp only [List.set] at hk; have K6 := Lib.hid (show Kc w a pb kaM1 c b kaC1 [(w5.heap.size, .cells (kaS1.setR 0 4).cells 39 (0, 0)), (w3.heap.size, .cells kaS2.cells 39 (0, 0))] _ from hk); clear hk K5 c0 fz; refine wpList_load_state kaS2 w3.heap.size rfl _ rfl rfl (K6.out.get 1 rfl) ?_) | (have _t := K6; clear _t; go_at_call 8; refine (Do_kc K6.out kaS2 ka_o2 (by decide)).mono ?_; rintro e w7 ⟨rfl, hk⟩; rw [ka_r2, show decide (kaS2.R 0 = 1) = false from rfl]; have K7 := Lib.hid hk; clear hk K6) | (have _t := K7; clear _t; refine at_store 39 rfl ?_; refine wpList_store_state' (kaS2.setR 0 7) w7.heap.size rfl _ _ rfl rfl rfl (heap_alloc_new w7 _) rfl ?_; intro w8 hw; have K8 := Lib.hid (K7.out.one hw); have tk8 : True := trivial; clear hw K7) | (have _t := tk8; have _t2 := K8; clear _t _t2; refine at_load 39 rfl ?_; clear tk8; have hk := K8.out; have K9 := Lib.hid (show Kc w a pb kaM2 c b kaC2 [(w7.heap.size, .cells (kaS2.setR 0 7).cells 39 (0, 0)), (w5.heap.size, .cells (kaS1.setR 0 4).cells 39 (0, 0)), (w3.heap.size, .cells kaS2.cells 39 (0, 0))] _ from hk); clear hk K8 ; refine wpList_load_state kaS2 w3.heap.size rfl _ rfl rfl (K9.out.get 2 rfl) ?_) | (have _t := K9; clear _t; go_at_call 8; refine (Do_kc K9.out kaS2 ka_o2 (by decide)).mono ?_; rintro e w9 ⟨rfl, hk⟩; rw [ka_r3, show decide (kaS2.R 0 = 1) = false from rfl]; have K10 := Lib.hid hk; clear hk K9) | (have _t := K10; clear _t; refine at_store 39 rfl ?_; refine wpList_store_state' (kaS2.setR 0 4294967258) w9.heap.size rfl _ _ rfl rfl rfl (heap_alloc_new w9 _) rfl ?_; intro w10 hw; have K11 := Lib.hid (K10.out.one hw); have c0 : w10.cell? ⟨w3.heap.size, 0, none⟩ = some (.int .u32 (kaS2.R 0)) := (cells_of (K11.out.get 3 rfl) 0).trans (St.cR _ 0 (by decide)); have c3 : w10.cell? ⟨w3.heap.size, 3, none⟩ = some (.int .u32 (kaS2.R 3)) := (cells_of (K11.out.get 3 rfl) 3).trans (St.cR _ 3 (by decide)); have fz := free_of (K11.out.get 3 rfl); have tk11 : True := trivial; clear hw K10) | (have _t := tk11; have _t2 := K11; clear _t _t2; refine at_load 39 rfl ?_; clear tk11; have hk := ((K11.out).putR 3 rfl 0 (by decide) 1).putR 3 rfl 3 (by decide) 9; dsimp only [List.set] at hk; have K12 := Lib.hid (show Kc w a pb kaM3 c b kaC3 [(w9.heap.size, .cells (kaS2.setR 0 4294967258).cells 39 (0, 0)), (w7.heap.size, .cells (kaS2.setR 0 7).cells 39 (0, 0)), (w5.heap.size, .cells (kaS1.setR 0 4).cells 39 (0, 0)), (w3.heap.size, .cells kaS4.cells 39 (0, 0))] _ from hk); clear hk K11 c0 c3 fz; refine wpList_load_state kaS4 w3.heap.size rfl _ rfl rfl (K12.out.get 3 rfl) ?_) | (have _t := K12; clear _t; go_at_call 8; refine (Do_kc K12.out kaS4 ka_o4 (by decide)).mono ?_; rintro e w11 ⟨rfl, hk⟩; rw [ka_r4, show decide (kaS4.R 0 = 1) = true from rfl]; have K13 := Lib.hid hk; clear hk K12) | (have _t := K13; clear _t; refine at_store 39 rfl ?_; refine wpList_store_state' (kaS4.setR 0 9) w11.heap.size rfl _ _ rfl rfl rfl (heap_alloc_new w11 _) rfl ?_; intro w12 hw; have K14 := Lib.hid (K13.out.one hw); clear hw K13) | (have _t := K14; clear _t; go_at_call 18; refine (Events_kc K14.out).mono ?_; rintro e w13 ⟨ve, ge, rfl, hE, hu⟩; obtain ⟨oe, ce, rfl⟩ := hE.open_ (n := 3) ka_len; have K15 := Lib.hid (show Kc w a pb kaM4 c b kaC4 [(w11.heap.size, .cells (kaS4.setR 0 9).cells 39 (0, 0)), (w9.heap.size, .cells (kaS2.setR 0 4294967258).cells 39 (0, 0)), (w7.heap.size, .cells (kaS2.setR 0 7).cells 39 (0, 0)), (w5.heap.size, .cells (kaS1.setR 0 4).cells 39 (0, 0)), (w3.heap.size, .cells kaS4.cells 39 (0, 0))] w13 from K14.out.quiet hu); have HE := Lib.hid (show ESl w13 _ kaC4.last ge from hE); clear hu hE K14) | (have _t := K15; clear _t; go_at_call 16; refine (Left_kc K15.out).mono ?_; rintro e w14 ⟨rfl, hu⟩; rw [ka_l, ka_i]; have K16 := Lib.hid (show Kc w a pb kaM4 c b kaC4 [(w11.heap.size, .cells (kaS4.setR 0 9).cells 39 (0, 0)), (w9.heap.size, .cells (kaS2.setR 0 4294967258).cells 39 (0, 0)), (w7.heap.size, .cells (kaS2.setR 0 7).cells 39 (0, 0)), (w5.heap.size, .cells (kaS1.setR 0 4).cells 39 (0, 0)), (w3.heap.size, .cells kaS4.cells 39 (0, 0))] w14 from K15.out.quiet hu); have HE2 := Lib.hid (HE.out.keep hu (by simp)); have d1 : w14.cell? ⟨w5.heap.size, 0, none⟩ = some (.int .u32 4) := (cells_of (K16.out.get 3 rfl) 0).trans (St.cR _ 0 (by decide)); have d2 : w14.cell? ⟨w7.heap.size, 0, none⟩ = some (.int .u32 7) := (cells_of (K16.out.get 2 rfl) 0).trans (St.cR _ 0 (by decide)); have d3 : w14.cell? ⟨w9.heap.size, 0, none⟩ = some (.int .u32 4294967258) := (cells_of (K16.out.get 1 rfl) 0).trans (St.cR _ 0 (by decide)); clear hu K15 HE) | (have _t := K16; clear _t; go_at_call 21; refine (Peek_any kaM4 a pb 8 4 _ K16.out.m (by decide) (by decide) (by decide) (by decide)).mono ?_; rintro e w15 ⟨v2, rfl, hown, hu⟩; have hcv := own_string hown; rw [ka_p, ka_str] at hcv; have K17 := Lib.hid (show Kc w a pb kaM4 c b kaC4 [(w11.heap.size, .cells (kaS4.setR 0 9).cells 39 (0, 0)), (w9.heap.size, .cells (kaS2.setR 0 4294967258).cells 39 (0, 0)), (w7.heap.size, .cells (kaS2.setR 0 7).cells 39 (0, 0)), (w5.heap.size, .cells (kaS1.setR 0 4).cells 39 (0, 0)), (w3.heap.size, .cells kaS4.cells 39 (0, 0))] w15 from K16.out.quiet hu); have HE3 := Lib.hid (HE2.out.keep hu (by simp)); have d2 : w15.cell? ⟨w7.heap.size, 0, none⟩ = some (.int .u32 7) := (cells_of (K17.out.get 2 rfl) 0).trans (St.cR _ 0 (by decide)); have d3 : w15.cell? ⟨w9.heap.size, 0, none⟩ = some (.int .u32 4294967258) := (cells_of (K17.out.get 1 rfl) 0).trans (St.cR _ 0 (by decide)); have d4 : w15.cell? ⟨ge, oe + 5, none⟩ = some (.string { data := #[104, 101, 108, 108] }) := (by have h := HE3.out.cell 0 (by rw [ka_len]; decide) 5 (by decide); rw [ev_c5, ka_e0s] at h; exact h); have d5 : w15.cell? ⟨ge, oe + 18 + 4, none⟩ = some (.int .u32 9) := (by have h := HE3.out.cell 3 (by rw [ka_len]; decide) 4 (by decide); rw [ev_c4, ka_e3r] at h; exact h); clear hown hu K16 HE2))
  go_ret
  exact ⟨rfl, K17.out.u⟩
end Go.Proofs.Ytdgclmibbmofcaa

/-
  The law CallWrites: plain facts. No condition.
-/
namespace Go.Proofs.Ytdgclmibbmofcaa
open Go Go.RowKit Go.Maps
set_option linter.unusedVariables false
set_option linter.unusedSimpArgs false

theorem plus_sm {x : Int} {i : Nat} (h0 : 0 ≤ x) (h : x + i < 4294967296) : plus x i = x + i := by unfold plus; omega
/-- Along a region that peeks. -/
structure PkB (P : World → Prop) (L : List Int) (i : Nat) (d : Nat → Bool) (r : Nat → Value) (w : World) : Prop where
  p : P w
  q : d i = true → ∃ g, BySl w (r i) L g
section
variable {P : World → Prop} {L : List Int} {i : Nat} {d : Nat → Bool} {r : Nat → Value} {w w1 : World}
theorem PkB.same (h : PkB P L i d r w) (j : Nat) (hj : i ≠ j) : PkB P L i (updD d j) r w :=
  ⟨h.p, fun e => h.q (by simpa [updD, hj] using e)⟩
theorem PkB.put (h : PkB P L i d r w) (hP : ∀ w w', P w → Upd [] w w' → P w') (u : Upd [] w w1) {v : Value} (hv : ∃ g, BySl w1 v L g) : PkB P L i (updD d i) (updV r i v) w1 :=
  ⟨hP _ _ h.p u, fun _ => by simpa [updV] using hv⟩
end
end Go.Proofs.Ytdgclmibbmofcaa

/-
  Package page: Rights, by its contract.
-/
namespace Go.Proofs.Ytdgclmibbmofcaa
open Go Go.RowKit
set_option linter.unusedVariables false
set_option linter.unusedSimpArgs false

set_option maxRecDepth 100000 in
set_option maxHeartbeats 400000 in
theorem Rights_any (a pb : Nat) (p : Int) (w : World) (M : Mem) (hM : IsMem w a pb M) :
    Calls Try.prog 32 #[.pointer (some ⟨a, 0, none⟩), .int .i64 p] w fun e w' => e = .returned (.int .i64 (M.rights p)) ∧ w = w' := by
  by_cases h1 : p < 0
  · clear hM
    go_enter Try.func32, Try.ntmps32
    go_wp2
    go_ret
    exact ⟨by simp [Mem.rights, h1], rfl⟩
  · by_cases h2 : 64 ≤ p
    · clear hM
      go_enter Try.func32, Try.ntmps32
      go_wp2
      go_ret
      exact ⟨by simp [Mem.rights, h2], rfl⟩
    · obtain ⟨c, hc, c0⟩ := hM.c0
      have cR := hM.cR p.toNat (by omega)
      clear hM
      have h1' : 0 ≤ p := by omega
      have h2' : p < 64 := by omega
      go_enter Try.func32, Try.ntmps32
      go_wp2
      go_ret
      refine ⟨?_, rfl⟩
      have : ¬ (p < 0 ∨ 64 ≤ p) := by omega
      simp [Mem.rights, this]

end Go.Proofs.Ytdgclmibbmofcaa
