/-
  Package call: Events: the events in the order of their numbers. No condition.
-/
import Derived.Test.YtdgclmibbmofcaaMg08
namespace Go.Proofs.Ytdgclmibbmofcaa
open Go Go.RowKit Go.Maps
set_option linter.unusedVariables false
set_option linter.unusedSimpArgs false

theorem Ev.one (e : Ev) : e.cells.all (·.oneCell') = true := by simp [Ev.cells, Value.oneCell']
def evRow (l : List Ev) : List Value := l.flatMap fun i => i.cells.toList
theorem evRow_cons (i : Ev) (l : List Ev) : evRow (i :: l) = i.cells.toList ++ evRow l := by simp [evRow]
theorem evRow_app (l m : List Ev) : evRow (l ++ m) = evRow l ++ evRow m := by simp [evRow]
theorem ev_len (i : Ev) : i.cells.toList.length = 6 := rfl
theorem evRow_len (l : List Ev) : (evRow l).length = l.length * 6 := by
  induction l with
  | nil => rfl
  | cons i l ih => rw [evRow_cons, List.length_append, ih, ev_len, List.length_cons]; omega
theorem evRow_get {l : List Ev} {k : Nat} {x : Ev} (h : l[k]? = some x) (j : Nat) (hj : j < 6) : (evRow l)[k * 6 + j]? = x.cells.toList[j]? := by
  induction l generalizing k with
  | nil => simp at h
  | cons i l ih =>
    rw [evRow_cons]
    cases k with
    | zero =>
      simp only [List.getElem?_cons_zero] at h
      injection h with h
      subst h
      rw [Nat.zero_mul, Nat.zero_add, List.getElem?_append_left (by rw [ev_len]; exact hj)]
    | succ k =>
      simp only [List.getElem?_cons_succ] at h
      rw [List.getElem?_append_right (by rw [ev_len]; omega), ev_len, show (k + 1) * 6 + j - 6 = k * 6 + j from by omega]
      exact ih h
theorem evRow_one {l : List Ev} : ∀ u ∈ evRow l, u.oneCell' = true := by
  intro u hu
  rw [evRow, List.mem_flatMap] at hu
  obtain ⟨i, _, hi⟩ := hu
  have := i.one
  rw [Array.all_eq_true_iff_forall_mem] at this
  exact this u (by simpa using hi)

/-- A slice of events that reads as l; its cells, if any, lie in block g. -/
def ESl (w : World) (v : Value) (l : List Ev) (g : Nat) : Prop :=
  (v = .slice none 0 0 ∧ l = []) ∨ ∃ o c C f, v = .slice (some ⟨g, o, none⟩) l.length c ∧ w.heap[g]? = some (.cells C 70 f) ∧ ∀ k u, (evRow l)[k]? = some u → C[o + k]? = some u

theorem ESl.form {w : World} {v : Value} {l : List Ev} {g : Nat} (h : ESl w v l g) : ∃ b c, v = .slice b l.length c := by
  rcases h with ⟨h1, h2⟩ | ⟨o, c, _, _, h1, _⟩
  · exact ⟨none, 0, by rw [h1, h2]; rfl⟩
  · exact ⟨_, _, h1⟩
theorem ESl.keep {w w' : World} {v : Value} {l : List Ev} {g : Nat} {S : List Nat} (h : ESl w v l g) (u : Upd S w w') (hg : g ∉ S) : ESl w' v l g := by
  rcases h with h | ⟨o, c, C, f, h1, h2, h3⟩
  · exact .inl h
  · exact .inr ⟨o, c, C, f, h1, u.get h2 hg, h3⟩
/-- An event of it. -/
theorem ESl.at {w : World} {l : List Ev} {g o c : Nat} {n : Nat} (h : ESl w (.slice (some ⟨g, o, none⟩) n c) l g) {k : Nat} {x : Ev} (hx : l[k]? = some x) : w.rangeAt g (o + k * 6) x.cells.toList := by
  rcases h with ⟨h, _⟩ | ⟨o', c', C, f, h1, h2, h3⟩
  · cases h
  · injection h1 with h1 _ _
    injection h1 with h1
    injection h1 with _ h1
    subst h1
    intro j u hu
    have hj : j < 6 := by have := (List.getElem?_eq_some_iff.1 hu).1; rwa [ev_len] at this
    rw [cells_of h2, Nat.add_assoc]
    exact h3 _ _ (by rw [evRow_get hx j hj]; exact hu)

set_option maxRecDepth 100000 in
set_option maxHeartbeats 1000000 in

theorem esl_of_own {w : World} {row : List Ev} {b n : Nat} {v : Value} (hn : n = row.length) (h : w.ownsRow b 70 6 v n (evRow row)) : ∃ g, ESl w v row g ∧ b ≤ g := by
  subst hn
  rcases h.2 with ⟨h1, h0⟩ | ⟨g, cap, cur, rfl, hg, hb, _, _, hs, ht⟩
  · exact ⟨b, .inl ⟨h1, List.eq_nil_of_length_eq_zero h0⟩, Nat.le_refl _⟩
  · refine ⟨g, .inr ⟨0, cap, cur, (0, 0), rfl, hb, fun k u hk => ?_⟩, hg⟩
    have hl := (List.getElem?_eq_some_iff.1 hk).1
    rw [evRow_len] at hl
    rw [← ht, List.getElem?_take_of_lt (by omega), Array.getElem?_toList] at hk
    rw [Nat.zero_add]
    exact hk
theorem ownsRow_keep {w w' : World} {base : Nat} {e : TypeId} {sz n : Nat} {v : Value} {xs : List Value} {S : List Nat} (h : w.ownsRow base e sz v n xs) (u : Upd S w w') (hS : ∀ g, v.ownBlock = some g → g ∉ S) : w'.ownsRow base e sz v n xs := by
  refine ⟨h.1, ?_⟩
  rcases h.2 with h0 | ⟨g, cap, cur, rfl, hb, hg, hr⟩
  · exact .inl h0
  · exact .inr ⟨g, cap, cur, rfl, hb, u.get hg (hS g rfl), hr⟩
theorem ownsRow_block {w : World} {base : Nat} {e : TypeId} {sz n : Nat} {v : Value} {xs : List Value} (h : w.ownsRow base e sz v n xs) : ∀ g, v.ownBlock = some g → base ≤ g := by
  intro g e'
  rcases h.2 with ⟨rfl, _⟩ | ⟨g', cap, cur, rfl, hb, hg, hr⟩
  · cases e'
  · simp only [Value.ownBlock, Option.some.injEq] at e'
    subst e'
    exact hb
/-- A slice of numbers of the call's own. -/
def Kl (w : World) (v : Value) (l : List Int) (g : Nat) : Prop :=
  (v = .slice none 0 0 ∧ l = []) ∨ ∃ c C, v = .slice (some ⟨g, 0, none⟩) l.length c ∧ w.heap[g]? = some (.cells C 3 (0, 0)) ∧ ∀ i, i < l.length → C[i]? = some (.int .i64 (l.getD i 0))
theorem kl_of_own {w : World} {base : Nat} {v : Value} {l : List Int} {xs : List Value} {n : Nat} (hn : n = l.length) (hx : xs = l.map (Value.int .i64)) (h : w.ownsRow base 3 1 v n xs) : ∃ g, Kl w v l g := by
  subst hn hx
  obtain ⟨_, ⟨h1, h2⟩ | ⟨g, cap, cur, h1, h2, h3, h4, h5, h6, h7⟩⟩ := h
  · exact ⟨0, .inl ⟨h1, List.eq_nil_of_length_eq_zero h2⟩⟩
  · refine ⟨g, .inr ⟨cap, cur, h1, h3, fun i hi => ?_⟩⟩
    have e : (cur.toList.take (l.length * 1))[i]? = some (.int .i64 (l.getD i 0)) := by
      rw [h7, List.getElem?_map, List.getD_eq_getElem?_getD, List.getElem?_eq_getElem hi]; rfl
    rw [Nat.mul_one, List.getElem?_take, if_pos hi, Array.getElem?_toList] at e
    exact e
theorem Kl.form {w : World} {v : Value} {l : List Int} {g : Nat} (h : Kl w v l g) : ∃ b c, v = .slice b l.length c := by
  rcases h with ⟨h1, h2⟩ | ⟨c, C, h1, _⟩
  · exact ⟨none, 0, by rw [h1, h2]; rfl⟩
  · exact ⟨_, _, h1⟩
theorem Kl.cell {w w' : World} {b : Option Addr} {n c : Nat} {l : List Int} {g : Nat} (h : Kl w (.slice b n c) l g) (hl : 0 < l.length) (u : Upd [] w w') : b = some ⟨g, 0, none⟩ ∧ ∀ i, i < l.length → w'.cell? ⟨g, i, none⟩ = some (.int .i64 (l.getD i 0)) := by
  rcases h with ⟨h1, h2⟩ | ⟨c', C, h1, h3, h4⟩
  · rw [h2] at hl; cases hl
  · injection h1 with e1 e2 e3
    exact ⟨e1, fun i hi => by rw [cells_of (u.get h3 (by simp))]; exact h4 i hi⟩
set_option maxRecDepth 100000 in
theorem ev_info3 : (Try.prog.info? 70).map (fun i => (i.zero, i.size, decide (i.bytes ≤ 1000))) = some (some (.agg #[.int .u32 0, .int .u32 0, .int .u32 0, .int .u32 0, .int .u32 0, .string ByteArray.empty]), 6, true) := by kernel_rfl
theorem info_ev : ∃ i B, Try.prog.info? 70 = some i ∧ i.zero = some (.agg #[.int .u32 0, .int .u32 0, .int .u32 0, .int .u32 0, .int .u32 0, .string ByteArray.empty]) ∧ i.size = 6 ∧ i.bytes = B ∧ B ≤ 1000 := by
  have h := ev_info3
  cases hq : Try.prog.info? 70 with
  | none => simp [hq] at h
  | some i =>
    rw [hq] at h
    simp only [Option.map_some, Option.some.injEq, Prod.mk.injEq, decide_eq_true_eq] at h
    exact ⟨i, _, rfl, h.1, h.2.1, rfl, h.2.2⟩
set_option maxRecDepth 100000 in
theorem run_buildEv (i : Ev) (w : World) : (Instr.buildSlice 55 1 #[(0, .agg i.cells)]).run Try.prog w = .ok (.slice (some ⟨w.heap.size, 0, none⟩) 1 1) (w.alloc (.cells i.cells 70)) := by
  unfold Ev.cells
  kernel_rfl
theorem wpList_buildEv {ops : Array Oper} {rest : List Oper} {op : Oper} {a : Act} {w : World} {Q : Exit → Act → World → Prop} (i : Ev) (hgd : op.guard = none) (x : Operand) (ho : op.op = .buildSlice 55 1 #[(0, x)]) (hx : a.eval x = .agg i.cells)
    (h : wpList Try.prog ops Q rest (a.put op.dst (.slice (some ⟨w.heap.size, 0, none⟩) 1 1)) (w.alloc (.cells i.cells 70))) : wpList Try.prog ops Q (op :: rest) a w :=
  wpList_plain hgd fun _ hK => by
    unfold Oper.wp execOp
    simp only [ho, List.map_toArray, List.map_cons, List.map_nil, hx, Sem.run_bind, run_buildEv, Result.andThen_ok, Sem.run_pure]
    exact hK _ _ h
def Ev.zero : Ev := ⟨0, 0, 0, 0, 0, ByteArray.empty⟩
set_option maxRecDepth 100000 in
theorem zero_ev (w : World) : (zeroValue 70).run Try.prog w = .ok Ev.zero.val w := by kernel_rfl

/-- The events of a map, by their numbers: E. -/
def EvAt (D : DataW Value) (E : Int → Ev) : Prop := ∀ k ∈ intKeys D, D.atKey (.int .i64 k) (.held Ev.zero.val) = .held (E k).val
theorem look_ev {w : World} {b n : Nat} {D : DataW Value} (h : w.ownsMap Try.prog 3 evR b n D) {E : Int → Ev} (hE : EvAt D E) (k : Int) (hk : k ∈ intKeys D) : (Instr.lookup 75 (.map (some b)) (.int .i64 k) false).run Try.prog w = .ok (E k).val w := by
  obtain ⟨v, ps, hr, hv⟩ := h.lookup (zd := .held Ev.zero.val) (zp := []) (int_keyed Try.underlying3) Try.underlying75 (zero_ev w) rfl (keyOf_int_mk Try.underlying3 (intKeys_wf h Try.underlying3 k hk))
  rw [hE k hk] at hv
  have : v = (E k).val := by
    unfold evR at hv
    simp only [Option.some.injEq, Prod.mk.injEq, DataW.held.injEq] at hv
    exact hv.1
  rw [hr, this]
def sortI (l : List Int) : List Int := l.mergeSort (fun x y => decide (x ≤ y))
theorem size_keys (D : DataW Value) (h : ∃ es, D = .map es) : Maps.size D = (intKeys D).length := by
  obtain ⟨es, rfl⟩ := h
  simp [intKeys, Maps.size]

set_option maxRecDepth 100000 in
set_option maxHeartbeats 4000000 in
theorem Events_any2 (c b g k n : Nat) (l : List Int) (inp : ByteArray) (D : DataW Value) (E : Int → Ev) (w : World) (h : IsCl w c b g l inp k n D) (hE : EvAt D E) (hn : Maps.size D ≤ 1000) :
    Calls Try.prog 18 #[.pointer (some ⟨c, 0, none⟩)] w fun e w' => ∃ v g', e = .returned v ∧ ESl w' v ((sortI (intKeys D)).map E) g' ∧ Upd [] w w' ∧ w.heap.size ≤ g' := by
  obtain ⟨rv, hc, _⟩ := h.hd
  obtain ⟨i0, B0, q1, q2, q3, q4, q5⟩ := info_ev
  have HI := Lib.hid (And.intro q1 (And.intro q2 (And.intro q3 (And.intro q4 q5))))
  have hb : w.cell? ⟨c, 2, none⟩ = some (.map (some b)) := cells_of hc 2
  have H := Lib.hid (And.intro h (And.intro hE hn))
  have hcl := lt_of_heap hc
  have tk1 : True := trivial
  have tk2 : True := trivial
  clear h hE hn hc q1 q2 q3 q4 q5
  go_enter Try.func18, Try.ntmps18
  go_wp2_with (first
    | (have _t := tk1; clear _t; go_at_call 41; refine (keys_any (some b) _).mono ?_; rintro e w1 ⟨rfl, rfl⟩; clear tk1)
    | (have _t := tk2; clear _t; go_at_call 40; refine (sorted_any b k D evR w H.out.1.mp (by have := H.out.2.2; unfold maxLen; omega) (by have := H.out.2.2; omega)).mono ?_; rintro e w2 ⟨v, ss, rfl, hS, hrow, hbl⟩; obtain ⟨gk, hk⟩ := kl_of_own (l := sortI (intKeys D)) (by rw [sortI, List.length_mergeSort, hS.length_eq]) (by rw [sortI, mergeSort_of_perm_i hS]) hrow; obtain ⟨ka, kc, rfl⟩ := hk.form; obtain ⟨ln, hln⟩ : ∃ ln : Int, ln = (sortI (intKeys D)).length := ⟨_, rfl⟩; rw [show (sortI (intKeys D)).length = ln.toNat by omega]; have hcast : ((ln.toNat : Nat) : Int) = ln := (by omega); have HK := Lib.hid (And.intro hk (And.intro hln (show Upd [] w w2 from Upd.of_below hbl))); clear hS hrow hbl hk hln tk2))
  go_loopw [3, 13] (fun out i wr => ∃ q : Int, i = .int .i64 q ∧ Hid (0 ≤ q ∧ q ≤ ln) ∧ Hid (wr.ownsRow w2.heap.size 70 6 out q.toNat (evRow (((sortI (intKeys D)).take q.toNat).map E))) ∧ Hid (Upd [] w2 wr)) (fun _ i _ => (ln - intOf i).toNat)
  case atStart => exact ⟨0, rfl, Lib.hid ⟨Int.le_refl _, by have := HK.out.2.1; omega⟩, Lib.hid ⟨rfl, .inl ⟨rfl, rfl⟩⟩, Lib.hid (Upd.refl _ _)⟩
  case round =>
    obtain ⟨q, rfl, hq, ho, hU⟩ := hrel
    have hUw := HK.out.2.2.also hU.out (by simp)
    by_cases hlt : q < ln
    · have dlt : decide (q < ln) = true := by simp [hlt]
      have hqq := hq.out
      have hb1 : 0 ≤ q ∧ q < ln := by omega
      have hlen := HK.out.2.1
      obtain ⟨rfl, hcell⟩ := HK.out.1.cell (by omega) hU.out
      have hck := hcell q.toNat (by omega)
      have hmem : (sortI (intKeys D)).getD q.toNat 0 ∈ intKeys D := by
        rw [← (List.mergeSort_perm (intKeys D) (fun x y => decide (x ≤ y))).mem_iff]
        show (sortI (intKeys D)).getD q.toNat 0 ∈ sortI (intKeys D)
        rw [List.getD_eq_getElem?_getD, List.getElem?_eq_getElem (by omega)]
        exact List.getElem_mem _
      have htake : ((sortI (intKeys D)).take (q + 1).toNat).map E = ((sortI (intKeys D)).take q.toNat).map E ++ [E ((sortI (intKeys D)).getD q.toNat 0)] := by
        rw [show (q + 1).toNat = q.toNat + 1 by omega, List.take_add_one, List.map_append, List.getD_eq_getElem?_getD, List.getElem?_eq_getElem (by omega)]
        rfl
      generalize (sortI (intKeys D)).getD q.toNat 0 = key at hck hmem htake
      have hrun := look_ev (ownsMap_keep H.out.1.mp hUw (by simp)) H.out.2.1 key hmem
      have hb' : wr.cell? ⟨c, 2, none⟩ = some (.map (some b)) := by
        rw [← hb]; unfold World.cell?; rw [hUw.block c hcl (by simp)]
      have ev6 : (E key).val = .agg (E key).cells := rfl
      have hl1000 : ln ≤ 1000 := by have h1 := H.out.2.2; rw [size_keys D (by obtain ⟨es, _, _, _, _, rfl⟩ := H.out.1.mp; exact ⟨_, rfl⟩)] at h1; rw [hlen, sortI, List.length_mergeSort]; omega
      have hmx := Lib.hid (show q.toNat + 1 ≤ maxLen by unfold maxLen; omega)
      have hby := Lib.hid (show (q.toNat + 1) * B0 ≤ 140737488355328 by have := HI.out.2.2.2.2; have : (q.toNat + 1) * B0 ≤ 1001 * 1000 := Nat.mul_le_mul (by omega) this; omega)
      have hbs := Lib.hid (show w2.heap.size ≤ (wr.alloc (.cells (E key).cells 70)).heap.size from (hU.out.alloc _).size)
      have HE := Lib.hid (And.intro htake (And.intro hb1 (And.intro hlen (And.intro hUw hl1000))))
      have tk3 : True := trivial
      have ho2 := Lib.hid (ownsRow_keep ho.out ((Upd.refl [] wr).alloc (.cells (E key).cells 70)) (by simp))
      clear hcell hmem htake hqq hlen hl1000 hb hUw
      rw [ev6] at hrun
      go_wp2_with (first
        | (refine wpList_buildEv (E key) rfl _ rfl rfl ?_)
        | (have _t := tk3; clear _t; at_builtin; refine wpList_append_own _ rfl _ _ 55 rfl w2.heap.size 70 i0 (.agg #[.int .u32 0, .int .u32 0, .int .u32 0, .int .u32 0, .int .u32 0, .string ByteArray.empty]) 6 B0 Try.underlying55 HI.out.1 HI.out.2.1 HI.out.2.2.1 HI.out.2.2.2.1 rfl (by decide) u3 q.toNat _ rfl ho2.out ⟨wr.heap.size, 0, none⟩ 1 1 (E key).cells.toList rfl rfl (by intro j u hu; rw [Addr.add_lit, cells_of (heap_alloc_new wr (.cells (E key).cells 70)), Nat.zero_add, ← Array.getElem?_toList]; exact hu) (by have := (E key).one; rw [Array.all_eq_true_iff_forall_mem] at this; intro u hu; exact this u (by simpa using hu)) hmx.out hby.out hbs.out ?_; intro v' w4 h4 hg4 _; have H4 := Lib.hid (And.intro h4 hg4); clear h4 hg4 tk3))
      go_roundw
      case rel =>
        have z1 := HE.out.2.1
        have z3 := HE.out.2.2.2.2
        refine ⟨q + 1, by rw [show wrap64 (q + 1) = q + 1 by unfold wrap64; omega], Lib.hid ⟨by have := HE.out.2.1; omega, by have := HE.out.2.1; omega⟩, Lib.hid ?_, Lib.hid ?_⟩
        · rw [HE.out.1, evRow_app, show (q + 1).toNat = q.toNat + 1 by have := HE.out.2.1; omega]
          rw [show evRow [E key] = (E key).cells.toList by simp [evRow]]
          exact H4.out.1
        · exact (hU.out.alloc _).also (Upd.of_grown H4.out.2) (fun x hx => .inr (ownsRow_block ho.out x (by simpa using hx)))
      case measure => have h1 := HE.out.2.1; have h3 := HE.out.2.2.2.2; have h2 : wrap64 (q + 1) = q + 1 := (by unfold wrap64; omega); simp only [intOf, h2]; omega
    · have hqn : q = ln := by have := hq.out; omega
      subst hqn
      have dlt : decide (q < q) = false := by simp
      have HE := Lib.hid (And.intro (show ((sortI (intKeys D)).take q.toNat) = sortI (intKeys D) by rw [List.take_of_length_le]; have := HK.out.2.1; omega) hUw)
      clear hlt hUw
      go_wp2_with fail
      obtain ⟨g2, hg2, hb2⟩ := esl_of_own (by rw [List.length_map, HE.out.1]; have := HK.out.2.1; omega) ho.out
      rw [HE.out.1] at hg2
      have HG := Lib.hid (And.intro hg2 (Nat.le_trans HK.out.2.2.size hb2))
      clear hg2 hb2
      go_ret
      exact ⟨_, g2, rfl, HG.out.1, HE.out.2, HG.out.2⟩
theorem Events_any (c b g k n : Nat) (l : List Int) (inp : ByteArray) (D : DataW Value) (E : Int → Ev) (w : World) (h : IsCl w c b g l inp k n D) (hE : EvAt D E) (hn : Maps.size D ≤ 1000) :
    Calls Try.prog 18 #[.pointer (some ⟨c, 0, none⟩)] w fun e w' => ∃ v g', e = .returned v ∧ ESl w' v ((sortI (intKeys D)).map E) g' ∧ Upd [] w w' :=
  (Events_any2 c b g k n l inp D E w h hE hn).mono (by rintro e w' ⟨v, g', h1, h2, h3, h4⟩; exact ⟨v, g', h1, h2, h3⟩)
end Go.Proofs.Ytdgclmibbmofcaa

/-
  Package call: along Do: the memory, the calls, variables of its own. No condition.
-/
namespace Go.Proofs.Ytdgclmibbmofcaa
open Go Go.RowKit Go.Maps
set_option linter.unusedVariables false
set_option linter.unusedSimpArgs false

structure Cq (w : World) (a pb : Nat) (M : Mem) (c b : Nat) (C4 : Array Value) (k : Nat) (D : DataW Value) (L : List (Nat × Obj)) (w1 : World) : Prop where
  m : IsMem w1 a pb M
  hc : w1.heap[c]? = some (.cells C4 77 (0, 0))
  p : w1.ownsMap Try.prog 3 evR b k D
  u : Upd [c, b, pb] w w1
  v : ∀ p ∈ L, w1.heap[p.1]? = some p.2
  s : L.Pairwise (fun p q => p.1 ≠ q.1)
  t : ∀ p ∈ L, w.heap.size ≤ p.1
  o : a < w.heap.size ∧ pb < w.heap.size ∧ c < w.heap.size ∧ b < w.heap.size
  ne : c ≠ a ∧ c ≠ pb ∧ b ≠ a ∧ b ≠ pb ∧ c ≠ b
section
variable {w w1 w2 : World} {a pb c b k x : Nat} {M M2 : Mem} {C4 C5 : Array Value} {D D2 : DataW Value} {L : List (Nat × Obj)} {o o' : Obj} {T : St}
theorem Cq.get (h : Cq w a pb M c b C4 k D L w1) (n : Nat) (hn : L[n]? = some (x, o)) : w1.heap[x]? = some o := h.v (x, o) (List.mem_of_getElem? hn)
theorem Cq.quiet (h : Cq w a pb M c b C4 k D L w1) (u : Upd [] w1 w2) : Cq w a pb M c b C4 k D L w2 :=
  ⟨h.m.keep u (by simp) (by simp), u.get h.hc (by simp), ownsMap_keep h.p u (by simp), h.u.also u (by simp), fun p hp => u.get (h.v p hp) (by simp), h.s, h.t, h.o, h.ne⟩
theorem Cq.far (h : Cq w a pb M c b C4 k D L w1) (n : Nat) (hn : L[n]? = some (x, o)) : x ≠ a ∧ x ≠ pb ∧ x ≠ c ∧ x ≠ b := by
  have := h.t _ (List.mem_of_getElem? hn)
  have ho := h.o
  dsimp only at this
  exact ⟨by omega, by omega, by omega, by omega⟩
theorem Cq.lay (h : Cq w a pb M c b C4 k D L w1) (cs : Array Value) (t : TypeId) : Cq w a pb M c b C4 k D ((w1.heap.size, .cells cs t (0, 0)) :: L) (w1.alloc (.cells cs t)) := by
  have h2 := h.quiet ((Upd.refl [] w1).alloc (.cells cs t))
  refine ⟨h2.m, h2.hc, h2.p, h2.u, fun p hp => ?_, List.pairwise_cons.2 ⟨fun q hq => Nat.ne_of_gt (lt_of_heap (h.v q hq)), h.s⟩, fun p hp => ?_, h.o, h.ne⟩
  · rcases List.mem_cons.1 hp with rfl | hp
    · exact heap_alloc_new _ _
    · exact h2.v p hp
  · rcases List.mem_cons.1 hp with rfl | hp
    · exact h.u.size
    · exact h.t p hp
theorem Cq.put (h : Cq w a pb M c b C4 k D L w1) (n : Nat) (hn : L[n]? = some (x, o)) (u : Upd [x] w1 w2) (ho : w2.heap[x]? = some o') : Cq w a pb M c b C4 k D (L.set n (x, o')) w2 := by
  have hf := h.far n hn
  have ht := h.t _ (List.mem_of_getElem? hn)
  obtain ⟨hl, he⟩ := List.getElem?_eq_some_iff.1 hn
  have hs := List.pairwise_iff_getElem.1 h.s
  have hc : ∀ p, p ∈ L.set n (x, o') → p = (x, o') ∨ (p ∈ L ∧ p.1 ≠ x) := by
    intro p hp
    obtain ⟨j, hj⟩ := List.mem_iff_getElem?.1 hp
    rw [List.getElem?_set] at hj
    by_cases e : n = j
    · subst e
      simp only [if_true, hl] at hj
      exact .inl (Option.some.inj hj).symm
    · simp only [e, if_false] at hj
      obtain ⟨hl2, he2⟩ := List.getElem?_eq_some_iff.1 hj
      refine .inr ⟨List.mem_of_getElem? hj, fun hh => ?_⟩
      rcases Nat.lt_or_gt_of_ne e with h1 | h1
      · have := hs n j hl hl2 h1; rw [he, he2] at this; exact this hh.symm
      · have := hs j n hl2 hl h1; rw [he, he2] at this; exact this hh
  refine ⟨h.m.keep u (by simpa using fun e => hf.1 e.symm) (by simpa using fun e => hf.2.1 e.symm), u.get h.hc (by simpa using fun e => hf.2.2.1 e.symm), ownsMap_keep h.p u (by simpa using fun e => hf.2.2.2 e.symm), h.u.also u (fun z hz => .inr (by rw [List.mem_singleton.1 hz]; exact ht)), fun p hp => ?_, ?_, fun p hp => ?_, h.o, h.ne⟩
  · rcases hc p hp with rfl | ⟨h1, h2⟩
    · exact ho
    · exact u.get (h.v p h1) (by simpa using h2)
  · refine List.pairwise_iff_getElem.2 fun i j hi hj hij => ?_
    rw [List.length_set] at hi hj
    have h1 : ∀ q (hq : q < L.length) (hq2 : q < (L.set n (x, o')).length), ((L.set n (x, o'))[q]).1 = (L[q]).1 := by
      intro q hq hq2
      rw [List.getElem_set]
      split
      · rename_i e; subst e; rw [he]
      · rfl
    rw [h1 i hi (by rw [List.length_set]; exact hi), h1 j hj (by rw [List.length_set]; exact hj)]
    exact hs i j hi hj hij
  · rcases hc p hp with rfl | ⟨h1, h2⟩
    · exact ht
    · exact h.t p h1
theorem Cq.mem (h : Cq w a pb M c b C4 k D L w1) (hm : IsMem w2 a pb M2) (u : Upd [pb] w1 w2) : Cq w a pb M2 c b C4 k D L w2 :=
  ⟨hm, u.get h.hc (by simpa using h.ne.2.1), ownsMap_keep h.p u (by simpa using h.ne.2.2.2.1), h.u.also u (by simp), fun p hp => u.get (h.v p hp) (by have := h.t p hp; have := h.o; simp; omega), h.s, h.t, h.o, h.ne⟩
theorem Cq.map (h : Cq w a pb M c b C4 k D L w1) {k2 : Nat} (hp : w2.ownsMap Try.prog 3 evR b k2 D2) (u : Upd [b] w1 w2) : Cq w a pb M c b C4 k2 D2 L w2 :=
  ⟨h.m.keep u (by simpa using fun e => h.ne.2.2.1 e.symm) (by simpa using fun e => h.ne.2.2.2.1 e.symm), u.get h.hc (by simpa using h.ne.2.2.2.2), hp, h.u.also u (by simp), fun p hp => u.get (h.v p hp) (by have := h.t p hp; have := h.o; simp; omega), h.s, h.t, h.o, h.ne⟩
theorem Cq.putC (h : Cq w a pb M c b C4 k D L w1) (j : Nat) (z : Value) : Cq w a pb M c b (C4.setIfInBounds j z) k D L (w1.setCell ⟨c, j, none⟩ z) := by
  have u : Upd [c] w1 (w1.setCell ⟨c, j, none⟩ z) := (Upd.refl [c] w1).setCell (p := ⟨c, j, none⟩) (.inl (by simp)) z
  exact ⟨h.m.keep u (by simpa using fun e => h.ne.1 e.symm) (by simpa using fun e => h.ne.2.1 e.symm), heap_set_same h.hc j z, ownsMap_keep h.p u (by simpa using fun e => h.ne.2.2.2.2 e.symm), h.u.also u (by simp), fun p hp => u.get (h.v p hp) (by have := h.t p hp; have := h.o; simp; omega), h.s, h.t, h.o, h.ne⟩
theorem Cq.cell (h : Cq w a pb M c b C4 k D L w1) (n : Nat) {cs : Array Value} {t : TypeId} (hn : L[n]? = some (x, .cells cs t (0, 0))) (j : Nat) (z : Value) : Cq w a pb M c b C4 k D (L.set n (x, .cells (cs.setIfInBounds j z) t (0, 0))) (w1.setCell ⟨x, j, none⟩ z) :=
  h.put n hn ((Upd.refl [x] w1).setCell (p := ⟨x, j, none⟩) (.inl (by simp)) z) (heap_set_same (h.get n hn) j z)
theorem Cq.putS (h : Cq w a pb M c b C4 k D L w1) (n : Nat) {cs : Array Value} (hn : L[n]? = some (x, .cells cs 39 (0, 0))) (hc : cs.size = 17) (hw : w1.setCells x 0 T.cells.toList = w2) : Cq w a pb M c b C4 k D (L.set n (x, .cells T.cells 39 (0, 0))) w2 := by
  subst hw
  refine h.put n hn ((Upd.refl [x] w1).setCells (q := x) (.inl (by simp)) T.cells.toList 0) ?_
  rw [heap_setCells_same _ _ _ _ (h.get n hn), wr_state _ T hc]
end
end Go.Proofs.Ytdgclmibbmofcaa
