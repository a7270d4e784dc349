/-
  Operands and instructions in memory: stores, loads, results; the decoder's reg, imm8, small, imm32, each by its contract.
-/
import Derived.Test.YtpockhoacfkjaaaDcA
import Derived.Outline
namespace Go.Proofs.Ytpockhoacfkjaaa
open Go Go.RowKit
set_option linter.unusedVariables false
set_option linter.unusedSimpArgs false

def Opd.cells (o : Opd) : Array Value := #[.int .i64 o.k, .int .i64 o.r, .int .u32 o.imm, .int .i64 o.b, .int .i64 o.x, .int .u32 o.sc]
theorem Opd.val_eq (o : Opd) : o.val = .agg o.cells := rfl
theorem Opd.size (o : Opd) : o.cells.size = 6 := rfl
theorem Opd.one (o : Opd) : o.cells.all (·.oneCell') = true := by simp [Opd.cells, Value.oneCell']
def Ins.val (i : Ins) : Value := .agg i.cells

theorem opd_info : (Try.prog.info? 26).map (·.size) = some 6 := by kernel_rfl
theorem ins_info : (Try.prog.info? 28).map (·.size) = some 16 := by kernel_rfl

theorem res_opd {tmps : Array Value} {w : World} (a : Tmp) (b : Nat) (o : Opd) (ha : tmps.getD a undef = .pointer (some ⟨b, 0, none⟩)) (hb : w.heap[b]? = some (.cells o.cells 26 (0, 0))) :
    (resRun tmps (.cell a 26)).run Try.prog w = .ok o.val w :=
  res_row a 26 b _ _ ha hb Try.underlying26 rfl opd_info

theorem res_ins {tmps : Array Value} {w : World} (a : Tmp) (b : Nat) (i : Ins) (ha : tmps.getD a undef = .pointer (some ⟨b, 0, none⟩)) (hb : w.heap[b]? = some (.cells i.cells 28 (0, 0))) :
    (resRun tmps (.cell a 28)).run Try.prog w = .ok i.val w :=
  res_row a 28 b _ _ ha hb Try.underlying28 rfl ins_info

/-- An instruction stored whole into its variable; the world gets a name. -/
theorem wpList_store_ins {ops : Array Oper} {rest : List Oper} {op : Oper} {a : Act} {w : World} {Q : Exit → Act → World → Prop} (i : Ins) (b : Nat) (hgd : op.guard = none) (x y : Operand) (ho : op.op = .store 28 x y) (hx : a.eval x = .pointer (some ⟨b, 0, none⟩)) (hy : a.eval y = .agg i.cells)
    {c : Array Value} (hb : w.heap[b]? = some (.cells c 28 (0, 0))) (hc : c.size = 16) (h : ∀ w', w.setCells b 0 i.cells.toList = w' → wpList Try.prog ops Q rest (a.put op.dst undef) w') : wpList Try.prog ops Q (op :: rest) a w :=
  wpList_store_arr hgd 28 x y ho b 0 i.cells hx hy hb (by rw [hc, Ins.size]; exact Nat.le_refl _) (by rw [Ins.size]; exact ins_info) i.one (h _ rfl)

theorem wr_ins (c : Array Value) (s : Ins) (hc : c.size = 16) : wr c 0 s.cells.toList = s.cells := by
  apply Array.ext_getElem?
  intro k
  have hl : s.cells.toList.length = 16 := rfl
  rw [wr_get _ _ _ _ (by rw [hl, hc]; exact Nat.le_refl _), hl]
  by_cases h : k < 16
  · rw [if_pos (by omega), Nat.sub_zero, Array.getElem?_toList]
  · rw [if_neg (by omega), Array.getElem?_eq_none (by omega), Array.getElem?_eq_none (by rw [Ins.size]; omega)]

theorem ins_new {S : List Nat} {w0 w w' : World} {b : Nat} {i : Ins} {c : Array Value} (hw : w.setCells b 0 i.cells.toList = w') (hb : w.heap[b]? = some (.cells c 28 (0, 0))) (hc : c.size = 16) (hu : Upd S w0 w) (hs : b ∈ S ∨ w0.heap.size ≤ b) :
    w'.heap[b]? = some (.cells i.cells 28 (0, 0)) ∧ Upd S w0 w' := by
  subst hw
  exact ⟨by rw [heap_setCells_same _ _ _ _ hb, wr_ins c i hc], hu.setCells hs _ _⟩

set_option maxRecDepth 100000 in
set_option maxHeartbeats 400000 in
theorem dreg_any (r : Int) (w : World) : Calls Try.prog 41 #[.int .i64 r] w fun e w' => e = .returned (regO r).val ∧ Upd [] w w' := by
  go_enter Try.func41, Try.ntmps41
  go_wp2
  exact bodyPost_ret (results_one' rfl (res_opd 2 w.heap.size (regO r) rfl (heap_alloc_new _ _))) rfl ⟨rfl, (Upd.refl _ _).alloc _⟩

theorem sx8_eq {b : Int} (h0 : 0 ≤ b) (h1 : b ≤ 255) : sign8 b = sx8 b := by
  unfold sign8 sx8
  rw [show b % 256 = b by omega]

theorem dcByte_ok {L : List Int} {k k1 : Nat} {c : Int} (hL : BOk L) (h : dcByte L k = .ok c k1) : 0 ≤ c ∧ c ≤ 255 ∧ k1 = k + 1 := by
  unfold dcByte at h
  by_cases hk : k < L.length
  · rw [if_pos hk] at h
    injection h with h1 h2
    subst h1
    exact ⟨(hL k).1, (hL k).2, h2.symm⟩
  · rw [if_neg hk] at h
    cases h

/-- An operand stored whole; the world gets a name. -/
theorem wpList_store_opd {ops : Array Oper} {rest : List Oper} {op : Oper} {a : Act} {w : World} {Q : Exit → Act → World → Prop} (o : Opd) (b off : Nat) (hgd : op.guard = none) (x y : Operand) (ho : op.op = .store 26 x y) (hx : a.eval x = .pointer (some ⟨b, off, none⟩)) (hy : a.eval y = .agg o.cells)
    {c : Array Value} {t : TypeId} (hb : w.heap[b]? = some (.cells c t (0, 0))) (hc : off + 6 ≤ c.size) (h : ∀ w', w.setCells b off o.cells.toList = w' → wpList Try.prog ops Q rest (a.put op.dst undef) w') : wpList Try.prog ops Q (op :: rest) a w :=
  wpList_store_arr hgd 26 x y ho b off o.cells hx hy hb (by rw [Opd.size]; exact hc) (by rw [Opd.size]; exact opd_info) o.one (h _ rfl)

theorem wr_opd (c : Array Value) (o : Opd) (hc : c.size = 6) : wr c 0 o.cells.toList = o.cells := by
  apply Array.ext_getElem?
  intro k
  have hl : o.cells.toList.length = 6 := rfl
  rw [wr_get _ _ _ _ (by rw [hl, hc]; exact Nat.le_refl _), hl]
  by_cases h : k < 6
  · rw [if_pos (by omega), Nat.sub_zero, Array.getElem?_toList]
  · rw [if_neg (by omega), Array.getElem?_eq_none (by omega), Array.getElem?_eq_none (by rw [Opd.size]; omega)]

theorem opd_new {w w' : World} {b : Nat} {o : Opd} {c : Array Value} (hw : w.setCells b 0 o.cells.toList = w') (hb : w.heap[b]? = some (.cells c 26 (0, 0))) (hc : c.size = 6) :
    w'.heap[b]? = some (.cells o.cells 26 (0, 0)) ∧ Upd [b] w w' := by
  subst hw
  exact ⟨by rw [heap_setCells_same _ _ _ _ hb, wr_opd c o hc], (Upd.refl [b] w).setCells (.inl (by simp)) _ _⟩

/-- The decoder behind stores into new variables. -/
theorem dec_fin {d g k k1 : Nat} {v : Value} {L : List Int} {w w2 w3 : World} {S : List Nat} (hD0 : IsDec w d v L g k) (hD : IsDec w2 d v L g k1) (hu : Upd [d] w w2) (u : Upd S w2 w3) (hS : ∀ x, x ∈ S → w.heap.size ≤ x) :
    IsDec w3 d v L g k1 ∧ Upd [d] w w3 := by
  have hd := lt_of_heap hD0.h
  have h2 : Upd [d] w w3 := hu.also u (fun x hx => .inr (hS x hx))
  exact ⟨⟨u.get hD.h (fun hh => by have := hS _ hh; omega), hD0.b.keep h2 (by simpa using hD0.gd), hD.k, hD.n, hD.gd, hD.r, hD.c⟩, h2⟩

/-- The variable of the result, new. -/
theorem new_kept {w w2 : World} {d : Nat} {o : Obj} (hd : d < w.heap.size) (hu : Upd [d] (w.alloc o) w2) : w2.heap[w.heap.size]? = some o := hu.get (heap_alloc_new w o) (by simp; omega)

theorem also_new {w w2 : World} {d : Nat} {o : Obj} (hu : Upd [d] (w.alloc o) w2) : Upd [d] w w2 := ((Upd.refl [d] w).alloc o).also hu (by simp)

set_option maxRecDepth 100000 in
set_option maxHeartbeats 1000000 in
theorem imm8_any (d g k : Nat) (v : Value) (L : List Int) (w : World) (hD : IsDec w d v L g k) :
    Calls Try.prog 42 #[.pointer (some ⟨d, 0, none⟩)] w (DAns d v L g w (dcImm8 L k) Opd.val) := by
  have hb := byte_any d g k v L (w.alloc (.cells Opd.none.cells 26)) (hD.step ((Upd.refl [] w).alloc _))
  have HD := Lib.hid hD
  have HLt := Lib.hid (lt_of_heap hD.h)
  unfold dcImm8
  cases h : dcByte L k with
  | ok c k1 =>
    obtain ⟨c0, c1, _⟩ := dcByte_ok hD.r h
    rw [h] at hb
    rw [DR.bind_ok]
    have HB := Lib.hid hb
    have HR := Lib.hid (And.intro c0 c1)
    have q1 : c % 4294967296 = c := by omega
    have q2 := sx8_eq c0 c1
    clear hb hD h c0 c1
    go_enter Try.func42, Try.ntmps42
    go_wp2_with (first | (go_at_call 38; refine HB.out.mono ?_; rintro e w2 ⟨rfl, hD2, hu⟩; have H2 := Lib.hid (And.intro hD2 (And.intro (also_new hu) (new_kept HLt.out hu))); clear hD2 hu) | (go_at_call 76; refine (Sign8_any c _ HR.out.1 (by have := HR.out; omega)).mono ?_; rintro e w3 ⟨rfl, rfl⟩; rw [q2]) | (refine wpList_store_opd (immO (sx8 c)) w.heap.size 0 rfl _ _ rfl rfl rfl H2.out.2.2 (by decide) ?_; intro w3 hw3; have H3 := Lib.hid (And.intro H2.out.1 (And.intro H2.out.2.1 (opd_new hw3 H2.out.2.2 rfl))); clear hw3 H2))
    obtain ⟨h1, h2⟩ := dec_fin HD.out H3.out.1 H3.out.2.1 H3.out.2.2.2 (by simp)
    exact bodyPost_ret (results_one' rfl (res_opd 2 w.heap.size _ rfl H3.out.2.2.1)) rfl ⟨rfl, h1, h2⟩
  | err c =>
    rw [h] at hb
    rw [DR.bind_err]
    have HB := Lib.hid hb
    clear hb hD h
    go_enter Try.func42, Try.ntmps42
    go_wp2_with (go_at_call 38; refine HB.out.mono ?_; rintro e w2 ⟨rfl, hu⟩)
    exact ⟨rfl, rfl, also_new hu⟩

set_option maxRecDepth 100000 in
set_option maxHeartbeats 1000000 in
theorem small_any (d g k : Nat) (v : Value) (L : List Int) (w : World) (hD : IsDec w d v L g k) :
    Calls Try.prog 43 #[.pointer (some ⟨d, 0, none⟩)] w (DAns d v L g w (dcSmall L k) Opd.val) := by
  have hb := byte_any d g k v L (w.alloc (.cells Opd.none.cells 26)) (hD.step ((Upd.refl [] w).alloc _))
  have HD := Lib.hid hD
  have HLt := Lib.hid (lt_of_heap hD.h)
  unfold dcSmall
  cases h : dcByte L k with
  | ok c k1 =>
    obtain ⟨c0, c1, _⟩ := dcByte_ok hD.r h
    rw [h] at hb
    rw [DR.bind_ok]
    have HB := Lib.hid hb
    have q1 : c % 4294967296 = c := by omega
    clear hb hD h c0 c1
    go_enter Try.func43, Try.ntmps43
    go_wp2_with (first | (go_at_call 38; refine HB.out.mono ?_; rintro e w2 ⟨rfl, hD2, hu⟩; have H2 := Lib.hid (And.intro hD2 (And.intro (also_new hu) (new_kept HLt.out hu))); clear hD2 hu) | (refine wpList_store_opd (immO c) w.heap.size 0 rfl _ _ rfl rfl rfl H2.out.2.2 (by decide) ?_; intro w3 hw3; have H3 := Lib.hid (And.intro H2.out.1 (And.intro H2.out.2.1 (opd_new hw3 H2.out.2.2 rfl))); clear hw3 H2))
    obtain ⟨h1, h2⟩ := dec_fin HD.out H3.out.1 H3.out.2.1 H3.out.2.2.2 (by simp)
    exact bodyPost_ret (results_one' rfl (res_opd 2 w.heap.size _ rfl H3.out.2.2.1)) rfl ⟨rfl, h1, h2⟩
  | err c =>
    rw [h] at hb
    rw [DR.bind_err]
    have HB := Lib.hid hb
    clear hb hD h
    go_enter Try.func43, Try.ntmps43
    go_wp2_with (go_at_call 38; refine HB.out.mono ?_; rintro e w2 ⟨rfl, hu⟩)
    exact ⟨rfl, rfl, also_new hu⟩

/-- 'bits.Word(d.next(4))', both calls. -/
theorem word_next (d g k : Nat) (v : Value) (L : List Int) (w : World) (hD : IsDec w d v L g k) (h : k + 4 ≤ L.length) :
    Calls Try.prog 70 #[.pointer (some ⟨d, 0, none⟩), .int .i64 4] w fun e w' => ∃ o c, e = .returned (.slice (some ⟨g, o, none⟩) 4 c) ∧ (∀ w3, w3 = w' → Calls Try.prog 77 #[.slice (some ⟨g, o, none⟩) 4 c] w3 fun e w4 => e = .returned (.int .u32 (wordAt L k)) ∧ IsDec w4 d v L g (k + 4) ∧ Upd [d] w w4) := by
  refine (next_yes d g k 4 v L w hD (by decide) h).mono ?_
  rintro e w' ⟨u, rfl, ⟨o, c, rfl, hc, hcell⟩, hD2, hu⟩
  refine ⟨o, c, rfl, ?_⟩
  rintro w3 rfl
  have hg : g < w3.heap.size := by
    have h0 := hcell 0 (by decide)
    unfold World.cell? at h0
    simp only at h0
    cases hh : w3.heap[g]? with
    | none => rw [hh] at h0; cases h0
    | some o => exact lt_of_heap hh
  refine (Word_any g o c (fun i => L.getD (k + i) 0) w3 hcell (fun i => hD.r (k + i)) hg).mono ?_
  rintro e w4 ⟨rfl, hu4⟩
  exact ⟨rfl, hD2.step hu4, hu.also hu4 (by simp)⟩

theorem wordAt_bd {L : List Int} (h : BOk L) (k : Nat) : 0 ≤ wordAt L k ∧ wordAt L k < 4294967296 := by
  have h0 := h k
  have h1 := h (k + 1)
  have h2 := h (k + 2)
  have h3 := h (k + 3)
  unfold wordAt
  omega

set_option maxRecDepth 100000 in
set_option maxHeartbeats 1000000 in
theorem imm32_any (d g k : Nat) (v : Value) (L : List Int) (w : World) (hD : IsDec w d v L g k) :
    Calls Try.prog 44 #[.pointer (some ⟨d, 0, none⟩)] w (DAns d v L g w (dcImm32 L k) Opd.val) := by
  have HD := Lib.hid hD
  have HLt := Lib.hid (lt_of_heap hD.h)
  unfold dcImm32 dcWord
  by_cases h : k + 4 ≤ L.length
  · have HB := Lib.hid (word_next d g k v L (w.alloc (.cells Opd.none.cells 26)) (hD.step ((Upd.refl [] w).alloc _)) h)
    rw [if_pos h, DR.bind_ok]
    clear hD h
    go_enter Try.func44, Try.ntmps44
    go_wp2_with (first | (go_at_call 70; refine HB.out.mono ?_; rintro e w2 ⟨o, c, rfl, hw⟩; have HW := Lib.hid (hw _ rfl); clear hw) | (go_at_call 77; refine HW.out.mono ?_; rintro e w2 ⟨rfl, hD2, hu⟩; have H2 := Lib.hid (And.intro hD2 (And.intro (also_new hu) (new_kept HLt.out hu))); clear hD2 hu) | (refine wpList_store_opd (immO (wordAt L k)) w.heap.size 0 rfl _ _ rfl rfl rfl H2.out.2.2 (by decide) ?_; intro w3 hw3; have H3 := Lib.hid (And.intro H2.out.1 (And.intro H2.out.2.1 (opd_new hw3 H2.out.2.2 rfl))); clear hw3 H2))
    obtain ⟨h1, h2⟩ := dec_fin HD.out H3.out.1 H3.out.2.1 H3.out.2.2.2 (by simp)
    exact bodyPost_ret (results_one' rfl (res_opd 2 w.heap.size _ rfl H3.out.2.2.1)) rfl ⟨rfl, h1, h2⟩
  · have HB := Lib.hid (next_no d g k 4 v L (w.alloc (.cells Opd.none.cells 26)) (hD.step ((Upd.refl [] w).alloc _)) (by decide) (by omega))
    rw [if_neg h, DR.bind_err]
    clear hD h
    go_enter Try.func44, Try.ntmps44
    go_wp2_with (go_at_call 70; refine HB.out.mono ?_; rintro e w2 ⟨rfl, hu⟩)
    exact ⟨rfl, rfl, also_new hu⟩

end Go.Proofs.Ytpockhoacfkjaaa
