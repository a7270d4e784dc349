/-
  Package host: the registers as plain data, how they lie in cells; New, X, SetX by their contracts. No condition.
-/
import Derived.Test.YtoplekfnghkkdaaMg05
import Derived.Test.YtoplekfnghkkdaaMg04
import Derived.Test.YtoplekfnghkkdaaMg02
import Derived.Test.YtoplekfnghkkdaaMg01
import Derived.Outline
namespace Go.Proofs.Ytoplekfnghkkdaa
open Go Go.RowKit
set_option linter.unusedVariables false
set_option linter.unusedSimpArgs false

structure Hs where
  x : Nat → Int
  mem : Value
  pc : Int
  why : Int

def Hs.at_ (H : Hs) (k : Nat) : Value := if k < 32 then .int .u32 (H.x k) else if k = 32 then H.mem else if k = 33 then .int .u32 H.pc else .int .u32 H.why
def Hs.cells (H : Hs) : Array Value := (Array.range 35).map H.at_
def Hs.set (H : Hs) (i : Nat) (v : Int) : Hs := { H with x := fun j => if j = i then v else H.x j }
/-- A register told; one set. -/
def Hs.get (H : Hs) (i : Int) : Int := if i < 1 ∨ 32 ≤ i then 0 else H.x i.toNat
def Hs.put (H : Hs) (i v : Int) : Hs := if i < 1 ∨ 32 ≤ i then H else H.set i.toNat v

theorem Hs.cell (H : Hs) (k : Nat) (h : k < 35) : H.cells[k]? = some (H.at_ k) := by simp [Hs.cells, h]
theorem Hs.cX (H : Hs) (k : Nat) (h : k < 32) : H.cells[k]? = some (.int .u32 (H.x k)) := by rw [H.cell k (by omega), Hs.at_, if_pos h]
theorem Hs.size (H : Hs) : H.cells.size = 35 := by simp [Hs.cells]

theorem Hs.cells_set (H : Hs) (i : Nat) (v : Int) (h : i < 32) : H.cells.setIfInBounds i (.int .u32 v) = (H.set i v).cells := by
  apply Array.ext_getElem?
  intro k
  rw [Array.getElem?_setIfInBounds, H.size]
  by_cases hk : k < 35
  · rw [(H.set i v).cell k hk, H.cell k hk]
    by_cases e : i = k
    · subst e
      rw [if_pos rfl, if_pos hk, Hs.at_, if_pos h]
      simp [Hs.set]
    · rw [if_neg e]
      unfold Hs.at_
      simp [Hs.set, show ¬ k = i from fun h => e h.symm]
  · rw [if_neg (by omega), Array.getElem?_eq_none (by rw [H.size]; omega), Array.getElem?_eq_none (by rw [Hs.size]; omega)]

structure IsHost (w : World) (b : Nat) (H : Hs) : Prop where
  h : w.heap[b]? = some (.cells H.cells 125 (0, 0))
  ok : ∀ i, 0 ≤ H.x i ∧ H.x i < 4294967296

theorem IsHost.keep {w w' : World} {b : Nat} {H : Hs} {S : List Nat} (h : IsHost w b H) (u : Upd S w w') (hb : b ∉ S) : IsHost w' b H := ⟨u.get h.h hb, h.ok⟩
theorem IsHost.lt {w : World} {b : Nat} {H : Hs} (h : IsHost w b H) : b < w.heap.size := lt_of_heap h.h
theorem Hs.get_range {w : World} {b : Nat} {H : Hs} (h : IsHost w b H) (i : Int) : 0 ≤ H.get i ∧ H.get i < 4294967296 := by
  unfold Hs.get
  split
  · decide
  · exact h.ok _
theorem IsHost.set {w : World} {b : Nat} {H : Hs} (h : IsHost w b H) (i : Nat) (v : Int) (hi : i < 32) (hv : 0 ≤ v ∧ v < 4294967296) : IsHost (w.setCell ⟨b, i, none⟩ (.int .u32 v)) b (H.set i v) := by
  have := heap_set_same h.h i (.int .u32 v)
  rw [H.cells_set i v hi] at this
  refine ⟨this, fun j => ?_⟩
  simp only [Hs.set]
  split
  · exact hv
  · exact h.ok j

set_option maxRecDepth 100000 in
set_option maxHeartbeats 400000 in
theorem X_any (H : Hs) (b : Nat) (i : Int) (w : World) (h : IsHost w b H) :
    Calls Try.prog 25 #[.pointer (some ⟨b, 0, none⟩), .int .i64 i] w fun e w' => e = .returned (.int .u32 (H.get i)) ∧ w = w' := by
  by_cases h1 : i < 1
  · have e : H.get i = 0 := by rw [Hs.get, if_pos (.inl h1)]
    rw [e]
    clear e
    go_enter Try.func25, Try.ntmps25
    go_wp2
    go_ret
    exact ⟨rfl, rfl⟩
  · by_cases h2 : 32 ≤ i
    · have e : H.get i = 0 := by rw [Hs.get, if_pos (.inr h2)]
      rw [e]
      clear e
      go_enter Try.func25, Try.ntmps25
      go_wp2
      go_ret
      exact ⟨rfl, rfl⟩
    · have e : H.get i = H.x i.toNat := by rw [Hs.get, if_neg (by omega)]
      rw [e]
      have hc : w.cell? ⟨b, i.toNat, none⟩ = some (.int .u32 (H.x i.toNat)) := by rw [cells_of h.h, H.cX _ (by omega)]
      clear e h
      go_enter Try.func25, Try.ntmps25
      go_wp2
      go_ret
      exact ⟨rfl, rfl⟩

set_option maxRecDepth 100000 in
set_option maxHeartbeats 400000 in
theorem SetX_any (H : Hs) (b : Nat) (i v : Int) (w : World) (h : IsHost w b H) (hv : 0 ≤ v ∧ v < 4294967296) :
    Calls Try.prog 20 #[.pointer (some ⟨b, 0, none⟩), .int .i64 i, .int .u32 v] w fun e w' => e = .returned (.tuple #[]) ∧ IsHost w' b (H.put i v) ∧ Upd [b] w w' := by
  by_cases h1 : i < 1
  · have e : H.put i v = H := by rw [Hs.put, if_pos (.inl h1)]
    rw [e]
    clear e
    have HH := Lib.hid h
    clear h hv
    go_enter Try.func20, Try.ntmps20
    go_wp2
    go_end0
    exact ⟨rfl, HH.out, Upd.refl _ _⟩
  · by_cases h2 : 32 ≤ i
    · have e : H.put i v = H := by rw [Hs.put, if_pos (.inr h2)]
      rw [e]
      clear e
      have HH := Lib.hid h
      clear h hv
      go_enter Try.func20, Try.ntmps20
      go_wp2
      go_end0
      exact ⟨rfl, HH.out, Upd.refl _ _⟩
    · have e : H.put i v = H.set i.toNat v := by rw [Hs.put, if_neg (by omega)]
      rw [e]
      have hc : w.cell? ⟨b, i.toNat, none⟩ = some (.int .u32 (H.x i.toNat)) := by rw [cells_of h.h, H.cX _ (by omega)]
      have hf : w.frozen? ⟨b, i.toNat, none⟩ = false := free_of h.h _
      have HH := Lib.hid (h.set i.toNat v (by omega) hv)
      clear e h hv
      go_enter Try.func20, Try.ntmps20
      go_wp2
      go_end0
      exact ⟨rfl, HH.out, (Upd.refl _ _).setCell (by simp) _⟩

/-- A new host: noughts. -/
def Hs.zero (m : Nat) : Hs := ⟨fun _ => 0, .slice (some ⟨m, 0, none⟩) 32768 32768, 1024, 0⟩

theorem run_make_host (w : World) : ∃ C, (Instr.makeSlice 22 (.int .i64 32768) (.int .i64 32768)).run Try.prog w = .ok (.slice (some ⟨w.heap.size, 0, none⟩) 32768 32768) (w.alloc (.cells C 5 (0, 0))) := by
  have h := run_make (P := Try.prog) w 22 5 Try.t5 (.int .u8 0) Try.underlying22 (by kernel_rfl) (by kernel_rfl) .i64 .i64 32768 32768 (by decide) (by decide) (by decide) (by decide)
  exact ⟨_, h⟩

set_option maxRecDepth 100000 in
set_option maxHeartbeats 1000000 in
theorem HNew_any (w : World) :
    Calls Try.prog 19 #[] w fun e w' => ∃ b m, e = .returned (.pointer (some ⟨b, 0, none⟩)) ∧ w.heap.size ≤ b ∧ IsHost w' b (Hs.zero m) ∧ Upd [] w w' := by
  obtain ⟨C, hmk⟩ := run_make_host w
  go_enter Try.func19, Try.ntmps19
  go_wp2
  go_ret
  refine ⟨w.heap.size + 1, w.heap.size, rfl, by omega, ⟨?_, fun _ => by simp [Hs.zero]⟩, ((Upd.refl _ _).alloc _).alloc _⟩
  have h := heap_alloc2_new w (.cells C 5) (.cells (Hs.zero w.heap.size).cells 125)
  have e : (Hs.zero w.heap.size).cells = #[.int .u32 0, .int .u32 0, .int .u32 0, .int .u32 0, .int .u32 0, .int .u32 0, .int .u32 0, .int .u32 0, .int .u32 0, .int .u32 0, .int .u32 0, .int .u32 0, .int .u32 0, .int .u32 0, .int .u32 0, .int .u32 0, .int .u32 0, .int .u32 0, .int .u32 0, .int .u32 0, .int .u32 0, .int .u32 0, .int .u32 0, .int .u32 0, .int .u32 0, .int .u32 0, .int .u32 0, .int .u32 0, .int .u32 0, .int .u32 0, .int .u32 0, .int .u32 0, .slice (some ⟨w.heap.size, 0, none⟩) 32768 32768, .int .u32 1024, .int .u32 0] := by
    apply Array.toList_inj.1
    rw [Hs.cells, Array.toList_map, Array.toList_range]
    rfl
  rw [e] at h ⊢
  exact h
end Go.Proofs.Ytoplekfnghkkdaa

/-
  Package operand: Read, Write, each by its contract.
-/
namespace Go.Proofs.Ytoplekfnghkkdaa
open Go Go.RowKit
set_option linter.unusedVariables false
set_option linter.unusedSimpArgs false

def wd (b : Int) : Int := if b = 1 then 1 else 4

def opV (M : Mem) (s : St) (o : Opd) (b : Int) : Int :=
  if o.k = 1 then (if b = 1 then s.reg8 o.r else s.R (o.r % 8).toNat) else if o.k = 2 then o.imm % 2 ^ (8 * wd b).toNat else if o.k = 3 then M.readV (s.place o) (wd b) 1 else 0
def opF (M : Mem) (s : St) (o : Opd) (b : Int) : Flt := if o.k = 3 then M.rdF (s.place o) (wd b) 1 else Flt.zero
def opK (M : Mem) (s : St) (o : Opd) (b : Int) : Bool := if o.k = 3 then M.readK (s.place o) (wd b) 1 else true

theorem place_range (s : St) (o : Opd) : 0 ≤ s.place o ∧ s.place o < 4294967296 := by
  unfold St.place; split <;> omega

structure RdB (s : St) (o : Opd) (w w1 : World) : Prop where
  s : w1.heap[w.heap.size]? = some (.cells s.cells 79 (0, 0))
  o : w1.heap[w.heap.size + 1]? = some (.cells #[.int .i64 o.k, .int .i64 o.r, .int .u32 o.imm, .int .i64 o.b, .int .i64 o.x, .int .u32 o.sc] 26 (0, 0))
  f : w1.heap[w.heap.size + 1 + 1]? = some (.cells #[.int .i64 0, .int .u32 0, .int .u32 0, .int .i64 0] 49 (0, 0))
  u : Upd [] w w1

theorem RdB.step {s : St} {o : Opd} {w w1 w2 : World} (h : RdB s o w w1) (u : Upd [] w1 w2) : RdB s o w w2 := ⟨u.get h.s (by simp), u.get h.o (by simp), u.get h.f (by simp), h.u.also u (by simp)⟩

theorem RdB.start (s : St) (o : Opd) (w : World) : RdB s o w (((w.alloc (.cells s.cells 79)).alloc (.cells #[.int .i64 o.k, .int .i64 o.r, .int .u32 o.imm, .int .i64 o.b, .int .i64 o.x, .int .u32 o.sc] 26)).alloc (.cells #[.int .i64 0, .int .u32 0, .int .u32 0, .int .i64 0] 49)) := by
  refine ⟨heap_alloc_keep _ (heap_alloc_keep _ (heap_alloc_new _ _)), heap_alloc_keep _ (heap_alloc2_new _ _ _), ?_, (((Upd.refl _ _).alloc _).alloc _).alloc _⟩
  have := heap_alloc2_new (w.alloc (.cells s.cells 79)) (.cells #[.int .i64 o.k, .int .i64 o.r, .int .u32 o.imm, .int .i64 o.b, .int .i64 o.x, .int .u32 o.sc] 26) (.cells #[.int .i64 0, .int .u32 0, .int .u32 0, .int .i64 0] 49)
  rw [World.size_alloc] at this
  exact this

theorem RdB.zero {s : St} {o : Opd} {w w1 : World} (h : RdB s o w w1) : RdB s o w ((((w1.setCell ⟨w.heap.size + 1 + 1, 0, none⟩ (.int .i64 0)).setCell ⟨w.heap.size + 1 + 1, 0 + 1, none⟩ (.int .u32 0)).setCell ⟨w.heap.size + 1 + 1, 0 + 2, none⟩ (.int .u32 0)).setCell ⟨w.heap.size + 1 + 1, 0 + 3, none⟩ (.int .i64 0)) :=
  have U := Upd_store4 (S := [w.heap.size + 1 + 1]) (Upd.refl _ w1) (.inl (by simp)) (.int .i64 0) (.int .u32 0) (.int .u32 0) (.int .i64 0)
  ⟨U.get h.s (by simp <;> omega), U.get h.o (by simp), store4 h.f _ _ _ _, Upd_store4 h.u (.inr (by omega)) _ _ _ _⟩

end Go.Proofs.Ytoplekfnghkkdaa

/-
  A region whose order of operations is drawn, with an invariant that knows which operations are done. No condition; no program here.
-/
namespace Go.Proofs.Ytoplekfnghkkdaa
open Go Go.RowKit
set_option linter.unusedVariables false
set_option linter.unusedSimpArgs false

def updD (d : Nat → Bool) (i : Nat) : Nat → Bool := fun j => if j = i then true else d j
def doneD (listed : Array Bool) : Nat → Bool := fun j => listed.getD j false

theorem doneD_set {listed : Array Bool} {i : Nat} (h : i < listed.size) : doneD (listed.setIfInBounds i true) = updD (doneD listed) i := by
  funext j
  simp only [doneD, updD]
  by_cases e : j = i
  · subst e; simp [h]
  · rw [if_neg e, getD_set_ne false (fun h => e h.symm)]

theorem doneD_none (n : Nat) : doneD (Array.replicate n false) = fun _ => false := by
  funext j; exact getD_replicate_false _ _

/-- The head of a region, walked in the text's order. 'B': what holds of the world all along; 'X': what a panic leaves. -/
def headD (P : Program) (ops : Array Oper) (B : (Nat → Bool) → World → Prop) (X : List PanicEntry → World → Prop) (fin : List Nat → Act → Prop) : List Nat → Nat → List Oper → Act → Prop
  | dead, _, [], a => fin dead a
  | dead, i, o :: rest, a =>
    (deadDep dead o = true ∧ headD P ops B X fin (i :: dead) (i + 1) rest a) ∨
    (deadDep dead o = false ∧ Region.wanted o (yielded ops a.tmps) = true ∧ ∃ v, (∀ d w, d i = false → B d w → o.wp P a w (fun a' w' => a' = a.put o.dst v ∧ B (updD d i) w') (PX X)) ∧ headD P ops B X fin dead (i + 1) rest (a.put o.dst v)) ∨
    (deadDep dead o = false ∧ Region.wanted o (yielded ops a.tmps) = true ∧ (∀ d w, d i = false → B d w → o.wp P a w (fun _ _ => False) (PX X)) ∧ headD P ops B X fin (i :: dead) (i + 1) rest a) ∨
    (deadDep dead o = false ∧ Region.wanted o (yielded ops a.tmps) = false ∧ (∀ d w, d i = false → B d w → B (updD d i) w) ∧ headD P ops B X fin dead (i + 1) rest (a.put o.dst undef))

section
variable {P : Program} {ops : Array Oper} {B : (Nat → Bool) → World → Prop} {X : List PanicEntry → World → Prop} {fin : List Nat → Act → Prop} {dead : List Nat} {i : Nat} {o : Oper} {rest : List Oper} {a : Act}

theorem headD_nil (h : fin dead a) : headD P ops B X fin dead i [] a := h

theorem headD_val {a2 : Act} (hd : deadDep dead o = false) (hw : Region.wanted o (yielded ops a.tmps) = true)
    (h : ∀ (d : Nat → Bool) (K : Act → World → Prop), d i = false → (∀ w', B (updD d i) w' → K a2 w') → ∀ w, B d w → o.wp P a w K (PX X))
    (hv : ∃ v, a2 = a.put o.dst v) (k : headD P ops B X fin dead (i + 1) rest a2) : headD P ops B X fin dead i (o :: rest) a := by
  obtain ⟨v, rfl⟩ := hv
  exact .inr (.inl ⟨hd, hw, v, fun d w hdi hB => h d _ hdi (fun w' hB' => ⟨rfl, hB'⟩) w hB, k⟩)

theorem headD_dies (hd : deadDep dead o = false) (hw : Region.wanted o (yielded ops a.tmps) = true) (h : ∀ (d : Nat → Bool) w, d i = false → B d w → o.wp P a w (fun _ _ => False) (PX X))
    (k : headD P ops B X fin (i :: dead) (i + 1) rest a) : headD P ops B X fin dead i (o :: rest) a := .inr (.inr (.inl ⟨hd, hw, h, k⟩))

theorem headD_dead (hd : deadDep dead o = true) (k : headD P ops B X fin (i :: dead) (i + 1) rest a) : headD P ops B X fin dead i (o :: rest) a := .inl ⟨hd, k⟩

theorem headD_skip (hd : deadDep dead o = false) (hw : Region.wanted o (yielded ops a.tmps) = false) (hs : ∀ d w, d i = false → B d w → B (updD d i) w) (k : headD P ops B X fin dead (i + 1) rest (a.put o.dst undef)) : headD P ops B X fin dead i (o :: rest) a :=
  .inr (.inr (.inr ⟨hd, hw, hs, k⟩))
end

/-- What the walk of the head tells of each operation, said in the frame at its end. -/
structure HeadResD (P : Program) (ops : Array Oper) (B : (Nat → Bool) → World → Prop) (X : List PanicEntry → World → Prop) (i n : Nat) (dead : List Nat) (a F : Act) (vs : Nat → Value) : Prop where
  live : ∀ (j : Nat) (o : Oper), i ≤ j → j < n → ops[j]? = some o → j ∉ dead →
    deadDep dead o = false ∧ ((Region.wanted o (yielded ops F.tmps) = true ∧ ∀ d w, d j = false → B d w → outc P o F w (fun v w' => same o.dst a.tmps.size v (vs j) ∧ B (updD d j) w') X) ∨ (Region.wanted o (yielded ops F.tmps) = false ∧ vs j = undef ∧ ∀ d w, d j = false → B d w → B (updD d j) w))
  died : ∀ (j : Nat) (o : Oper), i ≤ j → j < n → ops[j]? = some o → j ∈ dead →
    deadDep dead o = true ∨ (Region.wanted o (yielded ops F.tmps) = true ∧ ∀ d w, d j = false → B d w → outc P o F w (fun _ _ => False) X)
  defers : F.defers = a.defers
  size : F.tmps.size = a.tmps.size
  old : ∀ t, (∀ (j : Nat) (oj : Oper), i ≤ j → j < n → ops[j]? = some oj → oj.dst = some t → j ∈ dead) → F.tmps[t]? = a.tmps[t]?
  new : ∀ (j : Nat) (oj : Oper) t, i ≤ j → j < n → ops[j]? = some oj → j ∉ dead → oj.dst = some t → t < a.tmps.size → F.tmps[t]? = some (vs j)

theorem headD_ext {P : Program} {ops : Array Oper} {B : (Nat → Bool) → World → Prop} {X : List PanicEntry → World → Prop} {fin : List Nat → Act → Prop} {n : Nat} (hk : HeadOk ops n) :
    ∀ (l : List Oper) (i : Nat) (dead : List Nat) (a : Act), (∀ j, j < l.length → l[j]? = ops[i + j]?) → i + l.length = n → (∀ d, d ∈ dead → d < i) → headD P ops B X fin dead i l a →
    ∃ (vs : Nat → Value) (dead' : List Nat) (F : Act), fin dead' F ∧ HeadResD P ops B X i n dead' a F vs ∧ (∀ d, d < i → (d ∈ dead' ↔ d ∈ dead)) ∧ (∀ d, d ∈ dead' → d < n)
  | [], i, dead, a, _, hn, hd, h => by
    have hin : i = n := by simpa using hn
    refine ⟨fun _ => undef, dead, a, h, ⟨?_, ?_, rfl, rfl, fun _ _ => rfl, ?_⟩, fun _ _ => Iff.rfl, fun d hdd => by have := hd d hdd; omega⟩
    · intro j o h1 h2; omega
    · intro j o h1 h2; omega
    · intro j oj t h1 h2; omega
  | o :: l, i, dead, a, hl, hn, hd, h => by
    simp only [List.length_cons] at hn
    have ho : ops[i]? = some o := by simpa using (hl 0 (by simp)).symm
    have hin : i < n := by omega
    have hl' : ∀ j, j < l.length → l[j]? = ops[i + 1 + j]? := fun j hj => by
      have := hl (j + 1) (by simpa using hj)
      simpa [Nat.add_assoc, Nat.add_comm 1 j] using this
    have haft := hk.after i o hin ho
    -- what the operation looks at stands to the end
    have hstay : ∀ (F b : Act) (dead' : List Nat) (vs : Nat → Value), HeadResD P ops B X (i + 1) n dead' b F vs → (∀ t, t ∈ o.looksAt ops → b.tmps[t]? = a.tmps[t]?) → ∀ t, t ∈ o.looksAt ops → a.tmps[t]? = F.tmps[t]? := by
      intro F b dead' vs hr hb t ht
      rw [hr.old t (fun j oj h1 h2 h3 h4 => absurd (hk.looks i o j oj t hin ho h2 h3 h4 ht).1 (by omega)), hb t ht]
    have hput : ∀ (v : Value) t, t ∈ o.looksAt ops → (a.put o.dst v).tmps[t]? = a.tmps[t]? := fun v t ht =>
      put_same _ _ _ _ (fun he => absurd (hk.looks i o i o t hin ho hin ho he ht).1 (by omega))
    rcases h with ⟨hdd, h⟩ | ⟨hdd, hw, v, hv, h⟩ | ⟨hdd, hw, hv, h⟩ | ⟨hdd, hw, hsk, h⟩
    · obtain ⟨vs, dead', F, hf, hr, hdi, hdn⟩ := headD_ext hk l (i + 1) (i :: dead) a hl' (by omega) (fun d hm => by
        rcases List.mem_cons.1 hm with rfl | hm
        · omega
        · have := hd d hm; omega) h
      have hmem : i ∈ dead' := (hdi i (by omega)).2 (by simp)
      have hdi' : ∀ d, d < i → (d ∈ dead' ↔ d ∈ dead) := fun d hlt => by
        rw [hdi d (by omega)]
        constructor
        · intro hm; rcases List.mem_cons.1 hm with rfl | hm
          · omega
          · exact hm
        · intro hm; exact List.mem_cons_of_mem _ hm
      refine ⟨vs, dead', F, hf, ⟨?_, ?_, hr.defers, hr.size, ?_, ?_⟩, hdi', hdn⟩
      · intro j oj h1 h2 h3 h4
        by_cases e : j = i
        · subst e; exact absurd hmem h4
        · exact hr.live j oj (by omega) h2 h3 h4
      · intro j oj h1 h2 h3 h4
        by_cases e : j = i
        · subst e
          have : oj = o := Option.some.inj (h3.symm.trans ho)
          subst this
          left; rw [deadDep_iff haft hdi']; exact hdd
        · exact hr.died j oj (by omega) h2 h3 h4
      · intro t ht; exact hr.old t (fun j oj h1 => ht j oj (by omega))
      · intro j oj t h1 h2 h3 h4
        by_cases e : j = i
        · subst e; exact absurd hmem h4
        · exact hr.new j oj t (by omega) h2 h3 h4
    · obtain ⟨vs, dead', F, hf, hr, hdi, hdn⟩ := headD_ext hk l (i + 1) dead _ hl' (by omega) (fun d hm => by have := hd d hm; omega) h
      have hmem : i ∉ dead' := fun hm => by have := hd i ((hdi i (by omega)).1 hm); omega
      have hs := exec_same (hk.sel i o ho) (hstay F _ dead' vs hr (hput v))
      have hne : ∀ j, i + 1 ≤ j → (if j = i then v else vs j) = vs j := fun j hj => if_neg (by omega)
      refine ⟨fun j => if j = i then v else vs j, dead', F, hf, ⟨?_, ?_, by rw [hr.defers, put_defers'], by rw [hr.size, put_size], ?_, ?_⟩, fun d hlt => hdi d (by omega), hdn⟩
      · intro j oj h1 h2 h3 h4
        by_cases e : j = i
        · subst e
          have : oj = o := Option.some.inj (h3.symm.trans ho)
          subst this
          refine ⟨by rw [deadDep_iff haft (fun d hlt => hdi d (by omega))]; exact hdd, .inl ⟨by rw [← hs.2]; exact hw, fun d w hd0 hB => ?_⟩⟩
          rw [← outc_same hs.1]
          simp only [if_true]
          exact outc_of_wp (hv d w hd0 hB)
        · simp only [if_neg e]
          have := hr.live j oj (by omega) h2 h3 h4
          rwa [put_size] at this
      · intro j oj h1 h2 h3 h4
        by_cases e : j = i
        · subst e; exact absurd h4 hmem
        · exact hr.died j oj (by omega) h2 h3 h4
      · intro t ht
        rw [hr.old t (fun j oj h1 => ht j oj (by omega)), put_same _ _ _ _ (fun he => hmem (ht i o (Nat.le_refl _) hin ho he))]
      · intro j oj t h1 h2 h3 h4 h5 h6
        by_cases e : j = i
        · subst e
          have : oj = o := Option.some.inj (h3.symm.trans ho)
          subst this
          simp only [if_true]
          rw [hr.old t (fun k ok g1 g2 g3 g4 => absurd (hk.dst j oj k ok t h2 h3 g2 g3 g4 h5) (by omega)), h5, put_new _ _ _ h6]
        · simp only [if_neg e]; exact hr.new j oj t (by omega) h2 h3 h4 h5 (by rw [put_size]; exact h6)
    · obtain ⟨vs, dead', F, hf, hr, hdi, hdn⟩ := headD_ext hk l (i + 1) (i :: dead) a hl' (by omega) (fun d hm => by
        rcases List.mem_cons.1 hm with rfl | hm
        · omega
        · have := hd d hm; omega) h
      have hmem : i ∈ dead' := (hdi i (by omega)).2 (by simp)
      have hdi' : ∀ d, d < i → (d ∈ dead' ↔ d ∈ dead) := fun d hlt => by
        rw [hdi d (by omega)]
        constructor
        · intro hm; rcases List.mem_cons.1 hm with rfl | hm
          · omega
          · exact hm
        · intro hm; exact List.mem_cons_of_mem _ hm
      have hs := exec_same (hk.sel i o ho) (hstay F _ dead' vs hr (fun _ _ => rfl))
      refine ⟨vs, dead', F, hf, ⟨?_, ?_, hr.defers, hr.size, ?_, ?_⟩, hdi', hdn⟩
      · intro j oj h1 h2 h3 h4
        by_cases e : j = i
        · subst e; exact absurd hmem h4
        · exact hr.live j oj (by omega) h2 h3 h4
      · intro j oj h1 h2 h3 h4
        by_cases e : j = i
        · subst e
          have : oj = o := Option.some.inj (h3.symm.trans ho)
          subst this
          right
          refine ⟨by rw [← hs.2]; exact hw, fun d w hd0 hB => ?_⟩
          rw [← outc_same hs.1]
          exact outc_of_dies (hv d w hd0 hB)
        · exact hr.died j oj (by omega) h2 h3 h4
      · intro t ht; exact hr.old t (fun j oj h1 => ht j oj (by omega))
      · intro j oj t h1 h2 h3 h4
        by_cases e : j = i
        · subst e; exact absurd hmem h4
        · exact hr.new j oj t (by omega) h2 h3 h4
    · obtain ⟨vs, dead', F, hf, hr, hdi, hdn⟩ := headD_ext hk l (i + 1) dead _ hl' (by omega) (fun d hm => by have := hd d hm; omega) h
      have hmem : i ∉ dead' := fun hm => by have := hd i ((hdi i (by omega)).1 hm); omega
      have hs := exec_same (hk.sel i o ho) (hstay F _ dead' vs hr (hput undef))
      refine ⟨fun j => if j = i then undef else vs j, dead', F, hf, ⟨?_, ?_, by rw [hr.defers, put_defers'], by rw [hr.size, put_size], ?_, ?_⟩, fun d hlt => hdi d (by omega), hdn⟩
      · intro j oj h1 h2 h3 h4
        by_cases e : j = i
        · subst e
          have : oj = o := Option.some.inj (h3.symm.trans ho)
          subst this
          refine ⟨by rw [deadDep_iff haft (fun d hlt => hdi d (by omega))]; exact hdd, .inr ⟨by rw [← hs.2]; exact hw, by simp, hsk⟩⟩
        · simp only [if_neg e]
          have := hr.live j oj (by omega) h2 h3 h4
          rwa [put_size] at this
      · intro j oj h1 h2 h3 h4
        by_cases e : j = i
        · subst e; exact absurd h4 hmem
        · exact hr.died j oj (by omega) h2 h3 h4
      · intro t ht
        rw [hr.old t (fun j oj h1 => ht j oj (by omega)), put_same _ _ _ _ (fun he => hmem (ht i o (Nat.le_refl _) hin ho he))]
      · intro j oj t h1 h2 h3 h4 h5 h6
        by_cases e : j = i
        · subst e
          have : oj = o := Option.some.inj (h3.symm.trans ho)
          subst this
          simp only [if_true]
          rw [hr.old t (fun k ok g1 g2 g3 g4 => absurd (hk.dst j oj k ok t h2 h3 g2 g3 g4 h5) (by omega)), h5, put_new _ _ _ h6]
        · simp only [if_neg e]; exact hr.new j oj t (by omega) h2 h3 h4 h5 (by rw [put_size]; exact h6)

/-- Where the head stands. -/
structure DrawInvD (ops : Array Oper) (B : (Nat → Bool) → World → Prop) (n : Nat) (dead : List Nat) (a0 F : Act) (listed : Array Bool) (a : Act) (w : World) : Prop where
  head : HeadInv .any ops n listed
  world : B (doneD listed) w
  defers : a.defers = a0.defers
  size : a.tmps.size = a0.tmps.size
  live : ∀ (j : Nat), j < n → listed.getD j false = true → j ∉ dead
  old : ∀ t, (∀ (j : Nat) (oj : Oper), j < n → ops[j]? = some oj → oj.dst = some t → listed.getD j false = false) → a.tmps[t]? = a0.tmps[t]?
  new : ∀ (j : Nat) (oj : Oper) t, j < n → ops[j]? = some oj → listed.getD j false = true → oj.dst = some t → a.tmps[t]? = F.tmps[t]?

theorem drawD_go {P : Program} {ops : Array Oper} {B : (Nat → Bool) → World → Prop} {X : List PanicEntry → World → Prop} {Q : Exit → Act → World → Prop} {n : Nat} {dead : List Nat} {a0 F : Act} {vs : Nat → Value}
    (hk : HeadOk ops n) (hr : HeadResD P ops B X 0 n dead a0 F vs) (hdn : ∀ d, d ∈ dead → d < n)
    (hwait : ∀ listed, HeadInv .any ops n listed → ∀ i, i < n → listed.getD i true = false → ∀ t, n ≤ t → t ∉ Region.ready .any ops listed)
    (hX : ∀ c a' w', X c w' → a'.defers = a0.defers → a'.tmps.size = a0.tmps.size → (∀ t, (∀ (j : Nat) (oj : Oper), j < n → ops[j]? = some oj → oj.dst ≠ some t) → a'.tmps[t]? = a0.tmps[t]?) → Q (.panic c) a' w')
    (hfin : ∀ listed w, HeadInv .any ops n listed → (∀ i, i < n → listed.getD i true = true) → dead = [] → B (doneD listed) w → wpAny P .any ops Q (ops.size - n) listed F w) :
    ∀ (m : Nat) (listed : Array Bool) (a : Act) (w : World), undone n listed = m → DrawInvD ops B n dead a0 F listed a w → wpAny P .any ops Q (m + (ops.size - n)) listed a w
  | 0, listed, a, w, hm, inv => by
    have hall := undone_zero hm
    have hall' : ∀ i, i < n → listed.getD i false = true := fun i hi => by
      have h1 := hall i hi
      have h2 : i < listed.size := by rw [inv.head.size]; have := hk.le; omega
      simp [h2] at h1 ⊢; exact h1
    have hdead : dead = [] := by
      cases hde : dead with
      | nil => rfl
      | cons d r =>
        have hd : d ∈ dead := by rw [hde]; simp
        exact absurd hd (inv.live d (hdn d hd) (hall' d (hdn d hd)))
    have hF : a = F := by
      have h1 : a.tmps = F.tmps := by
        apply Array.ext_getElem?
        intro t
        by_cases h : ∃ (j : Nat) (oj : Oper), j < n ∧ ops[j]? = some oj ∧ oj.dst = some t
        · obtain ⟨j, oj, h1, h2, h3⟩ := h
          exact inv.new j oj t h1 h2 (hall' j h1) h3
        · rw [inv.old t (fun j oj h1 h2 h3 => absurd ⟨j, oj, h1, h2, h3⟩ h), hr.old t (fun j oj _ h1 h2 h3 => absurd ⟨j, oj, h1, h2, h3⟩ h)]
      have h2 : a.defers = F.defers := by rw [inv.defers, hr.defers]
      cases a; cases F; simp_all
    rw [Nat.zero_add, hF]
    exact hfin listed w inv.head hall hdead inv.world
  | m + 1, listed, a, w, hm, inv => by
    rw [show m + 1 + (ops.size - n) = (m + (ops.size - n)) + 1 by omega]
    obtain ⟨i0, hi0, hun0⟩ : ∃ i, i < n ∧ listed.getD i true = false := by
      have : (List.range n).countP (fun i => !listed.getD i true) ≠ 0 := by
        show undone n listed ≠ 0
        omega
      rw [Ne, List.countP_eq_zero] at this
      simp only [Classical.not_forall] at this
      obtain ⟨i, hi, h⟩ := this
      exact ⟨i, List.mem_range.1 hi, by simpa using h⟩
    have hrd := some_ready hk inv.head.size i0 hi0 hun0
    refine ⟨fun h0 => ?_, fun i hi => ?_⟩
    · obtain ⟨j, _, hj⟩ := hrd
      rw [h0] at hj; cases hj
    · have hin : i < n := by
        rcases Nat.lt_or_ge i n with h | h
        · exact h
        · exact absurd hi (hwait listed inv.head i0 hi0 hun0 i h)
      obtain ⟨hun, o, ho, hall⟩ := mem_ready.1 hi
      have hunf : listed.getD i false = false := getD_both hun
      have hm' := undone_set hin hun
      -- what the operation looks at is as in the frame at the head's end
      have hlook : ∀ t, t ∈ o.looksAt ops → a.tmps[t]? = F.tmps[t]? := by
        intro t ht
        by_cases h : ∃ (j : Nat) (oj : Oper), j < n ∧ ops[j]? = some oj ∧ oj.dst = some t
        · obtain ⟨j, oj, h1, h2, h3⟩ := h
          obtain ⟨_, e, he, hb, hon⟩ := hk.looks i o j oj t hin ho h1 h2 h3 ht
          exact inv.new j oj t h1 h2 (by rw [← hon]; exact hall e he hb) h3
        · rw [inv.old t (fun j oj h1 h2 h3 => absurd ⟨j, oj, h1, h2, h3⟩ h), hr.old t (fun j oj _ h1 h2 h3 => absurd ⟨j, oj, h1, h2, h3⟩ h)]
      have hs := exec_same (hk.sel i o ho) hlook
      have hnd : deadDep dead o = false := by
        rw [Bool.eq_false_iff]
        intro hd
        simp only [deadDep, List.any_eq_true, Bool.and_eq_true, List.contains_iff_mem, Array.mem_toList_iff] at hd
        obtain ⟨e, he, hb, hm⟩ := hd
        exact inv.live e.on (hdn _ hm) (hall e he hb) hm
      -- the next frame
      have hd0 : doneD listed i = false := hunf
      have hnext : ∀ (v : Value) (w' : World), B (updD (doneD listed) i) w' → i ∉ dead → same o.dst a0.tmps.size v (vs i) → DrawInvD ops B n dead a0 F (listed.setIfInBounds i true) (a.put o.dst v) w' := by
        intro v w' hB hnot hv
        have hlt : i < listed.size := by rw [inv.head.size]; have := hk.le; omega
        refine ⟨inv.head.set hi hin, by rw [doneD_set hlt]; exact hB, by rw [put_defers', inv.defers], by rw [put_size, inv.size], ?_, ?_, ?_⟩
        · intro j hj hl
          by_cases e : i = j
          · subst e; exact hnot
          · rw [getD_set_ne false e] at hl; exact inv.live j hj hl
        · intro t ht
          have hne : o.dst ≠ some t := fun he => by
            have := ht i o hin ho he
            simp [hlt] at this
          rw [put_same _ _ _ _ hne]
          refine inv.old t fun j oj h1 h2 h3 => ?_
          have := ht j oj h1 h2 h3
          by_cases e : i = j
          · subst e; exact hunf
          · rwa [getD_set_ne false e] at this
        · intro j oj t h1 h2 h3 h4
          by_cases e : i = j
          · subst e
            have : oj = o := Option.some.inj (h2.symm.trans ho)
            subst this
            rcases Nat.lt_or_ge t a.tmps.size with ht | ht
            · rw [h4, put_new _ _ _ ht, hr.new i oj t (Nat.zero_le _) hin ho hnot h4 (by rw [← inv.size]; exact ht), hv t h4 (by rw [← inv.size]; exact ht)]
            · rw [Array.getElem?_eq_none (by rw [put_size]; exact ht), Array.getElem?_eq_none (by rw [hr.size, ← inv.size]; exact ht)]
          · rw [getD_set_ne false e] at h3
            have hne : o.dst ≠ some t := fun he => e (hk.dst i o j oj t hin ho h1 h2 h4 he)
            rw [put_same _ _ _ _ hne]
            exact inv.new j oj t h1 h2 h3 h4
      have hpan : ∀ c w', X c w' → Q (.panic c) a w' := fun c w' hx =>
        hX c a w' hx inv.defers inv.size fun t ht => inv.old t fun j oj h1 h2 h3 => absurd h3 (ht j oj h1 h2)
      unfold wpOp
      simp only [ho]
      by_cases hde : i ∈ dead
      · rcases hr.died i o (Nat.zero_le _) hin ho hde with h | ⟨hw, h⟩
        · rw [h] at hnd; cases hnd
        · rw [if_pos (by rw [hs.2]; exact hw)]
          refine .inl (wp_of_outc ?_)
          rw [outc_same hs.1]
          exact outc_mono (h _ w hd0 inv.world) (fun _ _ hf => hf.elim) hpan
      · obtain ⟨_, ⟨hw, h⟩ | ⟨hw, h, hsk⟩⟩ := hr.live i o (Nat.zero_le _) hin ho hde
        · rw [if_pos (by rw [hs.2]; exact hw)]
          refine .inl (wp_of_outc ?_)
          rw [outc_same hs.1]
          refine outc_mono (h _ w hd0 inv.world) (fun v w' hv => ?_) hpan
          exact drawD_go hk hr hdn hwait hX hfin m _ _ _ (by omega) (hnext v w' hv.2 hde hv.1)
        · rw [if_neg (by rw [hs.2, hw]; simp)]
          exact drawD_go hk hr hdn hwait hX hfin m _ _ _ (by omega) (hnext undef w (hsk _ w hd0 inv.world) hde (fun _ _ _ => h.symm))

/-- A REGION THAT DRAWS ITS ORDER: n operations in whatever order (walked in the text's, against every world of which B holds), then the tail. -/
theorem wp_drawD {P : Program} {id : Nat} {Q : Exit → Act → World → Prop} {a : Act} {w : World} {l : List Oper} (n : Nat) (B : (Nat → Bool) → World → Prop) (X : List PanicEntry → World → Prop) (hm : P.follows .mixedOrders = true) (hok : drawOk l.toArray n = true)
    (hB : B (fun _ => false) w.drew)
    (hX : ∀ c a' w', X c w' → a'.defers = a.defers → a'.tmps.size = a.tmps.size → (∀ t, noDst l n t = true → a'.tmps[t]? = a.tmps[t]?) → Q (.panic c) a' w')
    (h : headD P l.toArray B X (fun dead F => dead = [] → ∀ w1 d, (∀ j, j < n → d j = true) → B d w1 → wpList P l.toArray Q (l.drop n) F w1) [] 0 (l.take n) a) : (Code.region id l.toArray true).wp P Q a w := by
  simp only [drawOk, Bool.and_eq_true, Bool.or_eq_true, decide_eq_true_eq] at hok
  obtain ⟨⟨hh, ht⟩, hq⟩ := hok
  have hk := headOk_spec hh
  have hle : n ≤ l.length := by simpa using hk.le
  have htl : (l.take n).length = n := by simp; omega
  obtain ⟨vs, dead, F, hf, hr, _, hdn⟩ := headD_ext hk (l.take n) 0 [] a (fun j hj => by
    have hj' : j < n := by rw [htl] at hj; exact hj
    simp [hj']) (by simpa using htl) (by simp) h
  have hun : undone n (Array.replicate l.toArray.size false) = n := by
    have : ∀ i, i ∈ List.range n → (!(Array.replicate l.toArray.size false).getD i true) = true := fun i hi => by
      have hi' : i < l.toArray.size := by have := List.mem_range.1 hi; simp; omega
      have hi'' : i < l.length := by simpa using hi'
      simp [hi'']
    unfold undone
    rw [List.countP_eq_length.2 this, List.length_range]
  have inv0 : HeadInv .any l.toArray n (Array.replicate l.toArray.size false) :=
    ⟨by simp, fun j oj _ hl => (by rw [getD_replicate_false] at hl; cases hl), fun t _ ht => getD_in (by simpa using ht) (getD_replicate_false _ _)⟩
  have hgo := drawD_go (Q := Q) hk hr hdn ?_ (fun c a' w' hx h1 h2 h3 => hX c a' w' hx h1 h2 fun t ht' => h3 t fun j oj g1 g2 => noDst_spec ht' j oj g1 (by simpa using g2)) ?_ n _ a w.drew hun
    ⟨inv0, by rw [doneD_none]; exact hB, rfl, rfl, fun j _ hl => (by rw [getD_replicate_false] at hl; cases hl), fun _ _ => rfl, fun j oj t _ _ hl => (by rw [getD_replicate_false] at hl; cases hl)⟩
  · refine wp_region_any hm ?_
    rw [show n + (l.toArray.size - n) = l.toArray.size by simp; omega] at hgo
    exact hgo
  · intro listed inv i hi hun t hnt
    rcases ht with ht | ⟨⟨h1, h2⟩, h3⟩
    · intro hrd
      obtain ⟨_, o, ho, _⟩ := mem_ready.1 hrd
      have := (Array.getElem?_eq_some_iff.1 ho).1
      omega
    · exact tail_waits h2 h3 h1 inv _ i rfl hi hun t hnt
  · intro listed w1 inv hall hd hBw
    have hlst : listed = Array.replicate n true ++ Array.replicate (l.toArray.size - n) false := by
      apply Array.ext
      · rw [inv.size]; simp; omega
      · intro i h1 h2
        by_cases hi : i < n
        · have := hall i hi
          simp [h1] at this
          rw [this, Array.getElem_append_left (by simpa using hi)]
          simp
        · have := inv.tail i (by omega) (by rw [← inv.size]; exact h1)
          simp [h1] at this
          rw [this, Array.getElem_append_right (by simpa using hi)]
          simp
    have hdl : (l.drop n).length = l.toArray.size - n := by simp
    have := wpAny_of_seq (md := .any) (P := P) (ops := l.toArray) (Q' := Q) (l.drop n) n listed F w1 (fun j => by simp [List.getElem?_drop]) (by rw [hdl, hlst]; exact hq) (hf hd w1 (doneD listed) (fun j hj => by
      have h1 := hall j hj
      have h2 : j < listed.size := by rw [inv.size]; have := hk.le; omega
      simp only [doneD]
      simp [h2] at h1 ⊢; exact h1) hBw)
    rwa [hdl] at this


end Go.Proofs.Ytoplekfnghkkdaa

/-
  Package operand: Write, by its contract.
-/
namespace Go.Proofs.Ytoplekfnghkkdaa
open Go Go.RowKit
set_option linter.unusedVariables false
set_option linter.unusedSimpArgs false

def opS (s : St) (o : Opd) (b v : Int) : St := if o.k = 1 then (if b = 1 then s.setReg8 o.r v else s.setR (o.r % 8).toNat v) else s
def opWF (M : Mem) (s : St) (o : Opd) (b : Int) : Flt := if o.k = 3 then M.wrF (s.place o) (wd b) else Flt.zero
def opWK (M : Mem) (s : St) (o : Opd) (b : Int) : Bool := if o.k = 3 then M.writeK (s.place o) (wd b) else true
def opM (M : Mem) (s : St) (o : Opd) (b v : Int) : Mem := if o.k = 3 then M.writeM (s.place o) (wd b) v else M

structure WrB (S : List Nat) (s : St) (o : Opd) (X : St) (w w1 : World) : Prop where
  s : w1.heap[w.heap.size]? = some (.cells s.cells 79 (0, 0))
  o : w1.heap[w.heap.size + 1]? = some (.cells #[.int .i64 o.k, .int .i64 o.r, .int .u32 o.imm, .int .i64 o.b, .int .i64 o.x, .int .u32 o.sc] 26 (0, 0))
  r : w1.heap[w.heap.size + 1 + 1]? = some (.cells X.cells 79 (0, 0))
  f : w1.heap[w.heap.size + 1 + 1 + 1]? = some (.cells #[.int .i64 0, .int .u32 0, .int .u32 0, .int .i64 0] 49 (0, 0))
  u : Upd S w w1

theorem WrB.step {s X : St} {o : Opd} {w w1 w2 : World} {S S' T : List Nat} (h : WrB T s o X w w1) (u : Upd S w1 w2) (hS : ∀ x, x ∈ S → x < w.heap.size) (hu : Upd S' w w2) : WrB S' s o X w w2 :=
  ⟨u.get h.s (fun hh => by have := hS _ hh; omega), u.get h.o (fun hh => by have := hS _ hh; omega), u.get h.r (fun hh => by have := hS _ hh; omega), u.get h.f (fun hh => by have := hS _ hh; omega), hu⟩

theorem WrB.start (s : St) (o : Opd) (w : World) : WrB [] s o St.zero w ((((w.alloc (.cells s.cells 79)).alloc (.cells #[.int .i64 o.k, .int .i64 o.r, .int .u32 o.imm, .int .i64 o.b, .int .i64 o.x, .int .u32 o.sc] 26)).alloc (.cells #[.int .u32 0, .int .u32 0, .int .u32 0, .int .u32 0, .int .u32 0, .int .u32 0, .int .u32 0, .int .u32 0, .int .u32 0, .bool false, .bool false, .bool false, .bool false, .bool false, .bool false, .bool false, .int .u64 0] 79)).alloc (.cells #[.int .i64 0, .int .u32 0, .int .u32 0, .int .i64 0] 49)) := by
  have h2 := heap_alloc2_new (w.alloc (.cells s.cells 79)) (.cells #[.int .i64 o.k, .int .i64 o.r, .int .u32 o.imm, .int .i64 o.b, .int .i64 o.x, .int .u32 o.sc] 26) (.cells #[.int .u32 0, .int .u32 0, .int .u32 0, .int .u32 0, .int .u32 0, .int .u32 0, .int .u32 0, .int .u32 0, .int .u32 0, .bool false, .bool false, .bool false, .bool false, .bool false, .bool false, .bool false, .int .u64 0] 79)
  have h3 := heap_alloc2_new ((w.alloc (.cells s.cells 79)).alloc (.cells #[.int .i64 o.k, .int .i64 o.r, .int .u32 o.imm, .int .i64 o.b, .int .i64 o.x, .int .u32 o.sc] 26)) (.cells #[.int .u32 0, .int .u32 0, .int .u32 0, .int .u32 0, .int .u32 0, .int .u32 0, .int .u32 0, .int .u32 0, .int .u32 0, .bool false, .bool false, .bool false, .bool false, .bool false, .bool false, .bool false, .int .u64 0] 79) (.cells #[.int .i64 0, .int .u32 0, .int .u32 0, .int .i64 0] 49)
  rw [World.size_alloc] at h2
  rw [World.size_alloc, World.size_alloc] at h3
  exact ⟨heap_alloc_keep _ (heap_alloc_keep _ (heap_alloc_keep _ (heap_alloc_new _ _))), heap_alloc_keep _ (heap_alloc_keep _ (heap_alloc2_new _ _ _)), heap_alloc_keep _ h2, h3, ((((Upd.refl _ _).alloc _).alloc _).alloc _).alloc _⟩

theorem WrB.setr {s X : St} {o : Opd} {w w1 : World} {S : List Nat} (h : WrB S s o X w w1) (Y : St) : WrB S s o Y w (w1.setCells (w.heap.size + 1 + 1) 0 Y.cells.toList) :=
  have U : Upd [w.heap.size + 1 + 1] w1 (w1.setCells (w.heap.size + 1 + 1) 0 Y.cells.toList) := (Upd.refl _ _).setCells (by simp) _ _
  ⟨U.get h.s (by simp <;> omega), U.get h.o (by simp <;> omega), heap_store_state Y h.r rfl, U.get h.f (by simp <;> omega), h.u.setCells (.inr (by omega)) _ _⟩

theorem WrB.zero {s X : St} {o : Opd} {w w1 : World} {S : List Nat} (h : WrB S s o X w w1) : WrB S s o X w ((((w1.setCell ⟨w.heap.size + 1 + 1 + 1, 0, none⟩ (.int .i64 0)).setCell ⟨w.heap.size + 1 + 1 + 1, 0 + 1, none⟩ (.int .u32 0)).setCell ⟨w.heap.size + 1 + 1 + 1, 0 + 2, none⟩ (.int .u32 0)).setCell ⟨w.heap.size + 1 + 1 + 1, 0 + 3, none⟩ (.int .i64 0)) :=
  have U := Upd_store4 (S := [w.heap.size + 1 + 1 + 1]) (Upd.refl _ w1) (.inl (by simp)) (.int .i64 0) (.int .u32 0) (.int .u32 0) (.int .i64 0)
  ⟨U.get h.s (by simp <;> omega), U.get h.o (by simp <;> omega), U.get h.r (by simp <;> omega), store4 h.f _ _ _ _, Upd_store4 h.u (.inr (by omega)) _ _ _ _⟩

theorem WrB.reg {s X : St} {o : Opd} {w w1 : World} {S : List Nat} (h : WrB S s o X w w1) (i : Nat) (v : Int) (hi : i < 8) : WrB S (s.setR i v) o X w (w1.setCell ⟨w.heap.size, i, none⟩ (.int .u32 v)) :=
  have U : Upd [w.heap.size] w1 (w1.setCell ⟨w.heap.size, i, none⟩ (.int .u32 v)) := (Upd.refl _ _).setCell (by simp) _
  ⟨by rw [← St.cells_setR s i v hi]; exact heap_set_same h.s i _, U.get h.o (by simp <;> omega), U.get h.r (by simp <;> omega), U.get h.f (by simp <;> omega), h.u.setCell (.inr (by simp)) _⟩

/-- Where the region of the last results stands: which of its stores are done. -/
structure WrD (S : List Nat) (s : St) (o : Opd) (F : Flt) (gb : Nat) (w : World) (d : Nat → Bool) (w1 : World) : Prop where
  sb : w1.heap[w.heap.size]? = some (.cells s.cells 79 (0, 0))
  g : w1.heap[gb]? = some (.cells #[.int .i64 F.k, .int .u32 F.pc, .int .u32 F.a, .int .i64 F.wt] 49 (0, 0))
  r : ∃ X : St, w1.heap[w.heap.size + 1 + 1]? = some (.cells X.cells 79 (0, 0)) ∧ (d 3 = true → X = s)
  f : ∃ Y : Flt, w1.heap[w.heap.size + 1 + 1 + 1]? = some (.cells #[.int .i64 Y.k, .int .u32 Y.pc, .int .u32 Y.a, .int .i64 Y.wt] 49 (0, 0)) ∧ (d 4 = true → Y = F)
  gb : w.heap.size + 1 + 1 + 1 < gb
  u : Upd S w w1

theorem WrD.skip {S : List Nat} {s : St} {o : Opd} {F : Flt} {gb : Nat} {w w1 : World} {d : Nat → Bool} {i : Nat} (h : WrD S s o F gb w d w1) (h3 : i ≠ 3) (h4 : i ≠ 4) : WrD S s o F gb w (updD d i) w1 := by
  have e3 : updD d i 3 = d 3 := by simp only [updD]; rw [if_neg (fun e => h3 e.symm)]
  have e4 : updD d i 4 = d 4 := by simp only [updD]; rw [if_neg (fun e => h4 e.symm)]
  exact ⟨h.sb, h.g, by rw [e3]; exact h.r, by rw [e4]; exact h.f, h.gb, h.u⟩

theorem WrD.st3 {S : List Nat} {s : St} {o : Opd} {F : Flt} {gb : Nat} {w w1 : World} {d : Nat → Bool} (h : WrD S s o F gb w d w1) : WrD S s o F gb w (updD d 3) (w1.setCells (w.heap.size + 1 + 1) 0 s.cells.toList) := by
  have U : Upd [w.heap.size + 1 + 1] w1 (w1.setCells (w.heap.size + 1 + 1) 0 s.cells.toList) := (Upd.refl _ _).setCells (by simp) _ _
  have hg := h.gb
  obtain ⟨X, hX, _⟩ := h.r
  obtain ⟨Y, hY, hd⟩ := h.f
  exact ⟨U.get h.sb (by simp <;> omega), U.get h.g (by simp <;> omega), ⟨s, heap_store_state s hX rfl, fun _ => rfl⟩, ⟨Y, U.get hY (by simp <;> omega), by simpa [updD] using hd⟩, hg, h.u.setCells (.inr (by omega)) _ _⟩

theorem WrD.st4 {S : List Nat} {s : St} {o : Opd} {F : Flt} {gb : Nat} {w w1 : World} {d : Nat → Bool} (h : WrD S s o F gb w d w1) : WrD S s o F gb w (updD d 4)
    ((((w1.setCell ⟨w.heap.size + 1 + 1 + 1, 0, none⟩ (.int .i64 F.k)).setCell ⟨w.heap.size + 1 + 1 + 1, 0 + 1, none⟩ (.int .u32 F.pc)).setCell ⟨w.heap.size + 1 + 1 + 1, 0 + 2, none⟩ (.int .u32 F.a)).setCell ⟨w.heap.size + 1 + 1 + 1, 0 + 3, none⟩ (.int .i64 F.wt)) := by
  have U := Upd_store4 (S := [w.heap.size + 1 + 1 + 1]) (b := w.heap.size + 1 + 1 + 1) (Upd.refl _ w1) (.inl (by simp)) (.int .i64 F.k) (.int .u32 F.pc) (.int .u32 F.a) (.int .i64 F.wt)
  have hg := h.gb
  obtain ⟨X, hX, hd⟩ := h.r
  obtain ⟨Y, hY, _⟩ := h.f
  exact ⟨U.get h.sb (by simp <;> omega), U.get h.g (by simp <;> omega), ⟨X, U.get hX (by simp <;> omega), by simpa [updD] using hd⟩, ⟨F, store4 hY _ _ _ _, fun _ => rfl⟩, hg, Upd_store4 h.u (.inr (by omega)) _ _ _ _⟩

theorem wp_store_state' {op : Oper} {a : Act} {w : World} {K : Act → World → Prop} {Q : Exit → Act → World → Prop} (s : St) (b : Nat) (x y : Operand) (ho : op.op = .store 79 x y) (hx : a.eval x = .pointer (some ⟨b, 0, none⟩)) (hy : a.eval y = .agg s.cells)
    {c : Array Value} (hb : w.heap[b]? = some (.cells c 79 (0, 0))) (hc : c.size = 17) (hK : ∀ w', w.setCells b 0 s.cells.toList = w' → K (a.put op.dst undef) w') : op.wp Try.prog a w K Q := by
  refine wp_store_mid 79 x y ho b 0 s.cells hx hy (there_of hb 0 s.cells.size (by rw [hc, St.size]; exact Nat.le_refl _)) (by rw [St.size]; exact state_info) s.one ?_
  exact hK _ rfl

theorem opS_ok {s : St} (h : s.Ok) (o : Opd) (b : Int) {v : Int} (h0 : 0 ≤ v) (h1 : v < 4294967296) : (opS s o b v).Ok := by
  unfold opS
  split
  · split
    · exact St.setReg8_ok h _ _
    · exact St.setR_ok h _ h0 h1
  · exact h

end Go.Proofs.Ytoplekfnghkkdaa

/-
  Package page: Rights, by its contract.
-/
namespace Go.Proofs.Ytoplekfnghkkdaa
open Go Go.RowKit
set_option linter.unusedVariables false
set_option linter.unusedSimpArgs false

set_option maxRecDepth 100000 in
set_option maxHeartbeats 400000 in
theorem Rights_any (a pb : Nat) (p : Int) (w : World) (M : Mem) (hM : IsMem w a pb M) :
    Calls Try.prog 71 #[.pointer (some ⟨a, 0, none⟩), .int .i64 p] w fun e w' => e = .returned (.int .i64 (M.rights p)) ∧ w = w' := by
  by_cases h1 : p < 0
  · clear hM
    go_enter Try.func71, Try.ntmps71
    go_wp2
    go_ret
    exact ⟨by simp [Mem.rights, h1], rfl⟩
  · by_cases h2 : 64 ≤ p
    · clear hM
      go_enter Try.func71, Try.ntmps71
      go_wp2
      go_ret
      exact ⟨by simp [Mem.rights, h2], rfl⟩
    · obtain ⟨c, hc, c0⟩ := hM.c0
      have cR := hM.cR p.toNat (by omega)
      clear hM
      have h1' : 0 ≤ p := by omega
      have h2' : p < 64 := by omega
      go_enter Try.func71, Try.ntmps71
      go_wp2
      go_ret
      refine ⟨?_, rfl⟩
      have : ¬ (p < 0 ∨ 64 ≤ p) := by omega
      simp [Mem.rights, this]

end Go.Proofs.Ytoplekfnghkkdaa

/-
  Package operand: lacking, can, Can, must, Read8, Write8, each by its contract.
-/
namespace Go.Proofs.Ytoplekfnghkkdaa
open Go Go.RowKit
set_option linter.unusedVariables false
set_option linter.unusedSimpArgs false

set_option maxRecDepth 100000 in
set_option maxHeartbeats 1000000 in
theorem ocaught_panicking (fb kb : Nat) (y0 y1 y2 y3 k0 : Value) (x0 x1 x2 x3 : Int) (older : List PanicEntry) (w : World)
    (hf : w.heap[fb]? = some (.cells #[y0, y1, y2, y3] 49 (0, 0))) (hk : w.heap[kb]? = some (.cells #[k0] 4 (0, 0))) (hne : fb ≠ kb) :
    CallsD Try.prog 190 #[.pointer (some ⟨fb, 0, none⟩), .pointer (some ⟨kb, 0, none⟩)] (.panicking ({ v := .iface 49 (.agg #[.int .i64 x0, .int .u32 x1, .int .u32 x2, .int .i64 x3]), recovered := false } :: older)) w fun e u' w' =>
      e = .returned (.tuple #[]) ∧ u' = .panicking ({ v := .iface 49 (.agg #[.int .i64 x0, .int .u32 x1, .int .u32 x2, .int .i64 x3]), recovered := true } :: older) ∧
        w'.heap[fb]? = some (.cells #[.int .i64 x0, .int .u32 x1, .int .u32 x2, .int .i64 x3] 49 (0, 0)) ∧ w'.heap[kb]? = some (.cells #[.bool false] 4 (0, 0)) ∧ Upd [fb, kb] w w' := by
  refine callsD_of_wpS Try.func190 rfl fun c₀ cs hu => ?_
  simp only [Try.ntmps190, List.size_toArray, List.length_cons, List.length_nil, Nat.reduceAdd, Nat.reduceSub, Array.replicate_succ, Array.replicate_zero, List.push_toArray, List.append_toArray, List.nil_append, List.cons_append]
  apply wpS_seq
  apply wpS_region
  simp [wpOpsS, go_sem, recoverD, hu, Try.ntmps190, Exit.thenS]
  refine wpS_of_wp ?_
  clear hu
  have hfl := lt_of_heap hf
  have hkl := lt_of_heap hk
  have hcf : ∀ o, w.cell? ⟨fb, o, none⟩ = #[y0, y1, y2, y3][o]? := cells_of hf
  have hck : ∀ o, w.cell? ⟨kb, o, none⟩ = #[k0][o]? := cells_of hk
  have hff : ∀ o, w.frozen? ⟨fb, o, none⟩ = false := free_of hf
  have hfk : ∀ o, w.frozen? ⟨kb, o, none⟩ = false := free_of hk
  have HF := Lib.hid hf
  have HK := Lib.hid hk
  clear hf hk
  have hta := assert_fault
  go_wp2_with fail
  refine ⟨rfl, _, rfl, _, results_none rfl _ _ _, rfl, rfl, ?_, ?_, ?_⟩
  · refine heap_alloc_keep _ (heap_set_keep _ hne ?_)
    have h := heap_set_same (heap_set_same (heap_set_same (heap_set_same HF.out 0 (.int .i64 x0)) 1 (.int .u32 x1)) 2 (.int .u32 x2)) 3 (.int .i64 x3)
    exact h
  · refine heap_alloc_keep _ ?_
    have h := heap_set_keep (a := ⟨fb, 3, none⟩) (.int .i64 x3) hne.symm (heap_set_keep (a := ⟨fb, 2, none⟩) (.int .u32 x2) hne.symm (heap_set_keep (a := ⟨fb, 1, none⟩) (.int .u32 x1) hne.symm (heap_set_keep (a := ⟨fb, 0, none⟩) (.int .i64 x0) hne.symm HK.out)))
    exact heap_set_same h 0 (.bool false)
  · exact ((((((Upd.refl _ _).setCell (by simp) _).setCell (by simp) _).setCell (by simp) _).setCell (by simp) _).setCell (by simp) _).alloc _

set_option maxRecDepth 100000 in
set_option maxHeartbeats 1000000 in
theorem ocaught_idle (fb kb : Nat) (w : World) :
    CallsD Try.prog 190 #[.pointer (some ⟨fb, 0, none⟩), .pointer (some ⟨kb, 0, none⟩)] .returning w fun e u' w' => e = .returned (.tuple #[]) ∧ u' = .returning ∧ w = w' := by
  refine callsD_of_wpS Try.func190 rfl fun c₀ cs hu => ?_
  simp only [Try.ntmps190, List.size_toArray, List.length_cons, List.length_nil, Nat.reduceAdd, Nat.reduceSub, Array.replicate_succ, Array.replicate_zero, List.push_toArray, List.append_toArray, List.nil_append, List.cons_append]
  apply wpS_seq
  apply wpS_region
  simp [wpOpsS, go_sem, recoverD, hu, Try.ntmps190, Exit.thenS]
  refine wpS_of_wp ?_
  have HU := Lib.hid hu
  clear hu
  go_wp2_with fail
  refine ⟨rfl, .returning, ?_, _, results_none rfl _ _ _, rfl, rfl, rfl⟩
  rw [← HU.out]


def oDefers (fb kb : Nat) : List Deferred :=
  [{ target := .fn (.func 190) #[], args := #[.pointer (some ⟨fb, 0, none⟩), .pointer (some ⟨kb, 0, none⟩)] }]

theorem odoor_panic {fn : Func} {tmps : Array Value} {R : Ending → World → Prop} {w1 : World} {fb kb : Nat} {y0 y1 y2 y3 k0 : Value} (F : Flt) (V : Value)
    (hres : ∀ w2, w2.heap[fb]? = some (.cells #[.int .i64 F.k, .int .u32 F.pc, .int .u32 F.a, .int .i64 F.wt] 49 (0, 0)) → w2.heap[kb]? = some (.cells #[.bool false] 4 (0, 0)) → Upd [fb, kb] w1 w2 → (results fn tmps).run Try.prog w2 = .ok V w2)
    (hf : w1.heap[fb]? = some (.cells #[y0, y1, y2, y3] 49 (0, 0))) (hk : w1.heap[kb]? = some (.cells #[k0] 4 (0, 0))) (hne : fb ≠ kb)
    (hR : ∀ w2, Upd [fb, kb] w1 w2 → R (.returned V) w2) :
    Leaves Try.prog fn tmps R (oDefers fb kb) (.panicking [{ v := .iface 49 F.val, recovered := false }]) w1 := by
  refine leaves_cons (f := 190) (args := #[.pointer (some ⟨fb, 0, none⟩), .pointer (some ⟨kb, 0, none⟩)]) (by simp) (by simp [go_sem]) ?_
  refine (ocaught_panicking fb kb _ _ _ _ _ _ _ _ _ [] w1 hf hk hne).mono ?_
  rintro e u' w2 ⟨rfl, rfl, hf, hk, hU⟩
  simp only [settle, List.dropWhile_nil]
  exact ⟨_, hres w2 hf hk hU, hR _ hU⟩

theorem odoor_ret {fn : Func} {tmps : Array Value} {R : Ending → World → Prop} {w1 : World} {fb kb : Nat} (V : Value) (hres : (results fn tmps).run Try.prog w1 = .ok V w1) (hR : R (.returned V) w1) :
    Leaves Try.prog fn tmps R (oDefers fb kb) .returning w1 := by
  refine leaves_cons (f := 190) (args := #[.pointer (some ⟨fb, 0, none⟩), .pointer (some ⟨kb, 0, none⟩)]) (by simp) (by simp [go_sem]) ?_
  refine (ocaught_idle _ _ w1).mono ?_
  rintro e u' w2 ⟨rfl, rfl, rfl⟩
  simp only [settle]
  exact ⟨_, hres, hR⟩

set_option maxRecDepth 100000 in
set_option maxHeartbeats 400000 in
theorem lacking_any (M : Mem) (a pb : Nat) (x r : Int) (w : World) (hM : IsMem w a pb M) (h0 : 0 ≤ x) :
    Calls Try.prog 207 #[.pointer (some ⟨a, 0, none⟩), .int .u32 x, .int .i64 r] w fun e w' => e = .returned (.int .i64 (M.lack x r)) ∧ w = w' := by
  by_cases h : x < 16384
  · have HR := Lib.hid (show M.rights (x / 256) = M.R (x / 256).toNat by rw [Mem.rights, if_neg (by omega)])
    have HV := Lib.hid (show M.lack x r = lowI (bits .andNot .i64 r (M.R (x / 256).toNat)) by rw [Mem.lack, Mem.rightAt, if_pos h])
    go_enter Try.func207, Try.ntmps207
    go_wp2_with (go_at_call 71; refine (Rights_any a pb _ _ M hM).mono ?_; rintro e w' ⟨rfl, rfl⟩; rw [HR.out])
    go_ret
    rw [HV.out]
    exact ⟨rfl, rfl⟩
  · have HV := Lib.hid (show M.lack x r = lowI (bits .andNot .i64 r 0) by rw [Mem.lack, Mem.rightAt, if_neg h])
    go_enter Try.func207, Try.ntmps207
    go_wp2_with fail
    go_ret
    rw [HV.out]
    exact ⟨rfl, rfl⟩

theorem must_ok (F : Flt) (w : World) : Calls Try.prog 191 #[F.val, .bool true] w fun e w' => e = .returned (.tuple #[]) ∧ Upd [] w w' := by
  unfold Flt.val
  go_enter Try.func191, Try.ntmps191
  go_wp2
  go_end0
  exact ⟨rfl, (Upd.refl _ _).alloc _⟩

theorem must_bad (F : Flt) (w : World) : Calls Try.prog 191 #[F.val, .bool false] w fun e w' => e = .panicked [{ v := .iface 49 F.val, recovered := false }] ∧ Upd [] w w' := by
  unfold Flt.val
  go_enter Try.func191, Try.ntmps191
  go_wp2
  exact ⟨rfl, rfl, (Upd.refl _ _).alloc _⟩

structure CanB (w w1 : World) : Prop where
  f : w1.heap[w.heap.size]? = some (.cells #[.int .i64 0, .int .u32 0, .int .u32 0, .int .i64 0] 49 (0, 0))
  k : w1.heap[w.heap.size + 1]? = some (.cells #[.bool false] 4 (0, 0))
  u : Upd [] w w1

theorem CanB.start (w : World) : CanB w ((w.alloc (.cells #[.int .i64 0, .int .u32 0, .int .u32 0, .int .i64 0] 49)).alloc (.cells #[.bool false] 4)) :=
  ⟨heap_alloc2_old _ _ _, heap_alloc2_new _ _ _, ((Upd.refl _ _).alloc _).alloc _⟩

set_option maxRecDepth 100000 in
set_option maxHeartbeats 4000000 in
theorem can_any (M : Mem) (a pb n : Nat) (x r : Int) (w : World) (hM : IsMem w a pb M) (h0 : 0 ≤ x) (h1 : x < 4294967296) (hn : n ≤ 16) :
    Calls Try.prog 192 #[.pointer (some ⟨a, 0, none⟩), .int .u32 x, .int .i64 n, .int .i64 r] w fun e w' => e = .returned (.tuple #[(M.canF x n r).val, .bool (M.canK x n r)]) ∧ Upd [] w w' := by
  have HS := Lib.hid (CanB.start w)
  have HM := Lib.hid hM
  clear hM
  go_enter_defers Try.func192, Try.ntmps192
  go_wp2
  go_loopw [14] (fun i wr => ∃ j : Nat, j ≤ n ∧ i = .int .i64 j ∧ (∀ t, t < j → M.lack (plus x t) r = 0) ∧ CanB w wr) (fun i _ => n - (intOf i).toNat)
  case atStart => exact ⟨0, Nat.zero_le _, rfl, by simp, HS.out⟩
  case round =>
    obtain ⟨j, hj, rfl, hcan, hB⟩ := hrel
    have HC := Lib.hid hcan
    have HB := Lib.hid hB
    clear hcan hB
    by_cases hlt : j < n
    · have hd : decide ((j : Int) < n) = true := by simp; omega
      have q1 : (j : Int) % 4294967296 = j := by omega
      have q2 : (x + j) % 4294967296 = plus x j := rfl
      by_cases hb : M.lack (plus x j) r = 0
      · have HG := Lib.hid hb
        clear hb
        go_wp2_with (go_at_call 207; refine (lacking_any M a pb (plus x j) r _ (HM.out.keep HB.out.u (by simp) (by simp)) (plus_nn x j)).mono ?_; rintro e w2 ⟨rfl, rfl⟩; rw [HG.out])
        go_roundw
        case rel => exact ⟨j + 1, by omega, by go_num, fun t ht => by
            by_cases e : t = j
            · subst e; exact HG.out
            · exact HC.out t (by omega), HB.out⟩
        case measure => simp [intOf]; omega
      · have hb2 : (M.lack (plus x j) r == 0) = false := by simpa using hb
        have HG := Lib.hid hb
        clear hb
        go_wp2_with (go_at_call 207; refine (lacking_any M a pb (plus x j) r _ (HM.out.keep HB.out.u (by simp) (by simp)) (plus_nn x j)).mono ?_; rintro e w2 ⟨rfl, rfl⟩)
        have hbad := canBad_some M x n r j hlt HC.out HG.out
        refine odoor_panic (fb := w.heap.size) (kb := w.heap.size + 1) ⟨1, 0, plus x j, M.lack (plus x j) r⟩ (.tuple #[(M.canF x n r).val, .bool (M.canK x n r)]) (fun w2 hf hk hU => ?_) HB.out.f HB.out.k (by omega) (fun w2 hU => ⟨rfl, HB.out.u.also hU (by simp <;> omega)⟩)
        rw [Mem.canF, Mem.canK, hbad]
        exact results_two' rfl (res_flt 8 w.heap.size _ rfl hf) (res_bool 9 (w.heap.size + 1) _ rfl hk)
    · obtain rfl : n = j := by omega
      have cf := cells_of HB.out.f
      have ff := free_of HB.out.f
      have ck := cells_of HB.out.k
      have fk := free_of HB.out.k
      have hbad := Lib.hid (canBad_none M x n r HC.out)
      go_wp2_with fail
      have hF := heap_set_keep (a := ⟨w.heap.size + 1, 0, none⟩) (.bool true) (by simp) (store4 HB.out.f (.int .i64 0) (.int .u32 0) (.int .u32 0) (.int .i64 0))
      have UK := Upd_store4 (S := [w.heap.size]) (b := w.heap.size) (Upd.refl _ wr) (.inl (by simp)) (.int .i64 0) (.int .u32 0) (.int .u32 0) (.int .i64 0)
      have hK := heap_set_same (UK.get HB.out.k (by simp)) 0 (.bool true)
      refine odoor_ret (.tuple #[(M.canF x n r).val, .bool (M.canK x n r)]) ?_ ⟨rfl, (Upd_store4 (b := w.heap.size) HB.out.u (.inr (Nat.le_refl _)) _ _ _ _).setCell (.inr (by simp)) _⟩
      rw [Mem.canF, Mem.canK, hbad.out]
      exact results_two' rfl (res_flt 8 w.heap.size Flt.zero rfl hF) (res_bool 9 (w.heap.size + 1) true rfl hK)

end Go.Proofs.Ytoplekfnghkkdaa
