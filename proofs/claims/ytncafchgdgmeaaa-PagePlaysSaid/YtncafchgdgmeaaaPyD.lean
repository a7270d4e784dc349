/-
  The law PagePlays: what holds along its walk; its steps by one contract. No condition.
-/
import Derived.Test.YtncafchgdgmeaaaPyC
import Derived.Test.YtncafchgdgmeaaaAk6
import Derived.Test.YtncafchgdgmeaaaPgI
import Derived.Test.YtncafchgdgmeaaaPgK
namespace Go.Proofs.Ytncafchgdgmeaaa
open Go Go.RowKit
set_option linter.unusedVariables false
set_option linter.unusedSimpArgs false

theorem py_any (M : Mem) (s : StepV) (a pb rr : Nat) (w : World) (hM : IsMem w a pb M) (hR : IsRef w rr M) (hn : rr ≠ a ∧ rr ≠ pb) (hG : s.Good w) (hB : s.B ≠ [] → s.gb ≠ a ∧ s.gb ≠ pb ∧ s.gb ≠ rr) (hT : s.S ≠ [] → s.gs ≠ a ∧ s.gs ≠ pb ∧ s.gs ≠ rr) (hS : s.B.length ≤ 16384) :
    Calls Try.prog 24 #[.pointer (some ⟨a, 0, none⟩), .pointer (some ⟨rr, 0, none⟩), .agg #[.int .i64 s.wt, .int .i64 s.pg, .int .i64 s.ct, .int .i64 s.rt, .int .i64 s.nb, .int .u32 s.at_, .int .u32 s.v, s.vb, s.vs]] w fun e w' => e = .returned (.bool true) ∧ PyE w a pb rr (M.stepM s) w' := by
  by_cases h0 : s.wt = 0
  · have h := py_map M s a pb rr w hM hR hn hG hB hT hS
    rw [h0, show M.stepM s = M.mapM s.pg s.ct s.rt from by simp [Mem.stepM, h0]]
    exact h
  by_cases h1 : s.wt = 1
  · have h := py_unmap M s a pb rr w hM hR hn hG hB hT hS
    rw [h1, show M.stepM s = M.unmapM s.pg s.ct from by simp [Mem.stepM, h1]]
    exact h
  by_cases h2 : s.wt = 2
  · have h := py_prot M s a pb rr w hM hR hn hG hB hT hS
    rw [h2, show M.stepM s = M.protM s.pg s.ct s.rt from by simp [Mem.stepM, h2]]
    exact h
  by_cases h3 : s.wt = 3
  · have h := py_write3 M s a pb rr w hM hR hn hG hB hT hS
    rw [h3, show M.stepM s = M.writeM s.at_ s.nb s.v from by simp [Mem.stepM, h3]]
    exact h
  by_cases h4 : s.wt = 4
  · have h := py_write4 M s a pb rr w hM hR hn hG hB hT hS
    rw [h4, show M.stepM s = M.writeM s.at_ s.nb s.v from by simp [Mem.stepM, h4]]
    exact h
  by_cases h5 : s.wt = 5
  · have h := py_read M s a pb rr w hM hR hn hG hB hT hS
    rw [h5, show M.stepM s = M from by simp [Mem.stepM, h5]]
    exact h
  by_cases h6 : s.wt = 6
  · have h := py_poke M s a pb rr w hM hR hn hG hB hT hS
    rw [h6, show M.stepM s = M.poke s.at_ s.B from by simp [Mem.stepM, h6]]
    exact h
  · have h := py_load M s a pb rr w hM hR hn hG hB hT hS (by simpa using h0) (by simpa using h1) (by simpa using h2) (by simpa using h3) (by simpa using h4) (by simpa using h5) (by simpa using h6)
    rw [show M.stepM s = loadR s.S M from by simp [Mem.stepM, h0, h1, h2, h3, h4, h5, h6]]
    exact h

/-- An operation that lays a block, with what it waits for. -/
theorem headE_freeD {P : Program} {ops : Array Oper} {B : (Nat → Bool) → (Nat → Value) → World → Prop} {X : List PanicEntry → World → Prop} {n : Nat} {fin : List Nat → List Nat → Act → Prop} {dead free : List Nat} {i : Nat} {o : Oper} {rest : List Oper} {a : Act}
    (hd : deadDep dead o = false) (hw : ∀ r, Region.wanted o (yielded ops (fillE ops r free a).tmps) = true) (t : Tmp) (ht : o.dst = some t) (hs : t < a.tmps.size)
    (h : ∀ (d : Nat → Bool) (r : Nat → Value) (K : Act → World → Prop), d i = false → (∀ e ∈ o.after, Region.binds .any e = true → d e.on = true) → ∀ w, B d r w → (∀ v w', B (updD d i) (updV r i v) w' → K ((fillE ops r free a).put o.dst v) w') → o.wp P (fillE ops r free a) w K (PX X))
    (k : headE P ops B X n fin dead (i :: free) (i + 1) rest a) : headE P ops B X n fin dead free i (o :: rest) a :=
  .inr (.inr (.inr (.inr ⟨hd, hw, ⟨t, ht, hs⟩, fun d r w hdi hdep hB => h d r _ hdi hdep w hB (fun v w' hB' => ⟨v, rfl, hB'⟩), k⟩)))

structure PwB (W : World) (a rr : Nat) (M M' : Mem) (L : List Int) (d : Nat → Bool) (r : Nat → Value) (w : World) : Prop where
  m : ∃ qb, W.heap.size ≤ qb ∧ IsMem w a qb (if d 6 then M' else M)
  f : IsRef w rr (if d 6 then M' else M)
  u : Upd [] W w
  p : d 26 = true → ∃ g, BySl w (r 26) L g
  q : d 39 = true → ∃ g, BySl w (r 39) L g
  o : ∀ j, 6 < j → d j = true → d 6 = true
  n : W.heap.size ≤ a ∧ W.heap.size ≤ rr ∧ rr ≠ a

section
variable {W w w' : World} {a rr : Nat} {M M' : Mem} {L : List Int} {d : Nat → Bool} {r : Nat → Value} {v : Value}
theorem PwB.same (h : PwB W a rr M M' L d r w) (i : Nat) (h1 : i < 6) : PwB W a rr M M' L (updD d i) r w := by
  have e6 : updD d i 6 = d 6 := by simp [updD]; omega
  have e26 : updD d i 26 = d 26 := by simp [updD]; omega
  have e39 : updD d i 39 = d 39 := by simp [updD]; omega
  refine ⟨by rw [e6]; exact h.m, by rw [e6]; exact h.f, h.u, by rw [e26]; exact h.p, by rw [e39]; exact h.q, fun j hj => ?_, h.n⟩
  have ej : updD d i j = d j := by simp [updD]; omega
  rw [ej, e6]
  exact h.o j hj

theorem PwB.on (h : PwB W a rr M M' L d r w) (h6 : d 6 = true) (i : Nat) (hi : i ≠ 6) : ∀ j, 6 < j → updD d i j = true → updD d i 6 = true := by
  intro j hj _
  simp [updD, h6, hi.symm]

theorem PwB.same1 (h : PwB W a rr M M' L d r w) (h6 : d 6 = true) (i : Nat) (h1 : i ≠ 6) (h2 : i ≠ 26) (h3 : i ≠ 39) : PwB W a rr M M' L (updD d i) r w :=
  ⟨by simpa [updD, h1.symm] using h.m, by simpa [updD, h1.symm] using h.f, h.u, by simpa [updD, h2.symm] using h.p, by simpa [updD, h3.symm] using h.q, h.on h6 i h1, h.n⟩

theorem PwB.alike (h : PwB W a rr M M' L d r w) (h6 : d 6 = true) (u : Upd [] w w') : PwB W a rr M M' L (updD d 11) r w' := by
  obtain ⟨qb, hq, hm⟩ := h.m
  refine ⟨⟨qb, hq, by simpa [updD] using hm.keep u (by simp) (by simp)⟩, by simpa [updD] using h.f.keep u (by simp), h.u.also u (by simp), fun e => ?_, fun e => ?_, h.on h6 11 (by decide), h.n⟩
  · obtain ⟨g, hg⟩ := h.p (by simpa [updD] using e)
    exact ⟨g, hg.keep u (by simp)⟩
  · obtain ⟨g, hg⟩ := h.q (by simpa [updD] using e)
    exact ⟨g, hg.keep u (by simp)⟩

theorem PwB.putP (h : PwB W a rr M M' L d r w) (h6 : d 6 = true) (u : Upd [] w w') (hv : ∃ g, BySl w' v L g) : PwB W a rr M M' L (updD d 26) (updV r 26 v) w' := by
  obtain ⟨qb, hq, hm⟩ := h.m
  refine ⟨⟨qb, hq, by simpa [updD] using hm.keep u (by simp) (by simp)⟩, by simpa [updD] using h.f.keep u (by simp), h.u.also u (by simp), fun _ => by simpa [updV] using hv, fun e => ?_, h.on h6 26 (by decide), h.n⟩
  obtain ⟨g, hg⟩ := h.q (by simpa [updD] using e)
  exact ⟨g, by simpa [updV] using hg.keep u (by simp)⟩

theorem PwB.putQ (h : PwB W a rr M M' L d r w) (h6 : d 6 = true) (u : Upd [] w w') (hv : ∃ g, BySl w' v L g) : PwB W a rr M M' L (updD d 39) (updV r 39 v) w' := by
  obtain ⟨qb, hq, hm⟩ := h.m
  refine ⟨⟨qb, hq, by simpa [updD] using hm.keep u (by simp) (by simp)⟩, by simpa [updD] using h.f.keep u (by simp), h.u.also u (by simp), fun e => ?_, fun _ => by simpa [updV] using hv, h.on h6 39 (by decide), h.n⟩
  obtain ⟨g, hg⟩ := h.p (by simpa [updD] using e)
  exact ⟨g, by simpa [updV] using hg.keep u (by simp)⟩

theorem PwB.step (h : PwB W a rr M M' L d r w) (h6 : d 6 = false) {qb : Nat} (hq : W.heap.size ≤ qb) (e : PyE w a qb rr M' w') : PwB W a rr M M' L (updD d 6) r w' := by
  obtain ⟨q2, hq2, hm⟩ := e.m
  have hno : ∀ j, 6 < j → d j = true → False := fun j hj hd => by
    have := h.o j hj hd
    rw [h6] at this
    cases this
  have hz := h.u.size
  refine ⟨⟨q2, by omega, by simpa [updD] using hm⟩, by simpa [updD] using e.r, h.u.also e.u (fun x hx => ?_), fun e => ?_, fun e => ?_, fun j hj _ => by simp [updD], h.n⟩
  · have := h.n
    simp at hx
    rcases hx with rfl | rfl | rfl
    · exact .inr this.1
    · exact .inr hq
    · exact .inr this.2.1
  · exact (hno 26 (by decide) (by simpa [updD] using e)).elim
  · exact (hno 39 (by decide) (by simpa [updD] using e)).elim
end

/-- A step's place in the arguments is older than both memories. -/
theorem py_args {W w1 : World} {s : StepV} {a pb rr : Nat} (hG : s.Good W) (h : W.heap.size ≤ a ∧ W.heap.size ≤ pb ∧ W.heap.size ≤ rr) :
    (s.B ≠ [] → s.gb ≠ a ∧ s.gb ≠ pb ∧ s.gb ≠ rr) ∧ (s.S ≠ [] → s.gs ≠ a ∧ s.gs ≠ pb ∧ s.gs ≠ rr) := by
  constructor
  · intro hne
    rcases hG.b with ⟨_, _, _, h0⟩ | ⟨_, hlt, _⟩
    · exact absurd h0 hne
    · omega
  · intro hne
    rcases hG.sa.sp with ⟨_, _, _, h0⟩ | ⟨_, _, _, hlt, _⟩
    · exact absurd h0 hne
    · omega

theorem Plays.keep {W w : World} {v : Value} {f : Nat → StepV} {n : Nat} (h : Plays W v f n) (u : Upd [] W w) : Plays w v f n := by
  refine ⟨?_, fun i hi => (h.good i hi).keep u, h.len⟩
  rcases h.form with h | ⟨g, o, c, h1, h2, h3⟩
  · exact .inl h
  · refine .inr ⟨g, o, c, h1, Nat.lt_of_lt_of_le h2 u.size, fun i hi j hj => ?_⟩
    have e : w.cell? ⟨g, o + i * 9 + j, none⟩ = W.cell? ⟨g, o + i * 9 + j, none⟩ := by
      simp only [World.cell?]; rw [u.block g h2 (by simp)]
    rw [e]
    exact h3 i hi j hj

end Go.Proofs.Ytncafchgdgmeaaa
