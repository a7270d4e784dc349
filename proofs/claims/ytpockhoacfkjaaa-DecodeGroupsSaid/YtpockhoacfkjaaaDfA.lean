/-
  The law DecodeForms: the plain part; what holds along its walk. No condition.
-/
import Derived.Test.YtpockhoacfkjaaaDnA
namespace Go.Proofs.Ytpockhoacfkjaaa
open Go Go.RowKit
set_option linter.unusedVariables false
set_option linter.unusedSimpArgs false

theorem fm_mrm (m k : Int) (hm : 0 ≤ m ∧ m < 4) (hk : 0 ≤ k ∧ k < 8) : mrmOf (64 * m + 24 + k) = ⟨m, 3, k⟩ := by
  unfold mrmOf
  rw [show (64 * m + 24 + k) / 64 = m by omega, show (64 * m + 24 + k) / 8 % 8 = 3 by omega, show (64 * m + 24 + k) % 8 = k by omega]

theorem fm_head (c m k : Int) (T : List Int) (hm : 0 ≤ m ∧ m < 4) (hk : 0 ≤ k ∧ k < 8) (hc : c = 64 * m + 24 + k) :
    dcInsn (139 :: c :: T) 0 = (dcPlace (139 :: c :: T) ⟨m, 3, k⟩ 2).bind fun o k => .ok ⟨1, 0, regO 3, o, false, 0⟩ k := by
  rw [dcInsn, byte0, DR.bind_ok]
  have e : dcRest (139 :: c :: T) 139 (0 + 1) = dcTwo (139 :: c :: T) 1 true 1 := rfl
  rw [e, dcTwo, dcMrm, byte1, DR.bind_ok, DR.bind_ok, hc, fm_mrm m k hm hk]
  rfl

/-- The place's scale. -/
def scOf (s : Int) : Int := 2 ^ (s / 64).toNat

theorem fm_word (a b c d : Int) (L T : List Int) (v : Int) (hv : 0 ≤ v ∧ v < 4294967296) : dcWord (a :: b :: by0 v :: by1 v :: by2 v :: by3 v :: T) 2 = .ok v 6 ∧ dcWord (a :: b :: c :: by0 v :: by1 v :: by2 v :: by3 v :: T) 3 = .ok v 7 := by
  constructor
  · unfold dcWord
    rw [if_pos (by simp)]
    simp [wordAt, by0, by1, by2, by3]; omega
  · unfold dcWord
    rw [if_pos (by simp)]
    simp [wordAt, by0, by1, by2, by3]; omega

theorem byte3 (a b c d : Int) (L : List Int) : dcByte (a :: b :: c :: d :: L) 3 = .ok d 4 := by simp [dcByte]

/-- Along the walk: the slice, the operand that is wanted. -/
structure Fm (w : World) (v : Value) (L : List Int) (ob : Nat) (o : Opd) (w1 : World) : Prop where
  d : Dn w v L w1
  o : w1.heap[ob]? = some (.cells o.cells 26 (0, 0))
  n : w.heap.size ≤ ob

section
variable {w w1 w2 : World} {v v' : Value} {L N : List Int} {ob : Nat} {o o' : Opd}
theorem Fm.step (h : Fm w v L ob o w1) (u : Upd [] w1 w2) : Fm w v L ob o w2 := ⟨h.d.step u, u.get h.o (by simp), h.n⟩

theorem Fm.grow (h : Fm w v L ob o w1) (hg : Grew w1 w.heap.size v N v' w2) : Fm w v' N ob o w2 := by
  refine ⟨h.d.grow hg, hg.u.get h.o ?_, h.n⟩
  intro hx
  have := own_other h.d.o h.o (by decide)
  cases hv : v.ownBlock with
  | none => rw [hv] at hx; simp at hx
  | some g => rw [hv] at hx this; simp at hx; subst hx; exact this rfl

theorem Fm.touch (h : Fm w v L ob o w1) (u : Upd [ob] w1 w2) (ho : w2.heap[ob]? = some (.cells o'.cells 26 (0, 0))) : Fm w v L ob o' w2 := by
  refine ⟨⟨h.d.u.also u (by simp; exact h.n), h.d.o.keep u ?_⟩, ho, h.n⟩
  intro g hg hx
  simp at hx
  subst hx
  exact own_other h.d.o h.o (by decide) hg

theorem Fm.set (h : Fm w v L ob o w1) (j : Nat) (x : Value) (ho : o.cells.setIfInBounds j x = o'.cells) : Fm w v L ob o' (w1.setCell ⟨ob, j, none⟩ x) := by
  have u : Upd [ob] w1 (w1.setCell ⟨ob, j, none⟩ x) := (Upd.refl _ w1).setCell (by simp) _
  have ho' := heap_set_same h.o j x
  rw [ho] at ho'
  exact h.touch u ho'

theorem Fm.all (h : Fm w v L ob o w1) (hw : w1.setCells ob 0 o'.cells.toList = w2) : Fm w v L ob o' w2 := by
  obtain ⟨z1, z2⟩ := opd_new hw h.o rfl
  exact h.touch z2 z1

theorem Fm.start {w0 : World} (h : Upd [] w w0) (C : Array Value) (N : List Int) (hC : C.toList = N.map (.int .u8)) (hn : N.length ≤ maxLen) :
    Fm w (.slice (some ⟨w0.heap.size, 0, none⟩) N.length N.length) N (w0.heap.size + 1) o ((w0.alloc (.cells C 5)).alloc (.cells o.cells 26)) := by
  have h1 := heap_alloc_new (w0.alloc (.cells C 5)) (.cells o.cells 26)
  rw [show (w0.alloc (.cells C 5)).heap.size = w0.heap.size + 1 by simp] at h1
  exact ⟨⟨(h.alloc _).alloc _, ((Dn.start h).lit C N hC hn).keep ((Upd.refl [] _).alloc _) (by simp)⟩, h1, by have := h.size; omega⟩
end

theorem Grew.form {w : World} {base : Nat} {v : Value} {L : List Int} {v' : Value} {w' : World} (h : Grew w base v L v' w') (n : Nat) (hn : L.length = n) : ∃ b c, v' = .slice b n c := by
  subst hn
  exact ownsRow_form h.o

theorem byl_lit (w : World) (M : List Int) (C : Array Value) (T : TypeId) (hC : C.toList = M.map (.int .u8)) : BySl (w.alloc (.cells C T)) (.slice (some ⟨w.heap.size, 0, none⟩) M.length M.length) M w.heap.size := by
  refine .inr ⟨0, M.length, C, T, _, rfl, heap_alloc_new w _, fun i hi => ?_⟩
  rw [Nat.zero_add, ← Array.getElem?_toList, hC, List.getElem?_map, List.getD_eq_getElem?_getD, List.getElem?_eq_getElem hi]
  rfl

/-- An operand read out of an instruction, or out of its own variable. -/
theorem opd_range {w : World} {b : Nat} {i : Ins} (h : w.heap[b]? = some (.cells i.cells 28 (0, 0))) : w.rangeAt b 2 i.a.cells.toList ∧ w.rangeAt b 8 i.b.cells.toList := by
  constructor
  · intro j v hv
    rw [cells_of h]
    have hj : j < 6 := by
      have := (List.getElem?_eq_some_iff.1 hv).1
      simpa [Opd.cells] using this
    rw [Array.getElem?_toList] at hv
    have h6 : j = 0 ∨ j = 1 ∨ j = 2 ∨ j = 3 ∨ j = 4 ∨ j = 5 := by omega
    rcases h6 with rfl | rfl | rfl | rfl | rfl | rfl <;> exact hv
  · intro j v hv
    rw [cells_of h]
    have hj : j < 6 := by
      have := (List.getElem?_eq_some_iff.1 hv).1
      simpa [Opd.cells] using this
    rw [Array.getElem?_toList] at hv
    have h6 : j = 0 ∨ j = 1 ∨ j = 2 ∨ j = 3 ∨ j = 4 ∨ j = 5 := by omega
    rcases h6 with rfl | rfl | rfl | rfl | rfl | rfl <;> exact hv

theorem wpList_load_opd_at {ops : Array Oper} {rest : List Oper} {op : Oper} {a : Act} {w : World} {Q : Exit → Act → World → Prop} (o : Opd) (b off : Nat) (hgd : Region.wanted op (yielded ops a.tmps) = true) (x : Operand) (ho : op.op = .load 26 x) (hx : a.eval x = .pointer (some ⟨b, off, none⟩))
    (hb : w.rangeAt b off o.cells.toList) (h : wpList Try.prog ops Q rest (a.put op.dst (.agg o.cells)) w) : wpList Try.prog ops Q (op :: rest) a w :=
  wpList_want hgd fun _ hK => wp_load_mid 26 x ho b off hx o.cells.toList _ hb Try.underlying26 rfl (by rw [Array.length_toList, Opd.size]; exact opd_info) (by rw [Array.toArray_toList]; exact hK _ _ h)

theorem wpList_load_ins_g {ops : Array Oper} {rest : List Oper} {op : Oper} {a : Act} {w : World} {Q : Exit → Act → World → Prop} (i : Ins) (b : Nat) (hgd : Region.wanted op (yielded ops a.tmps) = true) (x : Operand) (ho : op.op = .load 28 x) (hx : a.eval x = .pointer (some ⟨b, 0, none⟩))
    (hb : w.heap[b]? = some (.cells i.cells 28 (0, 0))) (h : wpList Try.prog ops Q rest (a.put op.dst (.agg i.cells)) w) : wpList Try.prog ops Q (op :: rest) a w :=
  wpList_want hgd fun _ hK => wp_load_ins i b x ho hx hb (hK _ _ h)

end Go.Proofs.Ytpockhoacfkjaaa
