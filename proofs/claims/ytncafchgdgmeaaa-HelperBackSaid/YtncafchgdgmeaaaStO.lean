/-
  The law OperandBytes: the plain part.
-/
import Derived.Test.YtncafchgdgmeaaaStN
import Derived.Test.YtncafchgdgmeaaaDraw3
namespace Go.Proofs.Ytncafchgdgmeaaa
open Go Go.RowKit
set_option linter.unusedVariables false
set_option linter.unusedSimpArgs false

def obM : Mem := Mem.zero.mapN (0 : Int).toNat (2 : Int).toNat 3
theorem ob_map : Mem.zero.mapB 0 2 3 = true := by decide +kernel
theorem obM_R (p : Nat) (h : p < 2) : obM.R p = 3 := by
  simp only [obM, Mem.mapN]
  rw [if_pos (by simp; omega)]

def obO (x : Nat) : Opd := ⟨3, 0, x, -1, -1, 1⟩
theorem obO_ok (x : Nat) (h : x < 256) : (obO x).Ok := ⟨by simp only [obO]; omega, by simp [obO]⟩

def obA (x : Nat) (w : Int) : Mem := obM.putN x w (widthI 4).toNat
def obB (x : Nat) (w v : Int) : Mem := (obA x w).putN x v (widthI 1).toNat

theorem ob_place (s : St) (x : Nat) (h : x < 256) : s.place (obO x) = x := op_place0 s x (by omega) (by omega)

theorem ob_bad {M : Mem} (hR : M.R = obM.R) (x n : Nat) (r : Int) (hr : bits .and .i64 3 r ≠ 0) (hx : x < 256) (hn : n ≤ 4) : M.bad x r n = none := by
  refine bad_none_page M x n r (by omega) fun t ht => ?_
  rw [hR, obM_R _ (by omega)]
  exact hr

theorem ob_w1 (s : St) (x : Nat) (w : Int) (h : x < 256) : opWF obM s (obO x) 4 = Flt.zero ∧ opWK obM s (obO x) 4 = true ∧ opM obM s (obO x) 4 w = obA x w := by
  have hb := ob_bad (M := obM) rfl x (widthI 4).toNat 2 (by decide) h (by decide)
  have e : wd 4 = 4 := by decide
  have e3 : (obO x).k = 3 := rfl
  refine ⟨?_, ?_, ?_⟩
  · rw [opWF, if_pos e3, ob_place s x h, e, Mem.wrF, hb]
  · rw [opWK, if_pos e3, ob_place s x h, e, Mem.writeK, hb]; rfl
  · rw [opM, if_pos e3, ob_place s x h, e, Mem.writeM, hb]; rfl

theorem ob_w2 (s : St) (x : Nat) (w v : Int) (h : x < 256) : opWF (obA x w) s (obO x) 1 = Flt.zero ∧ opWK (obA x w) s (obO x) 1 = true ∧ opM (obA x w) s (obO x) 1 v = obB x w v := by
  have hb := ob_bad (M := obA x w) (by rw [obA, Mem.putN_R]) x (widthI 1).toNat 2 (by decide) h (by decide)
  have e : wd 1 = 1 := by decide
  have e3 : (obO x).k = 3 := rfl
  refine ⟨?_, ?_, ?_⟩
  · rw [opWF, if_pos e3, ob_place s x h, e, Mem.wrF, hb]
  · rw [opWK, if_pos e3, ob_place s x h, e, Mem.writeK, hb]; rfl
  · rw [opM, if_pos e3, ob_place s x h, e, Mem.writeM, hb]; rfl

theorem ob_B (x : Nat) (w v : Int) (h : x < 256) (k : Nat) (h0 : x ≤ k) (h1 : k < x + 4) : (obB x w v).B k = if k = x then v % 256 else w / 2 ^ (8 * (k - x)) % 256 := by
  have e4 : (widthI 4).toNat = 4 := by decide
  have e1 : (widthI 1).toNat = 1 := by decide
  rw [obB, Mem.putN_lt _ _ _ _ (by rw [e1]; omega) (by omega), obA, Mem.putN_lt _ _ _ _ (by rw [e4]; omega) (by omega), e1, e4]
  by_cases hk : k = x
  · subst hk
    rw [if_pos (by omega), if_pos rfl, show 8 * (k - (k : Int).toNat) = 0 from by omega]
    simp
  · rw [if_neg (by omega), if_pos (by omega), if_neg hk, Int.toNat_natCast]

theorem ob_get (x : Nat) (w v : Int) (h : x < 256) (hw0 : 0 ≤ w) (hw1 : w < 4294967296) : (obB x w v).get x (widthI 4).toNat = w / 256 * 256 + v % 256 := by
  rw [Mem.get4 _ _ (by omega), ob_B x w v h x (by omega) (by omega), ob_B x w v h (x + 1) (by omega) (by omega), ob_B x w v h (x + 2) (by omega) (by omega), ob_B x w v h (x + 3) (by omega) (by omega)]
  rw [if_pos rfl, if_neg (by omega), if_neg (by omega), if_neg (by omega), show 8 * (x + 1 - x) = 8 from by omega, show 8 * (x + 2 - x) = 16 from by omega, show 8 * (x + 3 - x) = 24 from by omega]
  simp only [Int.reducePow]
  omega

theorem ob_r (s : St) (x : Nat) (w v : Int) (h : x < 256) (hw0 : 0 ≤ w) (hw1 : w < 4294967296) : opV (obB x w v) s (obO x) 4 = w / 256 * 256 + v % 256 ∧ opF (obB x w v) s (obO x) 4 = Flt.zero ∧ opK (obB x w v) s (obO x) 4 = true := by
  have hb := ob_bad (M := obB x w v) (by rw [obB, Mem.putN_R, obA, Mem.putN_R]) x (widthI 4).toNat (rightI 1) (by decide) h (by decide)
  have e : wd 4 = 4 := by decide
  have e3 : (obO x).k = 3 := rfl
  have e1 : ¬ (obO x).k = 1 := by rw [e3]; decide
  have e2 : ¬ (obO x).k = 2 := by rw [e3]; decide
  refine ⟨?_, ?_, ?_⟩
  · rw [opV, if_neg e1, if_neg e2, if_pos e3, ob_place s x h, e, Mem.readV, hb]; exact ob_get x w v h hw0 hw1
  · rw [opF, if_pos e3, ob_place s x h, e, Mem.rdF, hb]
  · rw [opK, if_pos e3, ob_place s x h, e, Mem.readK, hb]; rfl

theorem ob_reg8 (s : St) (r : Nat) (v : Int) (hr : r < 8) (hs : s.Ok) : (s.setReg8 r v).reg8 r = v % 256 := by
  have e : ((r : Int) % 8).toNat = r := by omega
  unfold St.setReg8 St.reg8
  rw [e]
  by_cases h4 : r < 4
  · have := hs.R r
    rw [if_pos h4, if_pos h4, setR_same]
    omega
  · have := hs.R (r - 4)
    rw [if_neg h4, if_neg h4, setR_same]
    omega

theorem setReg8_pc (s : St) (i v : Int) : (s.setReg8 i v).pc = s.pc := by
  unfold St.setReg8
  split <;> rfl

theorem ob_wr (M : Mem) (s : St) (r : Nat) (v : Int) : opS s ⟨1, r, 0, 0, 0, 0⟩ 1 v = s.setReg8 r v ∧ opWF M s ⟨1, r, 0, 0, 0, 0⟩ 1 = Flt.zero ∧ opWK M s ⟨1, r, 0, 0, 0, 0⟩ 1 = true ∧ opM M s ⟨1, r, 0, 0, 0, 0⟩ 1 v = M :=
  ⟨rfl, rfl, rfl, rfl⟩

theorem ob_rr (M : Mem) (s : St) (r : Nat) (v : Int) (hr : r < 8) (hs : s.Ok) : opV M (s.setReg8 r v) ⟨1, r, 0, 0, 0, 0⟩ 1 = v % 256 ∧ opF M (s.setReg8 r v) ⟨1, r, 0, 0, 0, 0⟩ 1 = Flt.zero ∧ opK M (s.setReg8 r v) ⟨1, r, 0, 0, 0, 0⟩ 1 = true :=
  ⟨by simp only [opV, if_true]; exact ob_reg8 s r v hr hs, rfl, rfl⟩

theorem ob_ri (M : Mem) (s : St) (v : Int) : opV M s ⟨2, 0, v, 0, 0, 0⟩ 1 = v % 256 ∧ opF M s ⟨2, 0, v, 0, 0, 0⟩ 1 = Flt.zero ∧ opK M s ⟨2, 0, v, 0, 0, 0⟩ 1 = true :=
  ⟨rfl, rfl, rfl⟩

theorem ob_rn (M : Mem) (s : St) : opV M s ⟨0, 0, 0, 0, 0, 0⟩ 4 = 0 ∧ opF M s ⟨0, 0, 0, 0, 0, 0⟩ 4 = Flt.zero ∧ opK M s ⟨0, 0, 0, 0, 0, 0⟩ 4 = true :=
  ⟨rfl, rfl, rfl⟩

/-! ### What holds along the walk -/
structure ObB (w : World) (s t : St) (bs bo bt a pb : Nat) (C : Array Value) (M : Mem) (w1 : World) : Prop where
  s : w1.heap[bs]? = some (.cells s.cells 65 (0, 0))
  o : w1.heap[bo]? = some (.cells C 68 (0, 0))
  ht : w1.heap[bt]? = some (.cells t.cells 65 (0, 0))
  m : IsMem w1 a pb M
  u : Upd [] w w1
  n : w.heap.size ≤ bs ∧ bs < pb ∧ bs < a ∧ pb < bo ∧ a < bo ∧ bo < bt

theorem ObB.step {w w1 w2 : World} {s t : St} {bs bo bt a pb : Nat} {C : Array Value} {M : Mem} (h : ObB w s t bs bo bt a pb C M w1) (u : Upd [] w1 w2) : ObB w s t bs bo bt a pb C M w2 :=
  ⟨u.get h.s (by simp), u.get h.o (by simp), u.get h.ht (by simp), h.m.keep u (by simp) (by simp), h.u.also u (by simp), h.n⟩

theorem ObB.mem {w w1 w2 : World} {s t : St} {bs bo bt a pb : Nat} {C : Array Value} {M M' : Mem} (h : ObB w s t bs bo bt a pb C M w1) (u : Upd [pb] w1 w2) (hm : IsMem w2 a pb M') : ObB w s t bs bo bt a pb C M' w2 := by
  have hn := h.n
  exact ⟨u.get h.s (by simp; omega), u.get h.o (by simp; omega), u.get h.ht (by simp; omega), hm, h.u.also u (by simp; omega), h.n⟩

theorem ObB.far {w w1 w2 : World} {s t : St} {bs bo bt a pb g : Nat} {C : Array Value} {M : Mem} (h : ObB w s t bs bo bt a pb C M w1) (u : Upd [g] w1 w2) (hg : bt < g) : ObB w s t bs bo bt a pb C M w2 := by
  have hn := h.n
  exact ⟨u.get h.s (by simp; omega), u.get h.o (by simp; omega), u.get h.ht (by simp; omega), h.m.keep u (by simp; omega) (by simp; omega), h.u.also u (by simp; omega), h.n⟩

theorem ObB.sett {w w1 w2 : World} {s t t' : St} {bs bo bt a pb : Nat} {C : Array Value} {M : Mem} (h : ObB w s t bs bo bt a pb C M w1) (u : Upd [bt] w1 w2) (ht : w2.heap[bt]? = some (.cells t'.cells 65 (0, 0))) : ObB w s t' bs bo bt a pb C M w2 := by
  have hn := h.n
  exact ⟨u.get h.s (by simp; omega), u.get h.o (by simp; omega), ht, h.m.keep u (by simp; omega) (by simp; omega), h.u.also u (by simp; omega), h.n⟩

theorem ObB.lt {w w1 : World} {s t : St} {bs bo bt a pb : Nat} {C : Array Value} {M : Mem} (h : ObB w s t bs bo bt a pb C M w1) : bt < w1.heap.size := lt_of_heap h.ht

def obC (x : Nat) : Array Value := #[.int .i64 3, .int .i64 0, .int .u32 x, .int .i64 (-1), .int .i64 (-1), .int .u32 1]

theorem ObB.start {w w5 w6 : World} {s t : St} {bs bo a pb : Nat} {C : Array Value} {M : Mem} (hb : PlB w s bs a pb M w5) (ho : w5.heap[bo]? = some (.cells C 68 (0, 0))) (hn : pb < bo ∧ a < bo)
    (h : w6.heap[w5.heap.size]? = some (.cells t.cells 65 (0, 0)) ∧ w6.heap[w5.heap.size + 1]? = some (.cells #[.int .i64 0, .int .u32 0, .int .u32 0, .int .i64 0] 32 (0, 0)) ∧ Upd [] w5 w6) (u0 u1 u2 u3 : Value) :
    ObB w s t bs bo w5.heap.size a pb C M ((((w6.setCell ⟨w5.heap.size + 1, 0, none⟩ u0).setCell ⟨w5.heap.size + 1, 0 + 1, none⟩ u1).setCell ⟨w5.heap.size + 1, 0 + 2, none⟩ u2).setCell ⟨w5.heap.size + 1, 0 + 3, none⟩ u3) := by
  have hl := hb.lt
  have hol := lt_of_heap ho
  have hn0 := hb.n
  have h1 := (hb.step h.2.2).far (k12_f (g := w5.heap.size + 1) u0 u1 u2 u3) (by omega)
  exact ⟨h1.s, (k12_f u0 u1 u2 u3).get (h.2.2.get ho (by simp)) (by simp; omega), (k12_f u0 u1 u2 u3).get h.1 (by simp), h1.m, h1.u, by omega⟩

/-- Along a region that lays a state (operation i, stored by k) and a fault (operation j). -/
structure Ob10 (w : World) (s t : St) (bs bo bt a pb : Nat) (C : Array Value) (M : Mem) (u : St) (i j k : Nat) (d : Nat → Bool) (r : Nat → Value) (w1 : World) : Prop where
  b : ObB w s t bs bo bt a pb C M w1
  x : d i = true → ∃ g Z, r i = .pointer (some ⟨g, 0, none⟩) ∧ bt < g ∧ w1.heap[g]? = some (.cells Z 65 (0, 0)) ∧ Z.size = 17 ∧ (d k = true → Z = u.cells)
  f : d j = true → ∃ g, r j = .pointer (some ⟨g, 0, none⟩) ∧ bt < g ∧ w1.heap[g]? = some (.cells #[.int .i64 0, .int .u32 0, .int .u32 0, .int .i64 0] 32 (0, 0))
  o : d k = true → d i = true
  ne : i ≠ j ∧ i ≠ k ∧ j ≠ k

theorem updD_ne {d : Nat → Bool} {m i : Nat} (h : i ≠ m) : updD d m i = d i := by simp [updD, h]
theorem updD_eq {d : Nat → Bool} {m : Nat} : updD d m m = true := by simp [updD]
theorem updV_ne {r : Nat → Value} {m i : Nat} {v : Value} (h : i ≠ m) : updV r m v i = r i := by simp [updV, h]
theorem updV_eq {r : Nat → Value} {m : Nat} {v : Value} : updV r m v m = v := by simp [updV]

section
variable {w w1 w2 : World} {s t : St} {bs bo bt a pb : Nat} {C : Array Value} {M M' : Mem} {u : St} {i j k : Nat} {d : Nat → Bool} {r : Nat → Value}

theorem Ob10.start (h : ObB w s t bs bo bt a pb C M w1) (ne : i ≠ j ∧ i ≠ k ∧ j ≠ k) (r : Nat → Value) : Ob10 w s t bs bo bt a pb C M u i j k (fun _ => false) r w1 :=
  ⟨h, fun h => (by cases h), fun h => (by cases h), fun h => (by cases h), ne⟩

theorem Ob10.over (h : Ob10 w s t bs bo bt a pb C M u i j k d r w1) {S : List Nat} (hu : Upd S w1 w2) (hS : ∀ x, x ∈ S → x ≤ bt) (hb : ObB w s t bs bo bt a pb C M' w2) (m : Nat) (h1 : i ≠ m) (h2 : j ≠ m) (h3 : k ≠ m) : Ob10 w s t bs bo bt a pb C M' u i j k (updD d m) r w2 := by
  refine ⟨hb, fun hx => ?_, fun hf => ?_, fun ho => ?_, h.ne⟩
  · rw [updD_ne h1] at hx
    obtain ⟨g, Z, e1, e2, e3, e4, e5⟩ := h.x hx
    exact ⟨g, Z, e1, e2, hu.get e3 (fun hh => by have := hS _ hh; omega), e4, fun hk => e5 (by rwa [updD_ne h3] at hk)⟩
  · rw [updD_ne h2] at hf
    obtain ⟨g, e1, e2, e3⟩ := h.f hf
    exact ⟨g, e1, e2, hu.get e3 (fun hh => by have := hS _ hh; omega)⟩
  · rw [updD_ne h3] at ho; rw [updD_ne h1]; exact h.o ho

theorem Ob10.quiet (h : Ob10 w s t bs bo bt a pb C M u i j k d r w1) (hu : Upd [] w1 w2) (m : Nat) (h1 : i ≠ m) (h2 : j ≠ m) (h3 : k ≠ m) : Ob10 w s t bs bo bt a pb C M u i j k (updD d m) r w2 :=
  h.over hu (by simp) (h.b.step hu) m h1 h2 h3

theorem Ob10.same (h : Ob10 w s t bs bo bt a pb C M u i j k d r w1) (m : Nat) (h1 : i ≠ m) (h2 : j ≠ m) (h3 : k ≠ m) : Ob10 w s t bs bo bt a pb C M u i j k (updD d m) r w1 := h.quiet (Upd.refl [] w1) m h1 h2 h3

theorem Ob10.allocS (h : Ob10 w s t bs bo bt a pb C M u i j k d r w1) (hd : d i = false) (Z : Array Value) (hZ : Z.size = 17) : Ob10 w s t bs bo bt a pb C M u i j k (updD d i) (updV r i (.pointer (some ⟨w1.heap.size, 0, none⟩))) (w1.alloc (.cells Z 65)) := by
  obtain ⟨n1, n2, n3⟩ := h.ne
  refine ⟨h.b.step ((Upd.refl [] w1).alloc _), fun _ => ⟨_, _, updV_eq, h.b.lt, heap_alloc_new _ _, hZ, fun hk => ?_⟩, fun hf => ?_, fun _ => updD_eq, h.ne⟩
  · rw [updD_ne n2.symm] at hk
    rw [h.o hk] at hd; cases hd
  · rw [updD_ne n1.symm] at hf
    obtain ⟨g, e1, e2, e3⟩ := h.f hf
    exact ⟨g, by rw [updV_ne n1.symm]; exact e1, e2, heap_alloc_keep _ e3⟩

theorem Ob10.allocF (h : Ob10 w s t bs bo bt a pb C M u i j k d r w1) : Ob10 w s t bs bo bt a pb C M u i j k (updD d j) (updV r j (.pointer (some ⟨w1.heap.size, 0, none⟩))) (w1.alloc (.cells #[.int .i64 0, .int .u32 0, .int .u32 0, .int .i64 0] 32)) := by
  obtain ⟨n1, n2, n3⟩ := h.ne
  refine ⟨h.b.step ((Upd.refl [] w1).alloc _), fun hx => ?_, fun _ => ⟨_, updV_eq, h.b.lt, heap_alloc_new _ _⟩, fun hk => ?_, h.ne⟩
  · rw [updD_ne n1] at hx
    obtain ⟨g, Z, e1, e2, e3, e4, e5⟩ := h.x hx
    exact ⟨g, Z, by rw [updV_ne n1]; exact e1, e2, heap_alloc_keep _ e3, e4, fun hk => e5 (by rwa [updD_ne n3.symm] at hk)⟩
  · rw [updD_ne n3.symm] at hk; rw [updD_ne n1]; exact h.o hk

theorem Ob10.storeS (h : Ob10 w s t bs bo bt a pb C M u i j k d r w1) {g : Nat} {Z : Array Value} (hg : r i = .pointer (some ⟨g, 0, none⟩)) (hlt : bt < g) (hb : w1.heap[g]? = some (.cells Z 65 (0, 0))) (hZ : Z.size = 17) (hd : d i = true) :
    Ob10 w s t bs bo bt a pb C M u i j k (updD d k) r (w1.setCells g 0 u.cells.toList) := by
  obtain ⟨n1, n2, n3⟩ := h.ne
  have hu : Upd [g] w1 (w1.setCells g 0 u.cells.toList) := (Upd.refl [g] w1).setCells (.inl (by simp)) _ _
  refine ⟨h.b.far hu hlt, fun _ => ⟨g, u.cells, hg, hlt, heap_store_state u hb hZ, St.size u, fun _ => rfl⟩, fun hf => ?_, fun _ => by rw [updD_ne n2]; exact hd, h.ne⟩
  rw [updD_ne n3] at hf
  obtain ⟨g', e1, e2, e3⟩ := h.f hf
  have hne : g' ≠ g := by
    intro e
    subst e
    rw [hb] at e3
    injection e3 with e3
    injection e3 with _ e4
    exact absurd e4 (by decide)
  exact ⟨g', e1, e2, hu.get e3 (by simpa using hne)⟩

theorem Ob10.storeF (h : Ob10 w s t bs bo bt a pb C M u i j k d r w1) {g : Nat} (hg : r j = .pointer (some ⟨g, 0, none⟩)) (hlt : bt < g) (hb : w1.heap[g]? = some (.cells #[.int .i64 0, .int .u32 0, .int .u32 0, .int .i64 0] 32 (0, 0))) (m : Nat) (h1 : i ≠ m) (h2 : j ≠ m) (h3 : k ≠ m) :
    Ob10 w s t bs bo bt a pb C M u i j k (updD d m) r (w1.setCells g 0 (#[.int .i64 0, .int .u32 0, .int .u32 0, .int .i64 0] : Array Value).toList) := by
  have hu : Upd [g] w1 (w1.setCells g 0 (#[.int .i64 0, .int .u32 0, .int .u32 0, .int .i64 0] : Array Value).toList) := (Upd.refl [g] w1).setCells (.inl (by simp)) _ _
  refine ⟨h.b.far hu hlt, fun hx => ?_, fun hf => ⟨g, hg, hlt, by rw [heap_setCells_same _ _ _ _ hb]; rfl⟩, fun ho => ?_, h.ne⟩
  · rw [updD_ne h1] at hx
    obtain ⟨g', Z, e1, e2, e3, e4, e5⟩ := h.x hx
    have hne : g' ≠ g := by
      intro e
      subst e
      rw [hb] at e3
      injection e3 with e3
      injection e3 with _ e4
      exact absurd e4 (by decide)
    exact ⟨g', Z, e1, e2, hu.get e3 (by simpa using hne), e4, fun hk => e5 (by rwa [updD_ne h3] at hk)⟩
  · rw [updD_ne h3] at ho; rw [updD_ne h1]; exact h.o ho

theorem wp_store_flt0 {op : Oper} {a : Act} {w : World} {K : Act → World → Prop} {Q : Exit → Act → World → Prop} (g : Nat) (x y : Operand) (ho : op.op = .store 32 x y) (hx : a.eval x = .pointer (some ⟨g, 0, none⟩)) (hy : a.eval y = .agg #[.int .i64 0, .int .u32 0, .int .u32 0, .int .i64 0])
    (hb : w.heap[g]? = some (.cells #[.int .i64 0, .int .u32 0, .int .u32 0, .int .i64 0] 32 (0, 0))) (hK : K (a.put op.dst undef) (w.setCells g 0 (#[.int .i64 0, .int .u32 0, .int .u32 0, .int .i64 0] : Array Value).toList)) : op.wp Try.prog a w K Q :=
  wp_store_mid 32 x y ho g 0 #[.int .i64 0, .int .u32 0, .int .u32 0, .int .i64 0] hx hy (there_of hb 0 4 (by decide)) fault_info (by simp [Value.oneCell']) hK
end

end Go.Proofs.Ytncafchgdgmeaaa
