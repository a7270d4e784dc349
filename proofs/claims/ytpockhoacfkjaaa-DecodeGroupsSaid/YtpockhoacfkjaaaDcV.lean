/-
  The law DecodeGroups: the plain part.
-/
import Derived.Test.YtpockhoacfkjaaaDcT
import Derived.Test.YtpockhoacfkjaaaDcU
import Derived.Test.YtpockhoacfkjaaaDraw3
namespace Go.Proofs.Ytpockhoacfkjaaa
open Go Go.RowKit
set_option linter.unusedVariables false
set_option linter.unusedSimpArgs false

theorem byte0 (c : Int) (L : List Int) : dcByte (c :: L) 0 = .ok c 1 := by simp [dcByte]
theorem byte1 (c m : Int) (L : List Int) : dcByte (c :: m :: L) 1 = .ok m 2 := by simp [dcByte]
theorem byte2 (c m e : Int) (L : List Int) : dcByte (c :: m :: e :: L) 2 = .ok e 3 := by simp [dcByte]
theorem mrm3 (y x : Int) (hy : 0 ≤ y ∧ y < 8) (hx : 0 ≤ x ∧ x < 8) : mrmOf (192 + 8 * y + x) = ⟨3, y, x⟩ := by
  unfold mrmOf
  rw [show (192 + 8 * y + x) / 64 = 3 by omega, show (192 + 8 * y + x) / 8 % 8 = y by omega, show (192 + 8 * y + x) % 8 = x by omega]
theorem place3 (L : List Int) (y x : Int) (k : Nat) : dcPlace L ⟨3, y, x⟩ k = .ok (regO x) k := by simp [dcPlace]

theorem rest_row (L : List Int) (k n : Int) (hk : 0 ≤ k ∧ k < 8) (hn : n = 1 ∨ n = 3 ∨ n = 5) (p : Nat) : dcRest L (8 * k + n) p = dcRow L (8 * k + n) p := by
  unfold dcRest
  rw [if_neg (by omega), if_pos (by omega)]

theorem gr1 (k y x : Int) (hk : 0 ≤ k ∧ k < 8) (hy : 0 ≤ y ∧ y < 8) (hx : 0 ≤ x ∧ x < 8) : dcInsn [8 * k + 1, 192 + 8 * y + x] 0 = .ok ⟨k + 3, 0, regO x, regO y, false, 0⟩ 2 := by
  rw [dcInsn, byte0, DR.bind_ok, rest_row _ _ _ hk (by omega), dcRow, if_pos (by omega), dcTwo, dcMrm, byte1, DR.bind_ok, DR.bind_ok, mrm3 y x hy hx, place3, DR.bind_ok]
  simp [eightI]; omega
theorem gr3 (k y x : Int) (hk : 0 ≤ k ∧ k < 8) (hy : 0 ≤ y ∧ y < 8) (hx : 0 ≤ x ∧ x < 8) : dcInsn [8 * k + 3, 192 + 8 * y + x] 0 = .ok ⟨k + 3, 0, regO y, regO x, false, 0⟩ 2 := by
  rw [dcInsn, byte0, DR.bind_ok, rest_row _ _ _ hk (by omega), dcRow, if_neg (by omega), if_pos (by omega), dcTwo, dcMrm, byte1, DR.bind_ok, DR.bind_ok, mrm3 y x hy hx, place3, DR.bind_ok]
  simp [eightI]; omega

def by0 (v : Int) : Int := v % 256
def by1 (v : Int) : Int := v / 256 % 256
def by2 (v : Int) : Int := v / 65536 % 256
def by3 (v : Int) : Int := v / 16777216 % 256

theorem word1 (c v : Int) (L : List Int) (hv : 0 ≤ v ∧ v < 4294967296) : dcWord (c :: by0 v :: by1 v :: by2 v :: by3 v :: L) 1 = .ok v 5 := by
  unfold dcWord
  rw [if_pos (by simp)]
  simp [wordAt, by0, by1, by2, by3]; omega

theorem gr5 (k v : Int) (hk : 0 ≤ k ∧ k < 8) (hv : 0 ≤ v ∧ v < 4294967296) : dcInsn [8 * k + 5, by0 v, by1 v, by2 v, by3 v] 0 = .ok ⟨k + 3, 0, regO 0, immO v, false, 0⟩ 5 := by
  rw [dcInsn, byte0, DR.bind_ok, rest_row _ _ _ hk (by omega), dcRow, if_neg (by omega), if_neg (by omega), if_pos (by omega), dcImm32, word1 _ _ _ hv, DR.bind_ok, DR.bind_ok]
  simp [eightI]; omega

theorem gr131 (k x e : Int) (hk : 0 ≤ k ∧ k < 8) (hx : 0 ≤ x ∧ x < 8) : dcInsn [131, 192 + 8 * k + x, e] 0 = .ok ⟨k + 3, 0, regO x, immO (sx8 e), false, 0⟩ 3 := by
  rw [dcInsn, byte0, DR.bind_ok, dcRest, if_neg (by decide), if_neg (by decide), if_neg (by decide), if_neg (by decide), if_neg (by decide), if_neg (by decide), if_neg (by decide), if_neg (by decide), if_neg (by decide),
    dcMoves, if_neg (by decide), if_neg (by decide), if_neg (by decide), if_pos rfl, dcMrm, byte1, DR.bind_ok, DR.bind_ok, mrm3 k x hk hx, place3, DR.bind_ok, dcImm8, byte2, DR.bind_ok, DR.bind_ok]
  rfl

/-- All three answers of one decoding. -/
theorem dec_of {L : List Int} {i : Ins} {k : Nat} (h : dcInsn L 0 = .ok i k) : decI L = { i with len := k } ∧ decN L = k ∧ decE L = 0 := by
  simp only [decI, decN, decE, h]; exact ⟨trivial, trivial, trivial⟩
theorem dec_err {L : List Int} {c : Int} (h : dcInsn L 0 = .err c) : decI L = Ins.zero ∧ decN L = 0 ∧ decE L = c := by
  simp only [decI, decN, decE, h]; exact ⟨trivial, trivial, trivial⟩

/-- New bytes, two, three, five of them. -/
theorem barg2 (w : World) (T : TypeId) (a b : Int) (ha : 0 ≤ a ∧ a ≤ 255) (hb : 0 ≤ b ∧ b ≤ 255) : BArg (w.alloc (.cells #[.int .u8 a, .int .u8 b] T)) (.slice (some ⟨w.heap.size, 0, none⟩) 2 2) [a, b] w.heap.size :=
  barg_new w [a, b] _ T (by intro i hi; have h : i = 0 ∨ i = 1 := (by simp at hi; omega); rcases h with rfl | rfl <;> rfl) (by simp; omega) (by simp [maxLen])
theorem barg3 (w : World) (T : TypeId) (a b c : Int) (ha : 0 ≤ a ∧ a ≤ 255) (hb : 0 ≤ b ∧ b ≤ 255) (hc : 0 ≤ c ∧ c ≤ 255) : BArg (w.alloc (.cells #[.int .u8 a, .int .u8 b, .int .u8 c] T)) (.slice (some ⟨w.heap.size, 0, none⟩) 3 3) [a, b, c] w.heap.size :=
  barg_new w [a, b, c] _ T (by intro i hi; have h : i = 0 ∨ i = 1 ∨ i = 2 := (by simp at hi; omega); rcases h with rfl | rfl | rfl <;> rfl) (by simp; omega) (by simp [maxLen])
theorem barg5 (w : World) (T : TypeId) (a b c d e : Int) (ha : 0 ≤ a ∧ a ≤ 255) (hb : 0 ≤ b ∧ b ≤ 255) (hc : 0 ≤ c ∧ c ≤ 255) (hd : 0 ≤ d ∧ d ≤ 255) (he : 0 ≤ e ∧ e ≤ 255) :
    BArg (w.alloc (.cells #[.int .u8 a, .int .u8 b, .int .u8 c, .int .u8 d, .int .u8 e] T)) (.slice (some ⟨w.heap.size, 0, none⟩) 5 5) [a, b, c, d, e] w.heap.size :=
  barg_new w [a, b, c, d, e] _ T (by intro i hi; have h : i = 0 ∨ i = 1 ∨ i = 2 ∨ i = 3 ∨ i = 4 := (by simp at hi; omega); rcases h with rfl | rfl | rfl | rfl | rfl <;> rfl) (by simp; omega) (by simp [maxLen])

/-! ### What holds along a walk: a block that stays, instructions that were laid -/
structure Gr (w : World) (bt : Nat) (o : Obj) (l : List (Nat × Ins)) (w1 : World) : Prop where
  t : w1.heap[bt]? = some o
  i : ∀ p, p ∈ l → w1.heap[p.1]? = some (.cells p.2.cells 28 (0, 0))
  u : Upd [] w w1
  n : w.heap.size ≤ bt

theorem Gr.step {w w1 w2 : World} {bt : Nat} {o : Obj} {l : List (Nat × Ins)} (h : Gr w bt o l w1) (u : Upd [] w1 w2) : Gr w bt o l w2 :=
  ⟨u.get h.t (by simp), fun p hp => u.get (h.i p hp) (by simp), h.u.also u (by simp), h.n⟩

theorem Gr.lay {w w1 w2 : World} {bt : Nat} {o : Obj} {l : List (Nat × Ins)} (h : Gr w bt o l w1) (j : Ins) (hw : (w1.alloc (.cells Ins.zero.cells 28)).setCells w1.heap.size 0 j.cells.toList = w2) : Gr w bt o ((w1.heap.size, j) :: l) w2 := by
  obtain ⟨z1, z2⟩ := ins_new (S := []) (w0 := w1) hw (heap_alloc_new w1 (.cells Ins.zero.cells 28)) rfl ((Upd.refl [] w1).alloc _) (.inr (Nat.le_refl _))
  have h2 := h.step z2
  refine ⟨h2.t, fun p hp => ?_, h2.u, h.n⟩
  rcases List.mem_cons.1 hp with rfl | hp
  · exact z1
  · exact h2.i p hp

theorem Gr.lt {w w1 : World} {bt : Nat} {o : Obj} {l : List (Nat × Ins)} (h : Gr w bt o l w1) : bt < w1.heap.size := lt_of_heap h.t

/-- Along a drawn region that lays an instruction (operation i) and stores into it (operation k). -/
structure GrD (w : World) (bt : Nat) (o : Obj) (l : List (Nat × Ins)) (I : Ins) (i k : Nat) (d : Nat → Bool) (r : Nat → Value) (w1 : World) : Prop where
  b : Gr w bt o l w1
  x : d i = true → ∃ g Z, r i = .pointer (some ⟨g, 0, none⟩) ∧ w1.heap[g]? = some (.cells Z 28 (0, 0)) ∧ Z.size = 16 ∧ (d k = true → Z = I.cells) ∧ g ≠ bt ∧ w.heap.size ≤ g ∧ ∀ p, p ∈ l → p.1 ≠ g
  o : d k = true → d i = true
  ne : i ≠ k

section
variable {w w1 w2 : World} {bt : Nat} {o : Obj} {l : List (Nat × Ins)} {I : Ins} {i k : Nat} {d : Nat → Bool} {r : Nat → Value}

theorem GrD.start (h : Gr w bt o l w1) (ne : i ≠ k) (r : Nat → Value) : GrD w bt o l I i k (fun _ => false) r w1 :=
  ⟨h, fun h => (by cases h), fun h => (by cases h), ne⟩

theorem GrD.quiet (h : GrD w bt o l I i k d r w1) (hu : Upd [] w1 w2) (m : Nat) (h1 : i ≠ m) (h2 : k ≠ m) : GrD w bt o l I i k (updD d m) r w2 := by
  refine ⟨h.b.step hu, fun hx => ?_, fun ho => ?_, h.ne⟩
  · rw [bD_ne h1] at hx
    obtain ⟨g, Z, e1, e2, e3, e4, e5⟩ := h.x hx
    exact ⟨g, Z, e1, hu.get e2 (by simp), e3, fun hk => e4 (by rwa [bD_ne h2] at hk), e5⟩
  · rw [bD_ne h2] at ho; rw [bD_ne h1]; exact h.o ho

theorem GrD.same (h : GrD w bt o l I i k d r w1) (m : Nat) (h1 : i ≠ m) (h2 : k ≠ m) : GrD w bt o l I i k (updD d m) r w1 := h.quiet (Upd.refl [] w1) m h1 h2

theorem GrD.lay (h : GrD w bt o l I i k d r w1) (hd : d i = false) : GrD w bt o l I i k (updD d i) (updV r i (.pointer (some ⟨w1.heap.size, 0, none⟩))) (w1.alloc (.cells Ins.zero.cells 28)) := by
  refine ⟨h.b.step ((Upd.refl [] w1).alloc _), fun _ => ⟨_, _, bV_eq, heap_alloc_new _ _, rfl, fun hk => ?_, ?_, h.b.u.size, fun p hp e => ?_⟩, fun _ => bD_eq, h.ne⟩
  · rw [bD_ne h.ne.symm] at hk
    rw [h.o hk] at hd; cases hd
  · have := h.b.lt; omega
  · have := lt_of_heap (h.b.i p hp); omega

theorem GrD.store (h : GrD w bt o l I i k d r w1) (hd : d i = true) {g : Nat} {Z : Array Value} (hg : r i = .pointer (some ⟨g, 0, none⟩)) (hb : w1.heap[g]? = some (.cells Z 28 (0, 0))) (hZ : Z.size = 16) (hn : g ≠ bt ∧ w.heap.size ≤ g ∧ ∀ p, p ∈ l → p.1 ≠ g) :
    GrD w bt o l I i k (updD d k) r (w1.setCells g 0 I.cells.toList) := by
  have hu : Upd [g] w1 (w1.setCells g 0 I.cells.toList) := (Upd.refl [g] w1).setCells (.inl (by simp)) _ _
  refine ⟨⟨hu.get h.b.t (by simp; exact fun e => hn.1 e.symm), fun p hp => hu.get (h.b.i p hp) (by simp; exact hn.2.2 p hp), h.b.u.also hu (by simp; exact hn.2.1), h.b.n⟩, fun _ => ⟨g, I.cells, hg, ?_, I.size, fun _ => rfl, hn⟩, fun _ => by rw [bD_ne h.ne]; exact hd, h.ne⟩
  rw [heap_setCells_same _ _ _ _ hb, wr_ins Z I hZ]

theorem GrD.fin (h : GrD w bt o l I i k d r w1) (hi : d i = true) (hk : d k = true) : ∃ g, r i = .pointer (some ⟨g, 0, none⟩) ∧ Gr w bt o ((g, I) :: l) w1 := by
  obtain ⟨g, Z, e1, e2, e3, e4, e5⟩ := h.x hi
  rw [e4 hk] at e2
  refine ⟨g, e1, h.b.t, fun p hp => ?_, h.b.u, h.b.n⟩
  rcases List.mem_cons.1 hp with rfl | hp
  · exact e2
  · exact h.b.i p hp
end
end Go.Proofs.Ytpockhoacfkjaaa
