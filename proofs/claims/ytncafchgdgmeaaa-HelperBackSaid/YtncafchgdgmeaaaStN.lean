/-
  The law OperandPlaces: the plain part, and the walk.
-/
import Derived.Test.YtncafchgdgmeaaaStK
import Derived.Test.YtncafchgdgmeaaaPgN
namespace Go.Proofs.Ytncafchgdgmeaaa
open Go Go.RowKit
set_option linter.unusedVariables false
set_option linter.unusedSimpArgs false

theorem op_regS (s : St) (b : Nat) (hb : b < 8) (v : Int) : opS s ⟨1, b, 0, 0, 0, 0⟩ 4 v = s.setR b v := by
  simp only [opS, if_true]
  rw [if_neg (by decide), show ((b : Int) % 8).toNat = b from by omega]

theorem op_regV (M : Mem) (s : St) (b : Nat) (hb : b < 8) : opV M s ⟨1, b, 0, 0, 0, 0⟩ 4 = s.R b := by
  simp only [opV, if_true]
  rw [if_neg (by decide), show ((b : Int) % 8).toNat = b from by omega]

theorem setR_same (s : St) (b : Nat) (v : Int) : (s.setR b v).R b = v := by simp [St.setR]

theorem op_place (s : St) (b x : Nat) (k imm : Int) (hb : b < 8) (hx : x < 8) : s.place ⟨3, 0, imm, b, x, k⟩ = (s.R b + s.R x * k + imm) % 4294967296 := by
  simp only [St.place, if_true, St.reg]
  rw [if_neg (by omega), if_neg (by omega), show ((b : Int) % 8).toNat = b from by omega, show ((x : Int) % 8).toNat = x from by omega]

theorem op_place0 (s : St) (imm : Int) (h0 : 0 ≤ imm) (h1 : imm < 4294967296) : s.place ⟨3, 0, imm, -1, -1, 1⟩ = imm := by
  simp only [St.place, if_true, St.reg]
  omega

theorem op_place2 (s : St) (imm : Int) : s.place ⟨2, 0, imm, 0, 0, 0⟩ = 0 := by
  simp [St.place]

structure PlB (w : World) (s : St) (bs a pb : Nat) (M : Mem) (w1 : World) : Prop where
  s : w1.heap[bs]? = some (.cells s.cells 65 (0, 0))
  m : IsMem w1 a pb M
  u : Upd [] w w1
  n : w.heap.size ≤ bs ∧ bs < pb ∧ bs < a

theorem PlB.step {w w1 w2 : World} {s : St} {bs a pb : Nat} {M : Mem} (h : PlB w s bs a pb M w1) (u : Upd [] w1 w2) : PlB w s bs a pb M w2 :=
  ⟨u.get h.s (by simp), h.m.keep u (by simp) (by simp), h.u.also u (by simp), h.n⟩

theorem PlB.mem {w w1 w2 : World} {s : St} {bs a pb : Nat} {M M' : Mem} (h : PlB w s bs a pb M w1) (u : Upd [pb] w1 w2) (hm : IsMem w2 a pb M') : PlB w s bs a pb M' w2 :=
  ⟨u.get h.s (by have := h.n; simp; omega), hm, h.u.also u (by have := h.n; simp; omega), h.n⟩

theorem PlB.far {w w1 w2 : World} {s : St} {bs a pb g : Nat} {M : Mem} (h : PlB w s bs a pb M w1) (u : Upd [g] w1 w2) (hg : a < g ∧ pb < g) : PlB w s bs a pb M w2 :=
  ⟨u.get h.s (by have := h.n; simp; omega), h.m.keep u (by simp; omega) (by simp; omega), h.u.also u (by have := h.n; simp; omega), h.n⟩

theorem PlB.lt {w w1 : World} {s : St} {bs a pb : Nat} {M : Mem} (h : PlB w s bs a pb M w1) : bs < w1.heap.size ∧ a < w1.heap.size ∧ pb < w1.heap.size := ⟨lt_of_heap h.s, h.m.al, h.m.pl⟩

theorem z_fst (w : World) (F : Array Value) : ((w.alloc (.cells F 32)).alloc (.cells St.zero.cells 65)).heap[w.heap.size + 1]? = some (.cells St.zero.cells 65 (0, 0)) := heap_alloc2_new _ _ _

theorem st3_new {w3 w4 : World} {Z : St} {F : Array Value} (hw4 : ((w3.alloc (.cells F 32)).alloc (.cells St.zero.cells 65)).setCells (w3.heap.size + 1) 0 Z.cells.toList = w4) :
    w4.heap[w3.heap.size + 1]? = some (.cells Z.cells 65 (0, 0)) ∧ Upd [] w3 w4 :=
  new_state hw4 (z_fst w3 F) rfl (((Upd.refl [] w3).alloc _).alloc _) (by omega)

/-- A state and a fault, both new, the state laid whole. -/
theorem st2_new {w3 w4 : World} {Z : St} {F : Array Value} (hw4 : ((w3.alloc (.cells St.zero.cells 65)).alloc (.cells F 32)).setCells w3.heap.size 0 Z.cells.toList = w4) :
    w4.heap[w3.heap.size]? = some (.cells Z.cells 65 (0, 0)) ∧ w4.heap[w3.heap.size + 1]? = some (.cells F 32 (0, 0)) ∧ Upd [] w3 w4 := by
  have h4 := new_state hw4 (z_two w3 _) rfl (((Upd.refl [] w3).alloc _).alloc _) (Nat.le_refl _)
  exact ⟨h4.1, by rw [← hw4, heap_setCells_other (by omega)]; exact heap_alloc2_new _ _ _, h4.2⟩

theorem st1_new {w3 w4 : World} {Z : St} (hw4 : (w3.alloc (.cells St.zero.cells 65)).setCells w3.heap.size 0 Z.cells.toList = w4) :
    w4.heap[w3.heap.size]? = some (.cells Z.cells 65 (0, 0)) ∧ Upd [] w3 w4 := by
  exact new_state hw4 (z_one w3) rfl ((Upd.refl [] w3).alloc _) (Nat.le_refl _)

def opCells (o : Opd) : Array Value := #[.int .i64 o.k, .int .i64 o.r, .int .u32 o.imm, .int .i64 o.b, .int .i64 o.x, .int .u32 o.sc]

structure PlO (bo : Nat) (o p : Opd) (w1 : World) : Prop where
  o : w1.heap[bo]? = some (.cells (opCells o) 68 (0, 0))
  p : w1.heap[bo + 1]? = some (.cells (opCells p) 68 (0, 0))

theorem PlO.step {bo : Nat} {o p : Opd} {w1 w2 : World} {S : List Nat} (h : PlO bo o p w1) (u : Upd S w1 w2) (hS : ∀ x, x ∈ S → x < bo ∨ bo + 1 < x) : PlO bo o p w2 :=
  ⟨u.get h.o (fun hh => by have := hS _ hh; omega), u.get h.p (fun hh => by have := hS _ hh; omega)⟩

theorem PlO.start (w : World) (o p : Opd) : PlO w.heap.size o p ((w.alloc (.cells (opCells o) 68)).alloc (.cells (opCells p) 68)) :=
  ⟨heap_alloc_keep _ (heap_alloc_new _ _), heap_alloc2_new _ _ _⟩

structure PlT (w : World) (s t : St) (bs bo bt a pb : Nat) (o p : Opd) (w1 : World) : Prop where
  b : PlB w s bs a pb Mem.zero w1
  ht : w1.heap[bt]? = some (.cells t.cells 65 (0, 0))
  o : PlO bo o p w1

theorem PlT.step {w w1 w2 : World} {s t : St} {bs bo bt a pb : Nat} {o p : Opd} (h : PlT w s t bs bo bt a pb o p w1) (u : Upd [] w1 w2) : PlT w s t bs bo bt a pb o p w2 :=
  ⟨h.b.step u, u.get h.ht (by simp), h.o.step u (by simp)⟩

theorem PlT.start {w w3 w4 : World} {s t : St} {bs bo a pb : Nat} {o p : Opd} (hb : PlB w s bs a pb Mem.zero w3) (ho : PlO bo o p w3) (hlt : bo + 1 < w3.heap.size)
    (h : w4.heap[w3.heap.size]? = some (.cells t.cells 65 (0, 0)) ∧ w4.heap[w3.heap.size + 1]? = some (.cells #[.int .i64 0, .int .u32 0, .int .u32 0, .int .i64 0] 32 (0, 0)) ∧ Upd [] w3 w4) (u0 u1 u2 u3 : Value) :
    PlT w s t bs bo w3.heap.size a pb o p ((((w4.setCell ⟨w3.heap.size + 1, 0, none⟩ u0).setCell ⟨w3.heap.size + 1, 0 + 1, none⟩ u1).setCell ⟨w3.heap.size + 1, 0 + 2, none⟩ u2).setCell ⟨w3.heap.size + 1, 0 + 3, none⟩ u3) := by
  have hl := hb.lt
  exact ⟨(hb.step h.2.2).far (k12_f u0 u1 u2 u3) (by omega), (k12_f u0 u1 u2 u3).get h.1 (by simp), (ho.step h.2.2 (by simp)).step (k12_f u0 u1 u2 u3) (by simp; omega)⟩

structure PlF (w : World) (s t : St) (bs bo bt bw : Nat) (o p : Opd) (w1 : World) : Prop where
  s : w1.heap[bs]? = some (.cells s.cells 65 (0, 0))
  o : w1.heap[bo]? = some (.cells (opCells o) 68 (0, 0))
  p : w1.heap[bo + 1]? = some (.cells (opCells p) 68 (0, 0))
  ht : w1.heap[bt]? = some (.cells t.cells 65 (0, 0))
  wt : w1.heap[bw]? = some (.cells t.cells 65 (0, 0))
  u : Upd [] w w1

theorem PlF.step {w w1 w2 : World} {s t : St} {bs bo bt bw : Nat} {o p : Opd} (h : PlF w s t bs bo bt bw o p w1) (u : Upd [] w1 w2) : PlF w s t bs bo bt bw o p w2 :=
  ⟨u.get h.s (by simp), u.get h.o (by simp), u.get h.p (by simp), u.get h.ht (by simp), u.get h.wt (by simp), h.u.also u (by simp)⟩

theorem u32_mul_run (a b : Int) (w : World) : (binOp .mul 24 (.int .u32 a) (.int .u32 b)).run Try.prog w = .ok (.int .u32 (a * b % 4294967296)) w := by
  simp [go_sem, IntKind.wrap, IntKind.signed, IntKind.bits]
theorem u32_add_run (a b : Int) (w : World) : (binOp .add 24 (.int .u32 a) (.int .u32 b)).run Try.prog w = .ok (.int .u32 ((a + b) % 4294967296)) w := by
  simp [go_sem, IntKind.wrap, IntKind.signed, IntKind.bits]
theorem u32_guard (o : BinOp) (a b : Int) (w : World) {x y : Operand} : (eqGuard o 24 x y (.int .u32 a) (.int .u32 b)).run Try.prog w = .ok () w := by
  simp [eqGuard, go_sem]

set_option maxRecDepth 100000 in
set_option maxHeartbeats 8000000 in
theorem OperandPlaces_walk (s : St) (hs : s.Ok) (a1 a2 a3 a4 a5 : Int) (h1 : 0 ≤ a1) (h2 : 0 ≤ a2) (h3 : 0 ≤ a3) (h4 : 0 ≤ a4 ∧ a4 < 4294967296) (h5 : 0 ≤ a5 ∧ a5 < 4294967296) (w : World) :
    Calls Try.prog 6 #[.agg s.cells, .int .u8 a1, .int .u8 a2, .int .u8 a3, .int .u32 a4, .int .u32 a5] w fun e w' => e = .returned (.bool true) ∧ Upd [] w w' := by
  have hmo : Try.prog.follows .mixedOrders = true := by kernel_rfl
  obtain ⟨b, hb, hb1⟩ : ∃ b : Nat, a1.tmod 8 = b ∧ b < 8 := ⟨(a1.tmod 8).toNat, by rw [Int.tmod_eq_emod_of_nonneg h1]; omega, by rw [Int.tmod_eq_emod_of_nonneg h1]; omega⟩
  obtain ⟨x, hx, hx1⟩ : ∃ x : Nat, a2.tmod 8 = x ∧ x < 8 := ⟨(a2.tmod 8).toNat, by rw [Int.tmod_eq_emod_of_nonneg h2]; omega, by rw [Int.tmod_eq_emod_of_nonneg h2]; omega⟩
  obtain ⟨c, hc, hc1⟩ : ∃ c : Nat, a3.tmod 4 = c ∧ c < 4 := ⟨(a3.tmod 4).toNat, by rw [Int.tmod_eq_emod_of_nonneg h3]; omega, by rw [Int.tmod_eq_emod_of_nonneg h3]; omega⟩
  obtain ⟨sc, hsc⟩ : ∃ sc : Int, (2 : Int) ^ c % 4294967296 = sc := ⟨_, rfl⟩
  have hscr : 0 ≤ sc ∧ sc < 4294967296 := by rw [← hsc]; omega
  clear h1 h2 h3
  have HS := Lib.hid hs
  have HT := Lib.hid (St.setR_ok hs b h5.1 h5.2)
  clear hs
  have H4 := Lib.hid h4
  have H5 := Lib.hid h5
  have HSC := Lib.hid hscr
  clear h4 h5 hscr
  have HO1 := Lib.hid (show (⟨1, b, 0, 0, 0, 0⟩ : Opd).Ok from ⟨by simp, by simp⟩)
  have eF : opWF Mem.zero s ⟨1, b, 0, 0, 0, 0⟩ 4 = Flt.zero := rfl
  go_enter Try.func6, Try.ntmps6
  go_upto_region 7 with (first | (go_at_call 29; refine (known12_any _).mono ?_; rintro e w1 ⟨rfl, hu⟩; have K1 := Lib.hid (And.intro (hu.get (heap_alloc_new w (.cells s.cells 65)) (by simp)) (((Upd.refl [] w).alloc (.cells s.cells 65)).also hu (by simp))); clear hu) | (go_at_call 15; refine (New_any _).mono ?_; rintro e w2 ⟨a, pb, rfl, ha, hp, hM, hu⟩; have K2 := Lib.hid (PlB.mk (w := w) (hu.get (heap_alloc_keep _ (heap_alloc_keep _ K1.out.1)) (by simp)) hM (((K1.out.2.alloc _).alloc _).also hu (by simp)) (by have h0 := lt_of_heap K1.out.1; simp at ha hp; omega)); have KO := Lib.hid (And.intro ((PlO.start w1 ⟨3, 0, a4, b, x, sc⟩ ⟨3, 0, a4, -1, -1, 1⟩).step hu (by simp)) (show w1.heap.size + 1 < pb by simp at hp; omega)); clear hu hM ha hp K1))
  go_upto_region 8 with (first | (refine at_load 65 rfl ?_; refine wpList_load_state s w.heap.size rfl _ rfl rfl K2.out.s ?_) | (go_at_call 30; refine (opWrite_any Mem.zero a pb s ⟨1, b, 0, 0, 0, 0⟩ 4 a5 _ K2.out.m HS.out HO1.out H5.out.1 H5.out.2).mono ?_; rintro e w3 ⟨rfl, hM, hu⟩; rw [op_regS s b hb1, eF, show opWK Mem.zero s ⟨1, b, 0, 0, 0, 0⟩ 4 = true from rfl, show Flt.zero.val = .agg #[.int .i64 0, .int .u32 0, .int .u32 0, .int .i64 0] from rfl]; have K3 := Lib.hid (K2.out.mem hu hM); have KO3 := Lib.hid (KO.out.1.step hu (by have h1 := KO.out.2; simp; omega)); have KL := Lib.hid (lt_of_heap KO3.out.p); clear hM hu K2 KO) | (have _t := K3; clear _t; refine at_store 65 rfl ?_; refine wpList_store_state' (s.setR b a5) w3.heap.size rfl _ _ rfl rfl rfl (z_two w3 _) rfl ?_; intro w4 hw4; have h4 := st2_new hw4; clear hw4; have cf4 := cells_of h4.2.1; have ff4 := free_of h4.2.1; have K4 := Lib.hid (PlT.start K3.out KO3.out KL.out h4 (.int .i64 0) (.int .u32 0) (.int .u32 0) (.int .i64 0)); clear h4 K3 KO3))
  clear cf4 ff4
  go_upto_region 9 with (first | (refine at_load 65 rfl ?_; refine wpList_load_state (s.setR b a5) w3.heap.size rfl _ rfl rfl K4.out.ht ?_) | (go_at_call 31; refine (opRead_any Mem.zero a pb (s.setR b a5) ⟨1, b, 0, 0, 0, 0⟩ 4 _ K4.out.b.m HT.out HO1.out).mono ?_; rintro e w5 ⟨rfl, hu⟩; rw [op_regV _ _ b hb1, setR_same, show opF Mem.zero (s.setR b a5) ⟨1, b, 0, 0, 0, 0⟩ 4 = Flt.zero from rfl, show opK Mem.zero (s.setR b a5) ⟨1, b, 0, 0, 0, 0⟩ 4 = true from rfl, show Flt.zero.val = .agg #[.int .i64 0, .int .u32 0, .int .u32 0, .int .i64 0] from rfl]; have K5 := Lib.hid (K4.out.step hu); clear hu K4))
  have tokw : True := trivial
  go_upto_region 10 with (first | (refine at_load 65 rfl ?_; refine wpList_load_state s w.heap.size rfl _ rfl rfl (K5.out.step ((Upd.refl [] w5).alloc _)).b.s ?_) | (have _t := tokw; clear _t; refine at_store 65 rfl ?_; refine wpList_store_state' s (w5.heap.size + 1) rfl _ _ rfl rfl rfl (z_fst w5 _) rfl ?_; intro w6 hw6; have h6 := st3_new hw6; clear hw6; have cw : w6.cell? ⟨w5.heap.size + 1, b, none⟩ = some (.int .u32 (s.R b)) := (by rw [cells_of h6.1, s.cR b hb1]); clear tokw))
  have fw := free_of h6.1
  have K6 := Lib.hid (K5.out.step h6.2)
  have H6 := Lib.hid (heap_set_same h6.1 b (.int .u32 a5))
  have HL := Lib.hid (show w3.heap.size < w5.heap.size ∧ w.heap.size < w5.heap.size from ⟨lt_of_heap K5.out.ht, K5.out.b.lt.1⟩)
  clear h6 K5
  go_upto_region 11 with fail
  have HF : PlF w s (s.setR b a5) w.heap.size w1.heap.size w3.heap.size (w5.heap.size + 1) ⟨3, 0, a4, b, x, sc⟩ ⟨3, 0, a4, -1, -1, 1⟩ (w6.setCell ⟨w5.heap.size + 1, b, none⟩ (.int .u32 a5)) := by
    have hL := HL.out
    have ho := KL.out
    have h6 := H6.out
    rw [St.cells_setR s b a5 hb1] at h6
    have u := (Upd.refl [w5.heap.size + 1] w6).setCell (p := ⟨w5.heap.size + 1, b, none⟩) (by simp) (.int .u32 a5)
    exact ⟨u.get K6.out.b.s (by simp; omega), u.get K6.out.o.o (by simp; omega), u.get K6.out.o.p (by simp; omega), u.get K6.out.ht (by simp; omega), h6, K6.out.b.u.also u (by simp; omega)⟩
  have heq : ∀ w : World, (binOp .eql 65 (.agg (s.setR b a5).cells) (.agg (s.setR b a5).cells)).run Try.prog w = .ok (.bool true) w := fun w => by
    have := run_eql_state (s.setR b a5) (s.setR b a5) w
    rw [St.eqB_self] at this
    exact this
  obtain ⟨y, hy⟩ : ∃ y : Int, s.R x * sc % 4294967296 = y := ⟨_, rfl⟩
  obtain ⟨z, hz⟩ : ∃ z : Int, (s.R b + y) % 4294967296 = z := ⟨_, rfl⟩
  obtain ⟨p0, hp0⟩ : ∃ p0 : Int, (z + a4) % 4294967296 = p0 := ⟨_, rfl⟩
  have HP := Lib.hid (show s.place ⟨3, 0, a4, b, x, sc⟩ = p0 ∧ s.place ⟨3, 0, a4, -1, -1, 1⟩ = a4 ∧ s.place ⟨2, 0, 9, 0, 0, 0⟩ = 0 by
    refine ⟨?_, op_place0 s a4 H4.out.1 H4.out.2, op_place2 s 9⟩
    rw [op_place s b x sc a4 hb1 hx1]
    generalize s.R x * sc = q at hy ⊢
    omega)
  have c0 := s.cR b hb1
  have cx := s.cR x hx1
  have HF := Lib.hid HF
  clear hb hx hc hsc eF cw fw
  refine wp_draw 46 (PlF w s (s.setR b a5) w.heap.size w1.heap.size w3.heap.size (w5.heap.size + 1) ⟨3, 0, a4, b, x, sc⟩ ⟨3, 0, a4, -1, -1, 1⟩) (fun _ _ => False) (by kernel_rfl) (by kernel_rfl) (HF.out.step (Upd.refl [] _).drew) (fun _ _ _ h => h.elim) ?_
  simp only [List.take_succ_cons, List.take_zero, List.drop_succ_cons, List.drop_zero]
  iterate 2
    apply headW_val rfl rfl
    · intro K hK w7 hB1
      have cs := cells_of hB1.s
      have co := cells_of hB1.o
      have cp := cells_of hB1.p
      unfold opCells at co cp
      have HB := Lib.hid hB1
      clear hB1
      first
      | (refine at_load_wp 65 rfl ?_; first | (refine wp_load_state s w.heap.size _ rfl rfl HB.out.s ?_; go_simp; exact hK _ HB.out) | (refine wp_load_state (s.setR b a5) w3.heap.size _ rfl rfl HB.out.ht ?_; go_simp; exact hK _ HB.out) | (refine wp_load_state (s.setR b a5) (w5.heap.size + 1) _ rfl rfl HB.out.wt ?_; go_simp; exact hK _ HB.out))
      | (go_wp2_with fail
         first
         | exact hK _ HB.out
         | exact HB.out)
    · exact ⟨_, rfl⟩
  apply headW_val rfl rfl
  · intro K hK w7 hB1
    have HB := Lib.hid hB1
    clear hB1
    go_wp2_with (go_at_call 32; refine (Place_any s ⟨3, 0, a4, b, x, sc⟩ _).mono ?_; rintro e w8 ⟨rfl, hu⟩; rw [HP.out.1])
    first
    | exact hK _ (HB.out.step hu)
    | exact HB.out.step hu
  · exact ⟨_, rfl⟩
  iterate 9
    apply headW_val rfl rfl
    · intro K hK w7 hB1
      have cs := cells_of hB1.s
      have co := cells_of hB1.o
      have cp := cells_of hB1.p
      unfold opCells at co cp
      have HB := Lib.hid hB1
      clear hB1
      first
      | (refine at_load_wp 65 rfl ?_; first | (refine wp_load_state s w.heap.size _ rfl rfl HB.out.s ?_; go_simp; exact hK _ HB.out) | (refine wp_load_state (s.setR b a5) w3.heap.size _ rfl rfl HB.out.ht ?_; go_simp; exact hK _ HB.out) | (refine wp_load_state (s.setR b a5) (w5.heap.size + 1) _ rfl rfl HB.out.wt ?_; go_simp; exact hK _ HB.out))
      | (go_wp2_with fail
         first
         | exact hK _ HB.out
         | exact HB.out)
    · exact ⟨_, rfl⟩
  apply headW_val rfl rfl
  · intro K hK w7 hB1
    refine wp_binOp_run .mul 24 _ _ _ rfl (.int .u32 (s.R x)) (.int .u32 sc) (.int .u32 y) rfl rfl (u32_guard .mul (s.R x) sc w7) (by rw [u32_mul_run, hy]) ?_
    exact hK _ hB1
  · exact ⟨_, rfl⟩
  apply headW_val rfl rfl
  · intro K hK w7 hB1
    refine wp_binOp_run .add 24 _ _ _ rfl (.int .u32 (s.R b)) (.int .u32 y) (.int .u32 z) rfl rfl (u32_guard .add (s.R b) y w7) (by rw [u32_add_run, hz]) ?_
    exact hK _ hB1
  · exact ⟨_, rfl⟩
  iterate 1
    apply headW_val rfl rfl
    · intro K hK w7 hB1
      have cs := cells_of hB1.s
      have co := cells_of hB1.o
      have cp := cells_of hB1.p
      unfold opCells at co cp
      have HB := Lib.hid hB1
      clear hB1
      first
      | (refine at_load_wp 65 rfl ?_; first | (refine wp_load_state s w.heap.size _ rfl rfl HB.out.s ?_; go_simp; exact hK _ HB.out) | (refine wp_load_state (s.setR b a5) w3.heap.size _ rfl rfl HB.out.ht ?_; go_simp; exact hK _ HB.out) | (refine wp_load_state (s.setR b a5) (w5.heap.size + 1) _ rfl rfl HB.out.wt ?_; go_simp; exact hK _ HB.out))
      | (go_wp2_with fail
         first
         | exact hK _ HB.out
         | exact HB.out)
    · exact ⟨_, rfl⟩
  apply headW_val rfl rfl
  · intro K hK w7 hB1
    refine wp_binOp_run .add 24 _ _ _ rfl (.int .u32 z) (.int .u32 a4) (.int .u32 p0) rfl rfl (u32_guard .add z a4 w7) (by rw [u32_add_run, hp0]) ?_
    exact hK _ hB1
  · exact ⟨_, rfl⟩
  iterate 4
    apply headW_val rfl rfl
    · intro K hK w7 hB1
      have cs := cells_of hB1.s
      have co := cells_of hB1.o
      have cp := cells_of hB1.p
      unfold opCells at co cp
      have HB := Lib.hid hB1
      clear hB1
      first
      | (refine at_load_wp 65 rfl ?_; first | (refine wp_load_state s w.heap.size _ rfl rfl HB.out.s ?_; go_simp; exact hK _ HB.out) | (refine wp_load_state (s.setR b a5) w3.heap.size _ rfl rfl HB.out.ht ?_; go_simp; exact hK _ HB.out) | (refine wp_load_state (s.setR b a5) (w5.heap.size + 1) _ rfl rfl HB.out.wt ?_; go_simp; exact hK _ HB.out))
      | (go_wp2_with fail
         first
         | exact hK _ HB.out
         | exact HB.out)
    · exact ⟨_, rfl⟩
  apply headW_val rfl rfl
  · intro K hK w7 hB1
    have HB := Lib.hid hB1
    clear hB1
    go_wp2_with (go_at_call 32; refine (Place_any s ⟨3, 0, a4, -1, -1, 1⟩ _).mono ?_; rintro e w8 ⟨rfl, hu⟩; rw [HP.out.2.1])
    first
    | exact hK _ (HB.out.step hu)
    | exact HB.out.step hu
  · exact ⟨_, rfl⟩
  iterate 6
    apply headW_val rfl rfl
    · intro K hK w7 hB1
      have cs := cells_of hB1.s
      have co := cells_of hB1.o
      have cp := cells_of hB1.p
      unfold opCells at co cp
      have HB := Lib.hid hB1
      clear hB1
      first
      | (refine at_load_wp 65 rfl ?_; first | (refine wp_load_state s w.heap.size _ rfl rfl HB.out.s ?_; go_simp; exact hK _ HB.out) | (refine wp_load_state (s.setR b a5) w3.heap.size _ rfl rfl HB.out.ht ?_; go_simp; exact hK _ HB.out) | (refine wp_load_state (s.setR b a5) (w5.heap.size + 1) _ rfl rfl HB.out.wt ?_; go_simp; exact hK _ HB.out))
      | (go_wp2_with fail
         first
         | exact hK _ HB.out
         | exact HB.out)
    · exact ⟨_, rfl⟩
  apply headW_val rfl rfl
  · intro K hK w7 hB1
    have HB := Lib.hid hB1
    clear hB1
    go_wp2_with (go_at_call 32; refine (Place_any s ⟨2, 0, 9, 0, 0, 0⟩ _).mono ?_; rintro e w8 ⟨rfl, hu⟩; rw [HP.out.2.2])
    first
    | exact hK _ (HB.out.step hu)
    | exact HB.out.step hu
  · exact ⟨_, rfl⟩
  iterate 18
    apply headW_val rfl rfl
    · intro K hK w7 hB1
      have cs := cells_of hB1.s
      have co := cells_of hB1.o
      have cp := cells_of hB1.p
      unfold opCells at co cp
      have HB := Lib.hid hB1
      clear hB1
      first
      | (refine at_load_wp 65 rfl ?_; first | (refine wp_load_state s w.heap.size _ rfl rfl HB.out.s ?_; go_simp; exact hK _ HB.out) | (refine wp_load_state (s.setR b a5) w3.heap.size _ rfl rfl HB.out.ht ?_; go_simp; exact hK _ HB.out) | (refine wp_load_state (s.setR b a5) (w5.heap.size + 1) _ rfl rfl HB.out.wt ?_; go_simp; exact hK _ HB.out))
      | (go_wp2_with fail
         first
         | exact hK _ HB.out
         | exact HB.out)
    · exact ⟨_, rfl⟩
  refine headW_nil (fun _ w7 hB1 => ?_)
  have HB := Lib.hid hB1
  clear hB1
  go_wp2_with fail
  go_ret
  exact ⟨rfl, HB.out.u⟩

end Go.Proofs.Ytncafchgdgmeaaa
