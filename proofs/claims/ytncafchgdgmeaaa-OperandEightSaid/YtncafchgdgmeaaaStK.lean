/-
  The check of known answers of the laws on operands: the walk.
-/
import Derived.Test.YtncafchgdgmeaaaStJ
import Derived.Deep.Cut
namespace Go.Proofs.Ytncafchgdgmeaaa
open Go Go.RowKit
set_option linter.unusedVariables false
set_option linter.unusedSimpArgs false

/-- A new state in memory, laid whole. -/
theorem new_state {w0 w1 w' : World} {b : Nat} {S : List Nat} {Z : St} {L : Array Value} (hw : w1.setCells b 0 Z.cells.toList = w') (h : w1.heap[b]? = some (.cells L 65 (0, 0))) (hL : L.size = 17) (hu : Upd S w0 w1) (hb : w0.heap.size ≤ b) :
    w'.heap[b]? = some (.cells Z.cells 65 (0, 0)) ∧ Upd S w0 w' := by
  rw [← hw]
  exact ⟨heap_store_state Z h hL, hu.setCells (.inr hb) _ _⟩

structure K12 (w : World) (a pb bs bo : Nat) (M : Mem) (w1 : World) : Prop where
  m : IsMem w1 a pb M
  s : w1.heap[bs]? = some (.cells oS.cells 65 (0, 0))
  o : w1.heap[bo]? = some (.cells #[.int .i64 3, .int .i64 0, .int .u32 8, .int .i64 3, .int .i64 1, .int .u32 4] 68 (0, 0))
  u : Upd [] w w1

theorem K12.step {w : World} {a pb bs bo : Nat} {M M' : Mem} {w1 w2 : World} {S : List Nat} (h : K12 w a pb bs bo M w1) (u : Upd S w1 w2) (hm : IsMem w2 a pb M') (hs : bs ∉ S) (ho : bo ∉ S) (hS : ∀ x, x ∈ S → x ∈ ([] : List Nat) ∨ w.heap.size ≤ x) : K12 w a pb bs bo M' w2 :=
  ⟨hm, u.get h.s hs, u.get h.o ho, h.u.also u hS⟩

theorem k12_s {w2 : World} {b : Nat} (h : w2.heap[b]? = some (.cells St.zero.cells 65 (0, 0))) (o : Obj) :
    (((w2.setCell ⟨b, 3, none⟩ (.int .u32 16)).setCell ⟨b, 1, none⟩ (.int .u32 2)).alloc o).heap[b]? = some (.cells oS.cells 65 (0, 0)) :=
  heap_alloc_keep _ (heap_set_same (heap_set_same h 3 (.int .u32 16)) 1 (.int .u32 2))

theorem k12_at {w w1 w2 w3 : World} {a pb : Nat} {M M' : Mem} (hM : IsMem w1 a pb M) (hU : Upd [] w w1) (h2 : w2.heap[w1.heap.size]? = some (.cells St.zero.cells 65 (0, 0)) ∧ Upd [] w1 w2) (hp0 : w.heap.size ≤ pb) (hM3 : IsMem w3 a pb M')
    (hU3 : Upd [pb] (((w2.setCell ⟨w1.heap.size, 3, none⟩ (.int .u32 16)).setCell ⟨w1.heap.size, 1, none⟩ (.int .u32 2)).alloc (.cells #[.int .i64 3, .int .i64 0, .int .u32 8, .int .i64 3, .int .i64 1, .int .u32 4] 68)) w3) : K12 w a pb w1.heap.size w2.heap.size M' w3 := by
  have hp := hM.pl
  have hl := lt_of_heap h2.1
  have ho := heap_alloc_new ((w2.setCell ⟨w1.heap.size, 3, none⟩ (.int .u32 16)).setCell ⟨w1.heap.size, 1, none⟩ (.int .u32 2)) (.cells #[.int .i64 3, .int .i64 0, .int .u32 8, .int .i64 3, .int .i64 1, .int .u32 4] 68)
  rw [World.size_setCell, World.size_setCell] at ho
  have h1 := hU.size
  exact ⟨hM3, hU3.get (k12_s h2.1 _) (by simp; omega), hU3.get ho (by simp; omega), ((((hU.also h2.2 (by simp)).setCell (.inr h1) _).setCell (.inr h1) _).alloc _).also hU3 (fun x hx => .inr (by simp only [List.mem_singleton] at hx; omega))⟩

theorem z_one (w : World) : (w.alloc (.cells St.zero.cells 65)).heap[w.heap.size]? = some (.cells St.zero.cells 65 (0, 0)) := heap_alloc_new _ _
theorem z_two (w : World) (F : Obj) : ((w.alloc (.cells St.zero.cells 65)).alloc F).heap[w.heap.size]? = some (.cells St.zero.cells 65 (0, 0)) := heap_alloc_keep _ (heap_alloc_new _ _)

theorem z_step {w1 w2 : World} (hw2 : (w1.alloc (.cells St.zero.cells 65)).setCells w1.heap.size 0 St.zero.cells.toList = w2) :
    (w2.heap[w1.heap.size]? = some (.cells St.zero.cells 65 (0, 0)) ∧ Upd [] w1 w2) ∧ w2.cell? ⟨w1.heap.size, 3, none⟩ = some (.int .u32 0) ∧ w2.cell? ⟨w1.heap.size, 1, none⟩ = some (.int .u32 0) ∧ ∀ o, w2.frozen? ⟨w1.heap.size, o, none⟩ = false := by
  have h2 := new_state hw2 (z_one w1) rfl ((Upd.refl [] w1).alloc _) (Nat.le_refl _)
  exact ⟨h2, by rw [cells_of h2.1]; rfl, by rw [cells_of h2.1]; rfl, free_of h2.1⟩

theorem t_step {w3 w4 : World} (hw4 : ((w3.alloc (.cells St.zero.cells 65)).alloc (.cells #[.int .i64 0, .int .u32 0, .int .u32 0, .int .i64 0] 32)).setCells w3.heap.size 0 oS.cells.toList = w4) :
    (w4.heap[w3.heap.size]? = some (.cells oS.cells 65 (0, 0)) ∧ Upd [] w3 w4) ∧ w4.heap[w3.heap.size + 1]? = some (.cells #[.int .i64 0, .int .u32 0, .int .u32 0, .int .i64 0] 32 (0, 0)) := by
  have h4 := new_state hw4 (z_two w3 _) rfl (((Upd.refl [] w3).alloc _).alloc _) (Nat.le_refl _)
  exact ⟨h4, by rw [← hw4, heap_setCells_other (by omega)]; exact heap_alloc2_new _ _ _⟩

structure K12b (w : World) (a pb bs bo bt : Nat) (M : Mem) (w1 : World) : Prop where
  k : K12 w a pb bs bo M w1
  t : w1.heap[bt]? = some (.cells oS.cells 65 (0, 0))

theorem K12b.step {w : World} {a pb bs bo bt : Nat} {M M' : Mem} {w1 w2 : World} {S : List Nat} (h : K12b w a pb bs bo bt M w1) (u : Upd S w1 w2) (hm : IsMem w2 a pb M') (hs : bs ∉ S) (ho : bo ∉ S) (ht : bt ∉ S) (hS : ∀ x, x ∈ S → x ∈ ([] : List Nat) ∨ w.heap.size ≤ x) : K12b w a pb bs bo bt M' w2 :=
  ⟨h.k.step u hm hs ho hS, u.get h.t ht⟩

theorem k12_f {w4 : World} {g : Nat} (u0 u1 u2 u3 : Value) : Upd [g] w4 ((((w4.setCell ⟨g, 0, none⟩ u0).setCell ⟨g, 0 + 1, none⟩ u1).setCell ⟨g, 0 + 2, none⟩ u2).setCell ⟨g, 0 + 3, none⟩ u3) :=
  Upd_store4 (b := g) (Upd.refl _ _) (.inl (by simp)) _ _ _ _

theorem K12b.f {w : World} {a pb bs bo bt g : Nat} {M : Mem} {w1 : World} (h : K12b w a pb bs bo bt M w1) (h1 : bs ≠ g) (h2 : bo ≠ g) (h3 : bt ≠ g) (h4 : a ≠ g) (h5 : pb ≠ g) (h6 : w.heap.size ≤ g) (u0 u1 u2 u3 : Value) :
    K12b w a pb bs bo bt M ((((w1.setCell ⟨g, 0, none⟩ u0).setCell ⟨g, 0 + 1, none⟩ u1).setCell ⟨g, 0 + 2, none⟩ u2).setCell ⟨g, 0 + 3, none⟩ u3) :=
  h.step (k12_f u0 u1 u2 u3) (h.k.m.keep (k12_f u0 u1 u2 u3) (by simpa using h4) (by simpa using h5)) (by simpa using h1) (by simpa using h2) (by simpa using h3) (fun x hx => .inr (by simp only [List.mem_singleton] at hx; omega))

set_option maxRecDepth 100000 in
set_option maxHeartbeats 8000000 in
theorem known12_any (w : World) :
    Calls Try.prog 29 #[] w fun e w' => e = .returned (.bool true) ∧ Upd [] w w' := by
  have heq : ∀ w : World, (binOp .eql 65 (.agg oS.cells) (.agg oS.cells)).run Try.prog w = .ok (.bool true) w := fun w => by
    have := run_eql_state oS oS w
    rw [St.eqB_self] at this
    exact this
  have toka : True := trivial
  go_enter Try.func29, Try.ntmps29
  go_upto_region 8 with (first | (go_at_call 15; refine (New_any _).mono ?_; rintro e w0 ⟨a, pb, rfl, ha, hp, hM0, hU0⟩) | (go_at_call 16; refine (Map_yes Mem.zero a pb 0 1 3 _ hM0 (by decide) kn12_map).mono ?_; rintro e w1 ⟨rfl, hM1, hU1⟩; have HM1 := Lib.hid hM1; have HU1 := Lib.hid (show Upd [] w w1 from hU0.also hU1 (by simp; omega)); have HA := Lib.hid (And.intro ha hp); clear hM0 hM1 hU0 hU1 ha hp) | (have _t := toka; clear _t; refine at_store 65 rfl ?_; refine wpList_store_state' St.zero w1.heap.size rfl _ _ rfl rfl rfl (z_one w1) rfl ?_; intro w2 hw2; obtain ⟨h2, c3, c1, f2⟩ := z_step hw2; clear hw2 toka; have H2 := Lib.hid h2; clear h2) | (refine at_load 65 rfl ?_; refine wpList_load_state oS w1.heap.size rfl _ rfl rfl (k12_s H2.out.1 (.cells #[.int .i64 3, .int .i64 0, .int .u32 8, .int .i64 3, .int .i64 1, .int .u32 4] 68)) ?_) | (go_at_call 30; refine (opWrite_any oM1 a pb oS oO 4 77 _ (HM1.out.keep (((H2.out.2.mono (T := [w1.heap.size]) (by simp)).setCell (by simp) _).setCell (by simp) _ |>.alloc _) (by have := HM1.out.al; simp; omega) (by have := HM1.out.pl; simp; omega)) oS_ok oO_ok (by decide) (by decide)).mono ?_; rintro e w3 ⟨rfl, hM3, hU3⟩; rw [kn12_wF, kn12_wK, show opS oS oO 4 77 = oS from rfl, show Flt.zero.val = .agg #[.int .i64 0, .int .u32 0, .int .u32 0, .int .i64 0] from rfl]; rw [kn12_wM] at hM3; have K3 := Lib.hid (k12_at HM1.out HU1.out H2.out HA.out.2 hM3 hU3); have HL := Lib.hid (show w1.heap.size < w2.heap.size ∧ w2.heap.size < w3.heap.size ∧ a < w3.heap.size ∧ pb < w3.heap.size ∧ w.heap.size ≤ w3.heap.size ∧ a < w1.heap.size ∧ pb < w1.heap.size from ⟨lt_of_heap H2.out.1, lt_of_heap K3.out.o, K3.out.m.al, K3.out.m.pl, K3.out.u.size, HM1.out.al, HM1.out.pl⟩); clear hM3 hU3 c3 c1 f2 H2 HM1) | (have _t := K3; clear _t; refine at_store 65 rfl ?_; refine wpList_store_state' oS w3.heap.size rfl _ _ rfl rfl rfl (z_two w3 (.cells #[.int .i64 0, .int .u32 0, .int .u32 0, .int .i64 0] 32)) rfl ?_; intro w4 hw4; obtain ⟨h4, f4⟩ := t_step hw4; clear hw4; have cf4 := cells_of f4; have ff4 := free_of f4; have hk4 : K12b w a pb w1.heap.size w2.heap.size w3.heap.size oM2 w4 := (K12b.mk (K3.out.step h4.2 (K3.out.m.keep h4.2 (by simp) (by simp)) (by simp) (by simp) (by simp)) h4.1); have hL := HL.out; have K4 := Lib.hid (hk4.f (g := w3.heap.size + 1) (by omega) (by omega) (by omega) (by omega) (by omega) (by omega) (.int .i64 0) (.int .u32 0) (.int .u32 0) (.int .i64 0)); clear hk4 hL f4 h4 K3))
  have co4 := cells_of K4.out.k.o
  go_upto_region 9 with (first | (refine at_load 65 rfl ?_; refine wpList_load_state oS w1.heap.size rfl _ rfl rfl K4.out.k.s ?_) | (go_at_call 31; refine (opRead_any oM2 a pb oS oO 4 _ K4.out.k.m oS_ok oO_ok).mono ?_; rintro e w5 ⟨rfl, hU5⟩; rw [kn12_rV, kn12_rF, kn12_rK, show Flt.zero.val = .agg #[.int .i64 0, .int .u32 0, .int .u32 0, .int .i64 0] from rfl]; have K5 := Lib.hid ((K4.out.step hU5 (K4.out.k.m.keep hU5 (by simp) (by simp)) (by simp) (by simp) (by simp) (by simp)).step ((Upd.refl [] w5).alloc (.cells #[.int .i64 0, .int .u32 0, .int .u32 0, .int .i64 0] 32)) ((K4.out.k.m.keep hU5 (by simp) (by simp)).keep ((Upd.refl [] w5).alloc _) (by simp) (by simp)) (by simp) (by simp) (by simp) (by simp)); clear hU5))
  clear co4 cf4 ff4 K4
  go_upto_region 10 with (go_at_call 38; refine (Write8_any oM2 a pb 252 1 _ K5.out.k.m (by decide) (by decide) (by decide) (by decide)).mono ?_; rintro e w6 ⟨rfl, hM6, hU6⟩; rw [kn12_8F, kn12_8K, show (⟨1, 0, 256, 2⟩ : Flt).val = .agg #[.int .i64 1, .int .u32 0, .int .u32 256, .int .i64 2] from rfl]; rw [kn12_8M] at hM6; have hL := HL.out; have hA := HA.out; have K6 := Lib.hid (K5.out.step hU6 hM6 (by simp; omega) (by simp; omega) (by simp; omega) (by simp; omega)); have HL6 := Lib.hid (show w3.heap.size < w6.heap.size from lt_of_heap K6.out.t); clear hM6 hU6 hL hA)
  have K7 := Lib.hid (K6.out.step ((Upd.refl [] w6).alloc (.cells #[.int .i64 1, .int .u32 0, .int .u32 256, .int .i64 2] 32)) (K6.out.k.m.keep ((Upd.refl [] w6).alloc _) (by simp) (by simp)) (by simp) (by simp) (by simp) (by simp))
  have B10 := Lib.hid (heap_alloc_new w6 (.cells #[.int .i64 1, .int .u32 0, .int .u32 256, .int .i64 2] 32))
  go_upto_region 11 with (first | (refine at_load 65 rfl ?_; refine wpList_load_state oS w1.heap.size rfl _ rfl rfl K7.out.k.s ?_) | (go_at_call 34; refine (opCan_any oM2 a pb oS oO2 4 3 _ K7.out.k.m).mono ?_; rintro e w7 ⟨rfl, hU7⟩; rw [kn12_cF, kn12_cK, show (⟨1, 0, 256, 1⟩ : Flt).val = .agg #[.int .i64 1, .int .u32 0, .int .u32 256, .int .i64 1] from rfl]; have K8 := Lib.hid ((K7.out.step hU7 (K7.out.k.m.keep hU7 (by simp) (by simp)) (by simp) (by simp) (by simp) (by simp)).step ((Upd.refl [] w7).alloc (.cells #[.int .i64 1, .int .u32 0, .int .u32 256, .int .i64 1] 32)) ((K7.out.k.m.keep hU7 (by simp) (by simp)).keep ((Upd.refl [] w7).alloc _) (by simp) (by simp)) (by simp) (by simp) (by simp) (by simp)); have B10' := Lib.hid (heap_alloc_keep (.cells #[.int .i64 1, .int .u32 0, .int .u32 256, .int .i64 1] 32) (hU7.get B10.out (by simp))); have B12 := Lib.hid (heap_alloc_new w7 (.cells #[.int .i64 1, .int .u32 0, .int .u32 256, .int .i64 1] 32)); clear hU7))
  clear K7 K6 K5 B10
  have co8 := cells_of K8.out.k.o
  go_wp2_with (first | (refine at_load 65 rfl ?_; refine wpList_load_state oS w1.heap.size rfl _ rfl rfl K8.out.k.s ?_) | (go_at_call 32; refine (Place_any oS oO _).mono ?_; rintro e w9 ⟨rfl, hU9⟩; rw [kn12_place]; have K9 := Lib.hid (K8.out.step hU9 (K8.out.k.m.keep hU9 (by simp) (by simp)) (by simp) (by simp) (by simp) (by simp)); have b10 := cells_of (hU9.get B10'.out (by simp)); have b12 := cells_of (hU9.get B12.out (by simp)); clear hU9 co8 K8) | (have _t := K9; clear _t; refine at_load 65 rfl ?_; first | (refine wpList_load_state_g oS w3.heap.size rfl _ rfl rfl K9.out.t ?_) | (refine wpList_load_state_g oS w1.heap.size rfl _ rfl rfl K9.out.k.s ?_)))
  go_ret
  exact ⟨rfl, K9.out.k.u⟩

end Go.Proofs.Ytncafchgdgmeaaa
