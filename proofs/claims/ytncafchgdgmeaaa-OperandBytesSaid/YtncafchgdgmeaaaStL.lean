/-
  The law OperandCan: the plain part, and the walk.
-/
import Derived.Test.YtncafchgdgmeaaaStK
import Derived.Test.YtncafchgdgmeaaaPgN
namespace Go.Proofs.Ytncafchgdgmeaaa
open Go Go.RowKit
set_option linter.unusedVariables false
set_option linter.unusedSimpArgs false

theorem operand_info : (Try.prog.info? 68).map (·.size) = some 6 := by kernel_rfl

theorem reg12_any (r : Int) (w : World) : Calls Try.prog 33 #[.int .i64 r] w fun e w' => e = .returned (⟨1, r, 0, 0, 0, 0⟩ : Opd).val ∧ Upd [] w w' := by
  go_enter Try.func33, Try.ntmps33
  go_wp2
  exact bodyPost_ret (results_one' rfl (res_row 2 68 w.heap.size _ _ rfl (heap_alloc_new _ _) Try.underlying68 rfl operand_info)) rfl ⟨rfl, (Upd.refl _ _).alloc _⟩

theorem low_zero {g a : Int} (hg : 1 ≤ g ∧ g ≤ 7) (ha : 0 ≤ a ∧ a ≤ 7) : (lowI (bits .andNot .i64 a g) = 0) ↔ (bits .andNot .i64 a g = 0) := by
  have h1 : g = 1 ∨ g = 2 ∨ g = 3 ∨ g = 4 ∨ g = 5 ∨ g = 6 ∨ g = 7 := by omega
  have h2 : a = 0 ∨ a = 1 ∨ a = 2 ∨ a = 3 ∨ a = 4 ∨ a = 5 ∨ a = 6 ∨ a = 7 := by omega
  rcases h1 with rfl | rfl | rfl | rfl | rfl | rfl | rfl <;> rcases h2 with rfl | rfl | rfl | rfl | rfl | rfl | rfl | rfl <;> decide +kernel

def ocM (g : Int) : Mem := Mem.zero.mapN (0 : Int).toNat (1 : Int).toNat g
def ocO (x : Int) : Opd := ⟨3, 0, x, -1, -1, 1⟩

theorem oc_map {g : Int} (hg : 1 ≤ g ∧ g ≤ 7) : Mem.zero.mapB 0 1 g = true := by
  rw [Mem.mapB, (rightsB_iff g).2 hg, Bool.true_and]
  exact Mem.all_of (p := 0) (k := 1) (by decide) (by decide) (fun _ _ _ => by simp [Mem.zero])

theorem oc_lack (g a x : Int) (h0 : 0 ≤ x) (h1 : x < 256) : (ocM g).lack x a = lowI (bits .andNot .i64 a g) := by
  rw [Mem.lack, Mem.rightAt, if_pos (by omega)]
  congr 2
  simp only [ocM, Mem.mapN]
  rw [if_pos (by omega)]

theorem oc_place (s : St) (x : Int) (h0 : 0 ≤ x) (h1 : x < 250) : s.place (ocO x) = x := by
  simp only [St.place, ocO, St.reg, if_true]
  omega

theorem oc_can (s : St) (g a x : Int) (hg : 1 ≤ g ∧ g ≤ 7) (ha : 0 ≤ a ∧ a ≤ 7) (h0 : 0 ≤ x) (h1 : x < 250) :
    (bits .andNot .i64 a g = 0 ∧ opCanF (ocM g) s (ocO x) 4 a = Flt.zero ∧ opCanK (ocM g) s (ocO x) 4 a = true) ∨
    (bits .andNot .i64 a g ≠ 0 ∧ opCanF (ocM g) s (ocO x) 4 a = ⟨1, 0, x, lowI (bits .andNot .i64 a g)⟩ ∧ opCanK (ocM g) s (ocO x) 4 a = false) := by
  have hp : ∀ t : Nat, t < 4 → plus x t = x + t := fun t ht => plus_small h0 (by omega)
  have hl : ∀ t : Nat, t < 4 → (ocM g).lack (plus x t) a = lowI (bits .andNot .i64 a g) := fun t ht => by rw [hp t ht]; exact oc_lack g a _ (by omega) (by omega)
  have e4 : (wd 4).toNat = 4 := by decide
  rw [opCanF, opCanK, if_pos (by rfl), if_pos (by rfl), oc_place s x h0 h1, e4, Mem.canF, Mem.canK]
  by_cases h : bits .andNot .i64 a g = 0
  · have hz := (low_zero hg ha).2 h
    rw [canBad_none _ x 4 a (fun t ht => by rw [hl t ht, hz])]
    exact .inl ⟨h, rfl, rfl⟩
  · have hz : ¬ lowI (bits .andNot .i64 a g) = 0 := fun e => h ((low_zero hg ha).1 e)
    rw [canBad_some _ x 4 a 0 (by decide) (fun t ht => by omega) (by rw [hl 0 (by decide)]; exact hz)]
    refine .inr ⟨h, ?_, rfl⟩
    simp only [hl 0 (by decide), hp 0 (by decide)]
    simp
    exact oc_lack g a x (by omega) (by omega)

set_option maxRecDepth 100000 in
set_option maxHeartbeats 4000000 in
theorem OperandCan_walk (a0 a1 a2 : Int) (h0 : 0 ≤ a0) (h1 : 0 ≤ a1) (h2 : 0 ≤ a2) (w : World) :
    Calls Try.prog 8 #[.int .u8 a0, .int .u8 a1, .int .u8 a2] w fun e w' => e = .returned (.bool true) ∧ Upd [] w w' := by
  obtain ⟨g, hg, hg1⟩ : ∃ g : Int, a0.tmod 7 + 1 = g ∧ 1 ≤ g ∧ g ≤ 7 := ⟨_, rfl, by rw [Int.tmod_eq_emod_of_nonneg h0]; omega, by rw [Int.tmod_eq_emod_of_nonneg h0]; omega⟩
  obtain ⟨k, hk, hk1⟩ : ∃ k : Int, a1.tmod 8 = k ∧ 0 ≤ k ∧ k ≤ 7 := ⟨_, rfl, by rw [Int.tmod_eq_emod_of_nonneg h1]; omega, by rw [Int.tmod_eq_emod_of_nonneg h1]; omega⟩
  obtain ⟨x, hx, hx0, hx1⟩ : ∃ x : Int, a2.tmod 250 = x ∧ 0 ≤ x ∧ x < 250 := ⟨_, rfl, by rw [Int.tmod_eq_emod_of_nonneg h2]; omega, by rw [Int.tmod_eq_emod_of_nonneg h2]; omega⟩
  clear h0 h1 h2
  have hx2 : x % 4294967296 = x := by omega
  have HM := Lib.hid (oc_map hg1)
  have hca := oc_can St.zero g k x hg1 hk1 hx0 hx1
  have HR := Lib.hid (show opCanF (ocM g) St.zero ⟨1, 3, 0, 0, 0, 0⟩ 4 7 = Flt.zero ∧ opCanK (ocM g) St.zero ⟨1, 3, 0, 0, 0, 0⟩ 4 7 = true from ⟨rfl, rfl⟩)
  have tok1 : True := trivial
  rcases hca with ⟨hm, hF, hK⟩ | ⟨hm, hF, hK⟩
  · have HC := Lib.hid (And.intro hF hK)
    clear hF hK
    have hlow : lowI (bits .andNot .i64 k g) = bits .and .i64 (bits .andNot .i64 k g) (wrap64 (-bits .andNot .i64 k g)) := rfl
    go_enter Try.func8, Try.ntmps8
    go_wp2_with (first | (go_at_call 29; refine (known12_any _).mono ?_; rintro e u0 ⟨rfl, hu0⟩) | (go_at_call 15; refine (New_any _).mono ?_; rintro e u1 ⟨a, pb, rfl, ha, hp, hM1, hu1⟩) | (go_at_call 16; refine (Map_yes Mem.zero a pb 0 1 g _ hM1 (by decide) HM.out).mono ?_; rintro e u2 ⟨rfl, hM2, hu2⟩; clear hM1) | (go_at_call 34; have _t := tok1; refine (opCan_any (ocM g) a pb St.zero (ocO x) 4 k _ (hM2.keep ((Upd.refl [] _).alloc _) (by simp) (by simp))).mono ?_; rintro e u3 ⟨rfl, hu3⟩; rw [HC.out.1, HC.out.2, show Flt.zero.val = .agg #[.int .i64 0, .int .u32 0, .int .u32 0, .int .i64 0] from rfl]; clear tok1 _t) | (go_at_call 33; refine (reg12_any 3 _).mono ?_; rintro e u4 ⟨rfl, hu4⟩) | (go_at_call 34; refine (opCan_any (ocM g) a pb St.zero ⟨1, 3, 0, 0, 0, 0⟩ 4 7 _ (((hM2.keep ((Upd.refl [] _).alloc _) (by simp) (by simp)).keep hu3 (by simp) (by simp)).keep (((Upd.refl [] _).alloc _).also hu4 (by simp)) (by simp) (by simp))).mono ?_; rintro e u5 ⟨rfl, hu5⟩; rw [HR.out.1, HR.out.2, show Flt.zero.val = .agg #[.int .i64 0, .int .u32 0, .int .u32 0, .int .i64 0] from rfl]))
    go_ret
    have hS : ∀ x, x ∈ [pb] → x ∈ ([] : List Nat) ∨ w.heap.size ≤ x := by
      intro x hx
      have := hu0.size
      simp only [List.mem_singleton] at hx
      omega
    exact ⟨rfl, ((((((hu0.also hu1 (by simp)).also hu2 hS).alloc _).also hu3 (by simp)).alloc _ |>.also hu4 (by simp)).also hu5 (by simp)).alloc _⟩
  · have HC := Lib.hid (And.intro hF hK)
    clear hF hK
    have hlow : lowI (bits .andNot .i64 k g) = bits .and .i64 (bits .andNot .i64 k g) (wrap64 (-bits .andNot .i64 k g)) := rfl
    go_enter Try.func8, Try.ntmps8
    go_wp2_with (first | (go_at_call 29; refine (known12_any _).mono ?_; rintro e u0 ⟨rfl, hu0⟩) | (go_at_call 15; refine (New_any _).mono ?_; rintro e u1 ⟨a, pb, rfl, ha, hp, hM1, hu1⟩) | (go_at_call 16; refine (Map_yes Mem.zero a pb 0 1 g _ hM1 (by decide) HM.out).mono ?_; rintro e u2 ⟨rfl, hM2, hu2⟩; clear hM1) | (go_at_call 34; have _t := tok1; refine (opCan_any (ocM g) a pb St.zero (ocO x) 4 k _ (hM2.keep ((Upd.refl [] _).alloc _) (by simp) (by simp))).mono ?_; rintro e u3 ⟨rfl, hu3⟩; rw [HC.out.1, HC.out.2, show (⟨1, 0, x, lowI (bits .andNot .i64 k g)⟩ : Flt).val = .agg #[.int .i64 1, .int .u32 0, .int .u32 x, .int .i64 (lowI (bits .andNot .i64 k g))] from rfl]; clear tok1 _t) | (go_at_call 33; refine (reg12_any 3 _).mono ?_; rintro e u4 ⟨rfl, hu4⟩) | (go_at_call 34; refine (opCan_any (ocM g) a pb St.zero ⟨1, 3, 0, 0, 0, 0⟩ 4 7 _ (((hM2.keep ((Upd.refl [] _).alloc _) (by simp) (by simp)).keep hu3 (by simp) (by simp)).keep (((Upd.refl [] _).alloc _).also hu4 (by simp)) (by simp) (by simp))).mono ?_; rintro e u5 ⟨rfl, hu5⟩; rw [HR.out.1, HR.out.2, show Flt.zero.val = .agg #[.int .i64 0, .int .u32 0, .int .u32 0, .int .i64 0] from rfl]; have hf5 := cells_of (heap_alloc_keep (.cells #[.int .i64 0, .int .u32 0, .int .u32 0, .int .i64 0] 32) (hu5.get (hu4.get (heap_alloc_new u3 (.cells #[.int .i64 1, .int .u32 0, .int .u32 x, .int .i64 (lowI (bits .andNot .i64 k g))] 32)) (by simp)) (by simp)))))
    go_ret
    have hS : ∀ x, x ∈ [pb] → x ∈ ([] : List Nat) ∨ w.heap.size ≤ x := by
      intro x hx
      have := hu0.size
      simp only [List.mem_singleton] at hx
      omega
    exact ⟨ret_of (congrArg Value.bool (by first | rfl | simp [hm])), ((((((hu0.also hu1 (by simp)).also hu2 hS).alloc _).also hu3 (by simp)).alloc _ |>.also hu4 (by simp)).also hu5 (by simp)).alloc _⟩

end Go.Proofs.Ytncafchgdgmeaaa
