/-
  The law PageBytes: the walk.
-/
import Derived.Test.YtceohjfflecpjaaPgL
namespace Go.Proofs.Ytceohjfflecpjaa
open Go Go.RowKit

theorem lb_m1 (z : Nat) (v : Int) (hz : z < 1000) : p8.writeF (z + 8) 4 = .agg #[.int .i64 0, .int .u32 0, .int .u32 0, .int .i64 0] ∧ p8.writeK (z + 8) 4 = true ∧ p8.writeM (z + 8) 4 v = p8.putN (z + 8) v (widthI 4).toNat := by
  have e4 : (widthI 4).toNat = 4 := by decide
  have h := Mem.write_none (M := p8) (x := z + 8) (bytes := 4) (p8_bad rfl _ 2 _ (by decide) (by omega) (by rw [e4]; omega))
  exact ⟨h.1, h.2.1, h.2.2 v⟩

theorem lb_m2 (z : Nat) (v w : Int) (hz : z < 1000) (M : Mem) (hM : M = p8.putN (z + 8) v (widthI 4).toNat) : M.writeF (z + 9) 2 = .agg #[.int .i64 0, .int .u32 0, .int .u32 0, .int .i64 0] ∧ M.writeK (z + 9) 2 = true ∧ M.writeM (z + 9) 2 w = lbM z v w := by
  have e2 : (widthI 2).toNat = 2 := by decide
  have h := Mem.write_none (M := M) (x := z + 9) (bytes := 2) (p8_bad (by rw [hM, Mem.putN_R]) _ 2 _ (by decide) (by omega) (by rw [e2]; omega))
  exact ⟨h.1, h.2.1, by rw [h.2.2 w, hM]; rfl⟩

theorem lb_r (z : Nat) (v w : Int) (hz : z < 1000) (hv0 : 0 ≤ v) (hv1 : v < 4294967296) (hw0 : 0 ≤ w) (hw1 : w < 4294967296) : (lbM z v w).readV (z + 8) 4 1 = wantI v w ∧ (lbM z v w).readF (z + 8) 4 1 = .agg #[.int .i64 0, .int .u32 0, .int .u32 0, .int .i64 0] ∧ (lbM z v w).readK (z + 8) 4 1 = true := by
  have e4 : (widthI 4).toNat = 4 := by decide
  have h := Mem.read_none (M := lbM z v w) (x := z + 8) (bytes := 4) (right := 1) (p8_bad (lbM_R z v w) _ _ _ (by decide) (by omega) (by rw [e4]; omega))
  exact ⟨h.1.trans (lb_get z v w hz hv0 hv1 hw0 hw1), h.2.1, h.2.2⟩

theorem own_cells {w : World} {base : Nat} {l : List Int} {v : Value} (h : w.ownsRow base 5 1 v l.length (l.map (Value.int .u8))) (hne : l.length ≠ 0) :
    ∃ g c, v = .slice (some ⟨g, 0, none⟩) l.length c ∧ ∀ i x, l[i]? = some x → w.cell? ⟨g, i, none⟩ = some (.int .u8 x) := by
  have hk := h
  obtain ⟨_, ⟨_, h2⟩ | ⟨g, cap, cur, h1, _⟩⟩ := h
  · exact absurd h2 hne
  · refine ⟨g, cap, h1, fun i x hx => ?_⟩
    have := hk.cells (g := g) (by rw [h1]; rfl) i (.int .u8 x) (by rw [List.getElem?_map, hx]; rfl)
    rcases i with _ | i <;> simpa [Addr.add] using this

theorem lb_own {w : World} {base : Nat} {z : Nat} {a1 a2 : Int} {v : Value} (hz : z < 1000) (h : w.ownsRow base 5 1 v ((lbM z a1 a2).peek (z + 4) 12).length (((lbM z a1 a2).peek (z + 4) 12).map (Value.int .u8))) :
    ∃ g c, v = .slice (some ⟨g, 0, none⟩) 12 c ∧ w.cell? ⟨g, 3, none⟩ = some (.int .u8 0) ∧ w.cell? ⟨g, 8, none⟩ = some (.int .u8 0) ∧ w.cell? ⟨g, 4, none⟩ = some (.int .u8 (a1 % 256)) ∧ w.cell? ⟨g, 7, none⟩ = some (.int .u8 (a1 / 16777216 % 256)) := by
  rw [lb_peek z a1 a2 hz] at h
  obtain ⟨g, c, hv, hc⟩ := own_cells h (by simp)
  exact ⟨g, c, hv, hc _ _ rfl, hc _ _ rfl, hc _ _ rfl, hc _ _ rfl⟩

set_option maxRecDepth 100000 in
set_option maxHeartbeats 4000000 in
theorem PageBytes_walk (a0 a1 a2 : Int) (ht0 : 0 ≤ a0) (hv0 : 0 ≤ a1) (hv1 : a1 < 4294967296) (hw0 : 0 ≤ a2) (hw1 : a2 < 4294967296) (w : World) :
    Calls Try.prog 3 #[.int .u16 a0, .int .u32 a1, .int .u32 a2] w fun e w' => e = .returned (.bool true) ∧ Upd [] w w' := by
  obtain ⟨z, hz, hz0, hz1⟩ : ∃ z : Nat, a0.tmod 1000 = z ∧ 0 ≤ z ∧ z < 1000 := ⟨(a0.tmod 1000).toNat, by rw [Int.tmod_eq_emod_of_nonneg ht0]; omega, Nat.zero_le _, by rw [Int.tmod_eq_emod_of_nonneg ht0]; omega⟩
  clear ht0 hz0
  have hv0' := hv0
  have hv1' := hv1
  have hw0' := hw0
  have hw1' := hw1
  have HR := Lib.hid (lb_r z a1 a2 hz1 hv0 hv1 hw0 hw1)
  have x1 : ((z : Int) + 8) % 4294967296 = z + 8 := by omega
  have x2 : (z : Int) % 4294967296 = z := by omega
  have x3 : ((z : Int) + 8 + 1) % 4294967296 = z + 9 := by omega
  have x4 : ((z : Int) + 8 - 4) % 4294967296 = z + 4 := by omega
  have x5 : (z : Int) + 8 + 1 = z + 9 := by omega
  have x6 : (z : Int) + 8 - 4 = z + 4 := by omega
  have x7 : ((z : Int) + 9) % 4294967296 = z + 9 := by omega
  have x8 : ((z : Int) + 4) % 4294967296 = z + 4 := by omega
  have HF := Lib.hid (lb_m1 z a1 hz1)
  have HG := Lib.hid (lb_m2 z a1 a2 hz1 _ rfl)
  obtain ⟨W, hW, hW1, hW2, hW0, hW3⟩ : ∃ W, wantI a1 a2 = W ∧ W % 256 = a1 % 256 ∧ W / 16777216 % 256 = a1 / 16777216 % 256 ∧ 0 ≤ W ∧ W < 4294967296 := by
    refine ⟨_, wantI_eq a1 a2 hv0 hv1 hw0 hw1, ?_, ?_, ?_, ?_⟩ <;> omega
  rw [hW] at HR
  rw [wantI] at hW
  clear hv0 hv1 hw0 hw1
  have HV := Lib.hid (And.intro hv0' (And.intro hv1' (And.intro hw0' hw1')))
  clear hv0' hv1' hw0' hw1'
  go_enter Try.func3, Try.ntmps3
  go_wp2_with (first | (go_at_call 9; refine (known_any _).mono ?_; rintro e u0 ⟨rfl, hu0⟩) | (go_at_call 10; refine (New_any _).mono ?_; rintro e u1 ⟨a, pb, rfl, ha, hp, hM1, hu1⟩) | (go_at_call 11; refine (Map_yes Mem.zero a pb 0 8 3 _ hM1 (by decide) p8_map).mono ?_; rintro e u2 ⟨rfl, hM2, hu2⟩; clear hM1) | (go_at_call 12; refine (Write_any p8 a pb (z + 8) 4 a1 _ hM2 (by omega) (by omega) HV.out.1 HV.out.2.1).mono ?_; rintro e u3 ⟨rfl, hM3, hu3⟩; rw [HF.out.1, HF.out.2.1]; rw [HF.out.2.2] at hM3; clear hM2) | (go_at_call 12; refine (Write_any _ a pb (z + 9) 2 a2 _ (hM3.keep ((Upd.refl [] _).alloc _) (by simp) (by simp)) (by omega) (by omega) HV.out.2.2.1 HV.out.2.2.2).mono ?_; rintro e u4 ⟨rfl, hM4, hu4⟩; rw [HG.out.1, HG.out.2.1]; rw [HG.out.2.2] at hM4; clear hM3) | (go_at_call 13; refine (Read_any (lbM z a1 a2) a pb (z + 8) 4 1 _ (hM4.keep ((Upd.refl [] _).alloc _) (by simp) (by simp)) (by omega) (by omega)).mono ?_; rintro e u5 ⟨rfl, hu5⟩; rw [HR.out.1, HR.out.2.1, HR.out.2.2]; have hM5 := (hM4.keep ((Upd.refl [] _).alloc _) (by simp) (by simp)).keep hu5 (by simp) (by simp); clear hM4) | (go_at_call 14; refine (Peek_any (lbM z a1 a2) a pb (z + 4) 12 _ (hM5.keep ((Upd.refl [] _).alloc _) (by simp) (by simp)) (by omega) (by omega) (by decide) (by decide)).mono ?_; rintro e u6 ⟨v6, rfl, ho, hu6⟩; obtain ⟨g, c, rfl, c3, c8, c4, c7⟩ := lb_own hz1 ho; clear ho hM5))
  go_ret
  have hS : ∀ x, x ∈ [pb] → x ∈ ([] : List Nat) ∨ w.heap.size ≤ x := by
    intro x hx
    have := hu0.size
    simp only [List.mem_singleton] at hx
    omega
  have hE : ∀ x, x ∈ ([] : List Nat) → x ∈ ([] : List Nat) ∨ w.heap.size ≤ x := by simp
  have U2 := (hu0.also hu1 hE).also hu2 hS
  have U3 := U2.also hu3 hS
  have U4 := (U3.alloc _).also hu4 hS
  have U5 := (U4.alloc _).also hu5 hE
  have U6 := (U5.alloc _).also hu6 hE
  have hb : (a1 / 16777216 % 256 == W / 16777216) = true := by rw [beq_iff_eq]; omega
  rw [hb]
  exact ⟨rfl, U6⟩

end Go.Proofs.Ytceohjfflecpjaa
