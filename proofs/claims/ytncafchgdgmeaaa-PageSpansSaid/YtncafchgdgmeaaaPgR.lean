/-
  The law PageSpans: the walk.
-/
import Derived.Test.YtncafchgdgmeaaaPgQ
import Derived.Outline
namespace Go.Proofs.Ytncafchgdgmeaaa
open Go Go.RowKit
set_option linter.unusedVariables false
set_option linter.unusedSimpArgs false

theorem sp_in (u : World) (p q : Nat) (s : ByteArray) :
    SpansIn (u.alloc (.cells #[Value.int .i64 p, .int .i64 2, .int .i64 3, .string s, .int .i64 q, .int .i64 1, .int .i64 4, .string ⟨#[]⟩] 41)) (.slice (some ⟨u.heap.size, 0, none⟩) 2 2) (spanL p q s) u.heap.size := by
  refine .inr ⟨0, 2, rfl, by simp, by simp [spanL], fun i x hx => ?_⟩
  have hb := heap_alloc_new u (.cells #[Value.int .i64 p, .int .i64 2, .int .i64 3, .string s, .int .i64 q, .int .i64 1, .int .i64 4, .string ⟨#[]⟩] 41)
  have hc := cells_of hb
  rw [hc, hc, hc, hc]
  match i, hx with
  | 0, hx => injection hx with hx; subst hx; exact ⟨rfl, rfl, rfl, rfl⟩
  | 1, hx => injection hx with hx; subst hx; exact ⟨rfl, rfl, rfl, rfl⟩
  | i + 2, hx => simp [spanL] at hx

theorem sp_ok (p q : Nat) (s : ByteArray) : ∀ x, x ∈ spanL p q s → x.ok := by
  intro x hx
  simp only [spanL, List.mem_cons, List.not_mem_nil, or_false] at hx
  rcases hx with rfl | rfl <;> (unfold SpanV.ok; simp)

theorem errI_t (n : Int) : errI true n = 0 := rfl
theorem errI_f (n : Int) : errI false n = n := rfl

set_option maxRecDepth 100000 in
set_option maxHeartbeats 4000000 in
theorem PageSpans_walk (a0 a1 : Int) (s : ByteArray) (h0 : 0 ≤ a0) (h1 : 0 ≤ a1) (hs : s.size ≤ maxLen) (w : World) :
    Calls Try.prog 4 #[.int .u8 a0, .int .u8 a1, .string s] w fun e w' => e = .returned (.bool true) ∧ Upd [] w w' := by
  unfold maxLen at hs
  obtain ⟨p, hp, hp1⟩ : ∃ z : Nat, a0.tmod 60 = z ∧ z < 60 := ⟨(a0.tmod 60).toNat, by rw [Int.tmod_eq_emod_of_nonneg h0]; omega, by rw [Int.tmod_eq_emod_of_nonneg h0]; omega⟩
  obtain ⟨q, hq, hq1⟩ : ∃ z : Nat, a1.tmod 60 = z ∧ z < 60 := ⟨(a1.tmod 60).toNat, by rw [Int.tmod_eq_emod_of_nonneg h1]; omega, by rw [Int.tmod_eq_emod_of_nonneg h1]; omega⟩
  clear h0 h1
  have hS : ∀ {u : World} (a : Nat), Upd [] w u → u.heap.size ≤ a → ∀ x, x ∈ [a] → x ∈ ([] : List Nat) ∨ w.heap.size ≤ x := by
    intro u a hu ha x hx
    have := hu.size
    simp only [List.mem_singleton] at hx
    omega
  by_cases h600 : s.size ≤ 600
  · by_cases hf : s.size ≤ 512 ∧ q ≠ p ∧ q ≠ p + 1
    · have HB := Lib.hid (show loadB (spanL p q s) = true by rw [sp_loadB p q s hp1 hq1]; simpa using hf)
      obtain ⟨f1, f2, f3⟩ := hf
      have HP := Lib.hid (sp_peek p q s hp1 f1 f2 f3)
      have HR1 := Lib.hid (show (spM2 p q s).rights (p + 1) = 3 by
        rw [Mem.rights, if_neg (by omega), spM2_R, if_neg (by omega), if_pos (by omega)])
      have HR2 := Lib.hid (show (spM2 p q s).rights q = 4 by
        rw [Mem.rights, if_neg (by omega), spM2_R, if_pos (by omega)])
      have HR3 := Lib.hid (show p + 2 ≠ q → (spM2 p q s).rights (p + 2) = 0 by
        intro hh
        rw [Mem.rights, if_neg (by omega), spM2_R, if_neg (by omega), if_neg (by omega)])
      have g1 : ((q : Int) == p) = false := by simp; omega
      have g2 : ((q : Int) == p + 1) = false := by simp; omega
      have g3 : ((q : Int) != p) = true := by simp; omega
      have g4 : ((q : Int) != p + 1) = true := by simp; omega
      have g5 : 256 * (p : Int) % 4294967296 = 256 * p := by omega
      clear f2 f3
      by_cases h2 : p + 2 = q
      · have g6 : ((p : Int) + 2 == q) = true := by simp; omega
        go_enter Try.func4, Try.ntmps4
        go_wp2_with (first | (go_at_call 14; refine (known_any _).mono ?_; rintro e u0 ⟨rfl, hu0⟩) | (go_at_call 15; refine (New_any _).mono ?_; rintro e u1 ⟨a, pb, rfl, ha, hp, hM1, hu1⟩) | (go_at_call 21; refine (Load_any Mem.zero a pb u1.heap.size _ (spanL p q s) _ (hM1.keep ((Upd.refl [] _).alloc _) (by simp) (by simp)) (sp_in u1 p q s) (sp_ok p q s)).mono ?_; rintro e u2 ⟨rfl, ⟨⟨qb, hqb, hM2⟩⟩, hu2⟩; rw [HB.out, errI_t]; rw [loadR_yes HB.out, sp_loadM] at hM2; clear hM1) | (go_at_call 22; refine (Peek_any (spM2 p q s) a qb (256 * p) s.size _ hM2 (by omega) (by omega) (by omega) (by omega)).mono ?_; rintro e u3 ⟨v3, rfl, ho, hu3⟩; have hM3 := hM2.keep hu3 (by simp) (by simp); have hcs := own_string ho; rw [HP.out, strOf_ints] at hcs; clear ho) | (go_at_call 23; refine (Rights_any a qb _ _ (spM2 p q s) hM3).mono ?_; rintro e w' ⟨rfl, rfl⟩; first | rw [HR1.out] | rw [HR2.out] | rw [HR3.out (by omega)]))
        go_ret
        exact ⟨rfl, (((hu0.also hu1 (by simp)).alloc _).also hu2 (hS a hu0 ha)).also hu3 (by simp)⟩
      · have g6 : ((p : Int) + 2 == q) = false := by simp; omega
        go_enter Try.func4, Try.ntmps4
        go_wp2_with (first | (go_at_call 14; refine (known_any _).mono ?_; rintro e u0 ⟨rfl, hu0⟩) | (go_at_call 15; refine (New_any _).mono ?_; rintro e u1 ⟨a, pb, rfl, ha, hp, hM1, hu1⟩) | (go_at_call 21; refine (Load_any Mem.zero a pb u1.heap.size _ (spanL p q s) _ (hM1.keep ((Upd.refl [] _).alloc _) (by simp) (by simp)) (sp_in u1 p q s) (sp_ok p q s)).mono ?_; rintro e u2 ⟨rfl, ⟨⟨qb, hqb, hM2⟩⟩, hu2⟩; rw [HB.out, errI_t]; rw [loadR_yes HB.out, sp_loadM] at hM2; clear hM1) | (go_at_call 22; refine (Peek_any (spM2 p q s) a qb (256 * p) s.size _ hM2 (by omega) (by omega) (by omega) (by omega)).mono ?_; rintro e u3 ⟨v3, rfl, ho, hu3⟩; have hM3 := hM2.keep hu3 (by simp) (by simp); have hcs := own_string ho; rw [HP.out, strOf_ints] at hcs; clear ho) | (go_at_call 23; refine (Rights_any a qb _ _ (spM2 p q s) hM3).mono ?_; rintro e w' ⟨rfl, rfl⟩; first | rw [HR1.out] | rw [HR2.out] | rw [HR3.out (by omega)]))
        go_ret
        exact ⟨rfl, (((hu0.also hu1 (by simp)).alloc _).also hu2 (hS a hu0 ha)).also hu3 (by simp)⟩
    · have HB := Lib.hid (show loadB (spanL p q s) = false by rw [sp_loadB p q s hp1 hq1]; simpa using hf)
      have tok1 : True := trivial
      have hc : 512 < s.size ∨ (s.size ≤ 512 ∧ q = p) ∨ (s.size ≤ 512 ∧ q = p + 1) := by omega
      clear hf
      rcases hc with f1 | ⟨f1, f2⟩ | ⟨f1, f2⟩
      · go_enter Try.func4, Try.ntmps4
        go_wp2_with (first | (go_at_call 14; refine (known_any _).mono ?_; rintro e u0 ⟨rfl, hu0⟩) | (go_at_call 15; have _t := tok1; refine (New_any _).mono ?_; rintro e u1 ⟨a, pb, rfl, ha, hp, hM1, hu1⟩; clear tok1 _t) | (go_at_call 21; refine (Load_any Mem.zero a pb u1.heap.size _ (spanL p q s) _ (hM1.keep ((Upd.refl [] _).alloc _) (by simp) (by simp)) (sp_in u1 p q s) (sp_ok p q s)).mono ?_; rintro e u2 ⟨rfl, ⟨⟨qb, hqb, hM2⟩⟩, hu2⟩; rw [HB.out, errI_f]; rw [loadR_no HB.out] at hM2; clear hM1) | (go_at_call 15; refine (New_any _).mono ?_; rintro e u3 ⟨b, pb3, rfl, hb, hp3, hM3, hu3⟩) | (go_at_call 19; refine (Same_any Mem.zero Mem.zero a b qb pb3 _ (hM2.keep hu3 (by simp) (by simp)) hM3).mono ?_; rintro e u4 ⟨rfl, hu4⟩; rw [zero_same]))
        go_ret
        exact ⟨rfl, ((((hu0.also hu1 (by simp)).alloc _).also hu2 (hS a hu0 ha)).also hu3 (by simp)).also hu4 (by simp)⟩
      · have g1 : ((q : Int) == p) = true := by simp; omega
        have g3 : ((q : Int) != p) = false := by simp; omega
        clear f2
        go_enter Try.func4, Try.ntmps4
        go_wp2_with (first | (go_at_call 14; refine (known_any _).mono ?_; rintro e u0 ⟨rfl, hu0⟩) | (go_at_call 15; have _t := tok1; refine (New_any _).mono ?_; rintro e u1 ⟨a, pb, rfl, ha, hp, hM1, hu1⟩; clear tok1 _t) | (go_at_call 21; refine (Load_any Mem.zero a pb u1.heap.size _ (spanL p q s) _ (hM1.keep ((Upd.refl [] _).alloc _) (by simp) (by simp)) (sp_in u1 p q s) (sp_ok p q s)).mono ?_; rintro e u2 ⟨rfl, ⟨⟨qb, hqb, hM2⟩⟩, hu2⟩; rw [HB.out, errI_f]; rw [loadR_no HB.out] at hM2; clear hM1) | (go_at_call 15; refine (New_any _).mono ?_; rintro e u3 ⟨b, pb3, rfl, hb, hp3, hM3, hu3⟩) | (go_at_call 19; refine (Same_any Mem.zero Mem.zero a b qb pb3 _ (hM2.keep hu3 (by simp) (by simp)) hM3).mono ?_; rintro e u4 ⟨rfl, hu4⟩; rw [zero_same]))
        go_ret
        exact ⟨rfl, ((((hu0.also hu1 (by simp)).alloc _).also hu2 (hS a hu0 ha)).also hu3 (by simp)).also hu4 (by simp)⟩
      · have g1 : ((q : Int) == p) = false := by simp; omega
        have g2 : ((q : Int) == p + 1) = true := by simp; omega
        have g3 : ((q : Int) != p) = true := by simp; omega
        have g4 : ((q : Int) != p + 1) = false := by simp; omega
        clear f2
        go_enter Try.func4, Try.ntmps4
        go_wp2_with (first | (go_at_call 14; refine (known_any _).mono ?_; rintro e u0 ⟨rfl, hu0⟩) | (go_at_call 15; have _t := tok1; refine (New_any _).mono ?_; rintro e u1 ⟨a, pb, rfl, ha, hp, hM1, hu1⟩; clear tok1 _t) | (go_at_call 21; refine (Load_any Mem.zero a pb u1.heap.size _ (spanL p q s) _ (hM1.keep ((Upd.refl [] _).alloc _) (by simp) (by simp)) (sp_in u1 p q s) (sp_ok p q s)).mono ?_; rintro e u2 ⟨rfl, ⟨⟨qb, hqb, hM2⟩⟩, hu2⟩; rw [HB.out, errI_f]; rw [loadR_no HB.out] at hM2; clear hM1) | (go_at_call 15; refine (New_any _).mono ?_; rintro e u3 ⟨b, pb3, rfl, hb, hp3, hM3, hu3⟩) | (go_at_call 19; refine (Same_any Mem.zero Mem.zero a b qb pb3 _ (hM2.keep hu3 (by simp) (by simp)) hM3).mono ?_; rintro e u4 ⟨rfl, hu4⟩; rw [zero_same]))
        go_ret
        exact ⟨rfl, ((((hu0.also hu1 (by simp)).alloc _).also hu2 (hS a hu0 ha)).also hu3 (by simp)).also hu4 (by simp)⟩
  · go_enter Try.func4, Try.ntmps4
    go_wp2_with (first | (go_at_call 14; refine (known_any _).mono ?_; rintro e u0 ⟨rfl, hu0⟩))
    go_ret
    exact ⟨rfl, hu0⟩

end Go.Proofs.Ytncafchgdgmeaaa
