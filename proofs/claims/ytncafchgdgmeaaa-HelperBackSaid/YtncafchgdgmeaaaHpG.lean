/-
  The laws of layer 20: one call asked, by the contract of Do. No condition.
-/
import Derived.Test.YtncafchgdgmeaaaHpF
namespace Go.Proofs.Ytncafchgdgmeaaa
open Go Go.RowKit
set_option linter.unusedVariables false
set_option linter.unusedSimpArgs false

def Hs.ask (H : Hs) (n x y z t : Int) : Hs := ((((H.put 17 n).put 10 x).put 11 y).put 12 z).put 13 t

theorem Hs.ask_get (H : Hs) (n x y z t : Int) : (H.ask n x y z t).get 17 = n ∧ (H.ask n x y z t).get 10 = x ∧ (H.ask n x y z t).get 11 = y ∧ (H.ask n x y z t).get 12 = z ∧ (H.ask n x y z t).get 13 = t := by
  refine ⟨?_, ?_, ?_, ?_, ?_⟩ <;> simp [Hs.ask, Hs.put, Hs.get, Hs.set]

theorem Hs.put_get (H : Hs) (i j v : Int) (hi : 1 ≤ i ∧ i < 32) (hj : 1 ≤ j ∧ j < 32) : (H.put i v).get j = if j = i then v else H.get j := by
  have hi' : ¬ (i < 1 ∨ 32 ≤ i) := by omega
  have hj' : ¬ (j < 1 ∨ 32 ≤ j) := by omega
  simp only [Hs.put, Hs.get, if_neg hi', if_neg hj', Hs.set]
  by_cases h : j = i
  · subst h; rw [if_pos rfl, if_pos rfl]
  · rw [if_neg (by omega), if_neg h]

/-- Where the one that asks stands. -/
structure AkB (w : World) (hb a pb : Nat) (H : Hs) (M : Mem) (w1 : World) : Prop where
  x : w1.heap[w.heap.size]? = some (.cells #[.pointer (some ⟨hb, 0, none⟩), .pointer (some ⟨a, 0, none⟩)] 89 (0, 0))
  h : IsHost w1 hb H
  m : IsMem w1 a pb M
  n : hb < w.heap.size ∧ pb < w.heap.size ∧ hb ≠ a ∧ hb ≠ pb
  u : Upd [hb] w w1
theorem AkB.start {w : World} {hb a pb : Nat} {H : Hs} {M : Mem} (h : IsHost w hb H) (hm : IsMem w a pb M) (hn : hb ≠ a ∧ hb ≠ pb) :
    AkB w hb a pb H M (w.alloc (.cells #[.pointer (some ⟨hb, 0, none⟩), .pointer (some ⟨a, 0, none⟩)] 89)) := by
  have u : Upd [] w (w.alloc (.cells #[.pointer (some ⟨hb, 0, none⟩), .pointer (some ⟨a, 0, none⟩)] 89)) := (Upd.refl [] w).alloc _
  exact ⟨heap_alloc_new _ _, h.keep u (by simp), hm.keep u (by simp) (by simp), ⟨h.lt, hm.pl, hn⟩, u.mono (by simp)⟩
theorem AkB.step {w w1 w2 : World} {hb a pb : Nat} {H H' : Hs} {M : Mem} (h : AkB w hb a pb H M w1) (u : Upd [hb] w1 w2) (h' : IsHost w2 hb H') : AkB w hb a pb H' M w2 := by
  obtain ⟨n1, n2, n3, n4⟩ := h.n
  exact ⟨u.get h.x (by simp; omega), h', h.m.keep u (by simp; omega) (by simp; omega), h.n, h.u.also u (by simp)⟩

set_option maxRecDepth 100000 in
set_option maxHeartbeats 2000000 in
theorem ask_any (r : Bool) (H : Hs) (M : Mem) (R : World → Prop) (hb a pb : Nat) (n x y z t : Int) (hr : (0 ≤ n ∧ n < 4294967296) ∧ (0 ≤ x ∧ x < 4294967296) ∧ (0 ≤ y ∧ y < 4294967296) ∧ (0 ≤ z ∧ z < 4294967296) ∧ (0 ≤ t ∧ t < 4294967296)) (w : World) (h : IsHost w hb H) (hm : IsMem w a pb M) (hne : hb ≠ a ∧ hb ≠ pb)
    (hR : ∀ w1 w2, Upd [] w1 w2 → R w1 → R w2)
    (hc : ∀ w1, IsHost w1 hb (H.ask n x y z t) → IsMem w1 a pb M → Calls Try.prog 50 #[.pointer (some ⟨hb, 0, none⟩), .pointer (some ⟨a, 0, none⟩)] w1 fun e w' => (∃ F : Flt, e = .returned (.tuple #[F.val, .bool r])) ∧ R w' ∧ Upd [hb, pb] w1 w') :
    Calls Try.prog 43 #[.agg #[.pointer (some ⟨hb, 0, none⟩), .pointer (some ⟨a, 0, none⟩)], .int .u32 n, .int .u32 x, .int .u32 y, .int .u32 z, .int .u32 t] w fun e w' => e = .returned (.bool r) ∧ R w' ∧ Upd [hb, pb] w w' := by
  have A0 := Lib.hid (AkB.start h hm hne)
  have HR := Lib.hid hr
  have HQ := Lib.hid hR
  have tok0 : True := trivial
  have tok1 : True := trivial
  have tok2 : True := trivial
  have tok3 : True := trivial
  have ct := cells_of A0.out.x
  clear h hm hne hr hR
  go_enter Try.func43, Try.ntmps43
  go_wp2_with (first | (have _t := tok0; clear _t; go_at_call 47; refine (SetX_any H hb 17 n _ A0.out.h HR.out.1).mono ?_; rintro e w1 ⟨rfl, h1, hu⟩; have A1 := Lib.hid (A0.out.step hu h1); clear h1 hu tok0 ct; have ct := cells_of A1.out.x) | (have _t := tok1; clear _t; go_at_call 47; refine (SetX_any _ hb 10 x _ A1.out.h HR.out.2.1).mono ?_; rintro e w1 ⟨rfl, h1, hu⟩; have A2 := Lib.hid (A1.out.step hu h1); clear h1 hu tok1 ct; have ct := cells_of A2.out.x) | (have _t := tok2; clear _t; go_at_call 47; refine (SetX_any _ hb 11 y _ A2.out.h HR.out.2.2.1).mono ?_; rintro e w1 ⟨rfl, h1, hu⟩; have A3 := Lib.hid (A2.out.step hu h1); clear h1 hu tok2 ct; have ct := cells_of A3.out.x) | (have _t := tok3; clear _t; go_at_call 47; refine (SetX_any _ hb 12 z _ A3.out.h HR.out.2.2.2.1).mono ?_; rintro e w1 ⟨rfl, h1, hu⟩; have A4 := Lib.hid (A3.out.step hu h1); clear h1 hu tok3 ct; have ct := cells_of A4.out.x) | (have _t := A4; clear _t; go_at_call 47; refine (SetX_any _ hb 13 t _ A4.out.h HR.out.2.2.2.2).mono ?_; rintro e w1 ⟨rfl, h1, hu⟩; have A5 := Lib.hid (A4.out.step hu h1); clear h1 hu A4 ct; have ct := cells_of A5.out.x) | (have _t := A5; clear _t; go_at_call 50; refine (hc _ A5.out.h A5.out.m).mono ?_; rintro e w7 ⟨⟨F, rfl⟩, h7, hu⟩; unfold Flt.val; have A7 := Lib.hid (And.intro h7 ((A5.out.u.mono (T := [hb, pb]) (by simp)).also hu (by intro x hx; exact .inl hx))); clear h7 hu A5 ct))
  go_ret
  exact ⟨rfl, HQ.out _ _ ((Upd.refl [] w7).alloc _) A7.out.1, A7.out.2.alloc _⟩
end Go.Proofs.Ytncafchgdgmeaaa
