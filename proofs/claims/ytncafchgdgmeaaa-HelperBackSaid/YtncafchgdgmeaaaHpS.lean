/-
  The law HelperBack: its calls, one by one. No condition.
-/
import Derived.Test.YtncafchgdgmeaaaHpQ
import Derived.Test.YtncafchgdgmeaaaHpR
import Derived.Test.YtncafchgdgmeaaaHpP
namespace Go.Proofs.Ytncafchgdgmeaaa
open Go Go.RowKit
set_option linter.unusedVariables false
set_option linter.unusedSimpArgs false

/-- A host, a memory, the one that asks them. -/
structure Hk (w : World) (hb a pb g : Nat) (M : Mem) (x y : Int) (H : Hs) (w1 : World) : Prop where
  k : Kh w hb a pb H M w1
  b : w1.heap[g]? = some (.cells #[.pointer (some ⟨hb, 0, none⟩), .pointer (some ⟨a, 0, none⟩)] 89 (0, 0))
  n : g ≠ hb ∧ g ≠ pb
  e : H.get 10 = x ∧ H.get 11 = y

theorem Hk.next {w w1 w2 : World} {hb a pb g : Nat} {M M' : Mem} {x y x' y' : Int} {H H' : Hs} (h : Hk w hb a pb g M x y H w1) (u : Upd [hb, pb] w1 w2) (hh : IsHost w2 hb H') (hm : IsMem w2 a pb M') (e : H'.get 10 = x' ∧ H'.get 11 = y') : Hk w hb a pb g M' x' y' H' w2 :=
  ⟨h.k.both u hh hm, u.get h.b (by have := h.n; simp; omega), h.n, e⟩

theorem hkLay (w w1 : World) (hb a pb g : Nat) (M : Mem) (p q : Int) (H : Hs) (h : Hk w hb a pb g M p q H w1) (x y z : Int) (hr : R5 8 x y z 0) (hk : M.canK x 8 2 = true) :
    Calls Try.prog 43 (askV hb a 8 x y z 0) w1 fun e w' => e = .returned (.bool true) ∧ ∃ H', Hk w hb a pb g (M.wr8M x (y + z * 4294967296)) (x) (y) H' w' := by
  refine (askLay H M hb a pb x y z hr w1 h.k.h h.k.m h.k.ne hk).mono ?_
  rintro e w2 ⟨rfl, ⟨h1, h2⟩, hu⟩
  have g := H.ask_get 8 x y z 0
  exact ⟨rfl, _, h.next hu h1 h2 ⟨g.2.1, g.2.2.1⟩⟩

theorem hkNumber (w w1 : World) (hb a pb g : Nat) (M : Mem) (p q : Int) (H : Hs) (h : Hk w hb a pb g M p q H w1) (x : Int) (hr : R5 7 x 0 0 0) (hk : M.rd8K x = true) :
    Calls Try.prog 43 (askV hb a 7 x 0 0 0) w1 fun e w' => e = .returned (.bool true) ∧ ∃ H', Hk w hb a pb g (M) (M.rd8V x % 4294967296) (M.rd8V x / 4294967296) H' w' := by
  refine (askNumber H M hb a pb x hr w1 h.k.h h.k.m h.k.ne hk).mono ?_
  rintro e w2 ⟨rfl, ⟨h1, h2⟩, hu⟩
  exact ⟨rfl, _, h.next hu h1 h2 ⟨rfl, rfl⟩⟩

theorem hkStore (w w1 : World) (hb a pb g : Nat) (M : Mem) (p q : Int) (H : Hs) (h : Hk w hb a pb g M p q H w1) (x y : Int) (hr : R5 3 x y 0 0) (hk : M.writeK x 4 = true) :
    Calls Try.prog 43 (askV hb a 3 x y 0 0) w1 fun e w' => e = .returned (.bool true) ∧ ∃ H', Hk w hb a pb g (M.writeM x 4 y) (x) (y) H' w' := by
  refine (askStore H M hb a pb x y hr w1 h.k.h h.k.m h.k.ne hk).mono ?_
  rintro e w2 ⟨rfl, ⟨h1, h2⟩, hu⟩
  have g := H.ask_get 3 x y 0 0
  exact ⟨rfl, _, h.next hu h1 h2 ⟨g.2.1, g.2.2.1⟩⟩

theorem hkLoad (w w1 : World) (hb a pb g : Nat) (M : Mem) (p q : Int) (H : Hs) (h : Hk w hb a pb g M p q H w1) (x : Int) (hr : R5 1 x 0 0 0) (hk : M.readK x 4 1 = true) :
    Calls Try.prog 43 (askV hb a 1 x 0 0 0) w1 fun e w' => e = .returned (.bool true) ∧ ∃ H', Hk w hb a pb g (M) (M.readV x 4 1) (0) H' w' := by
  refine (askLoad H M hb a pb x hr w1 h.k.h h.k.m h.k.ne hk).mono ?_
  rintro e w2 ⟨rfl, ⟨h1, h2⟩, hu⟩
  exact ⟨rfl, _, h.next hu h1 h2 ⟨rfl, rfl⟩⟩

theorem hkLoad1 (w w1 : World) (hb a pb g : Nat) (M : Mem) (p q : Int) (H : Hs) (h : Hk w hb a pb g M p q H w1) (x : Int) (hr : R5 2 x 0 0 0) (hk : M.readK x 1 1 = true) :
    Calls Try.prog 43 (askV hb a 2 x 0 0 0) w1 fun e w' => e = .returned (.bool true) ∧ ∃ H', Hk w hb a pb g (M) (M.readV x 1 1) (0) H' w' := by
  refine (askLoad1 H M hb a pb x hr w1 h.k.h h.k.m h.k.ne hk).mono ?_
  rintro e w2 ⟨rfl, ⟨h1, h2⟩, hu⟩
  exact ⟨rfl, _, h.next hu h1 h2 ⟨rfl, rfl⟩⟩

theorem hb_inf : flDo .sub (9218868437227405312 : Int).toNat (9218868437227405312 : Int).toNat = 9221120237041090560 := by decide +kernel
theorem hb_cmp : cmpT (cmpZ (0 : Int).toNat (9223372036854775808 : Int).toNat) (cmpP (0 : Int).toNat (9223372036854775808 : Int).toNat) (cmpC (0 : Int).toNat (9223372036854775808 : Int).toNat) 4 = 8 := by decide +kernel

theorem hkSub (w w1 : World) (hb a pb g : Nat) (M : Mem) (p q : Int) (H : Hs) (h : Hk w hb a pb g M p q H w1)   :
    Calls Try.prog 43 (askV hb a 10 0 2146435072 0 2146435072) w1 fun e w' => e = .returned (.bool true) ∧ ∃ H', Hk w hb a pb g (M) (0) (2146959360) H' w' := by
  refine (ask_any true H M (fun w' => ∃ H', IsHost w' hb H' ∧ IsMem w' a pb M ∧ H'.get 10 = 0 ∧ H'.get 11 = 2146959360) hb a pb 10 0 2146435072 0 2146435072 (by decide) w1 h.k.h h.k.m h.k.ne (fun _ _ u ⟨H', h1, h2, h3⟩ => ⟨H', h1.keep u (by simp), h2.keep u (by simp) (by simp), h3⟩) (fun w2 h2 m2 => ?_)).mono ?_
  · have e0 : (H.ask 10 0 2146435072 0 2146435072).two 0 = 9218868437227405312 := rfl
    have e2 : (H.ask 10 0 2146435072 0 2146435072).two 2 = 9218868437227405312 := rfl
    refine (Do_sub _ _ hb a pb w2 h2 m2 h.k.ne rfl).mono ?_
    rintro e w3 ⟨rfl, h3, h4, h5⟩
    rw [e0, e2, hb_inf] at h3
    exact ⟨⟨_, rfl⟩, ⟨_, h3, h4, rfl, rfl⟩, h5⟩
  · rintro e w2 ⟨rfl, ⟨H', h1, h2, h3⟩, hu⟩
    exact ⟨rfl, _, h.next hu h1 h2 h3⟩

theorem hkCmp (w w1 : World) (hb a pb g : Nat) (M : Mem) (p q : Int) (H : Hs) (h : Hk w hb a pb g M p q H w1)   :
    Calls Try.prog 43 (askV hb a 13 0 0 0 2147483648) w1 fun e w' => e = .returned (.bool true) ∧ ∃ H', Hk w hb a pb g (M) (8) (0) H' w' := by
  refine (ask_any true H M (fun w' => ∃ H', IsHost w' hb H' ∧ IsMem w' a pb M ∧ H'.get 10 = 8 ∧ H'.get 11 = 0) hb a pb 13 0 0 0 2147483648 (by decide) w1 h.k.h h.k.m h.k.ne (fun _ _ u ⟨H', h1, h2, h3⟩ => ⟨H', h1.keep u (by simp), h2.keep u (by simp) (by simp), h3⟩) (fun w2 h2 m2 => ?_)).mono ?_
  · have e0 : (H.ask 13 0 0 0 2147483648).two 0 = 0 := rfl
    have e2 : (H.ask 13 0 0 0 2147483648).two 2 = 9223372036854775808 := rfl
    refine (Do_cmp _ _ hb a pb w2 h2 m2 h.k.ne rfl).mono ?_
    rintro e w3 ⟨rfl, h3, h4, h5⟩
    rw [e0, e2, hb_cmp] at h3
    exact ⟨⟨_, rfl⟩, ⟨_, h3, h4, rfl, rfl⟩, h5⟩
  · rintro e w2 ⟨rfl, ⟨H', h1, h2, h3⟩, hu⟩
    exact ⟨rfl, _, h.next hu h1 h2 h3⟩

theorem hkDiv (w w1 : World) (hb a pb g : Nat) (M : Mem) (p q : Int) (H : Hs) (h : Hk w hb a pb g M p q H w1) :
    Calls Try.prog 43 (askV hb a 5 1 1 0 0) w1 fun e w' => e = .returned (.bool false) ∧ ∃ H', Hk w hb a pb g M 1 1 H' w' := by
  have g := H.ask_get 5 1 1 0 0
  refine (ask_any false H M (fun w' => IsHost w' hb (H.ask 5 1 1 0 0) ∧ IsMem w' a pb M) hb a pb 5 1 1 0 0 (by decide) w1 h.k.h h.k.m h.k.ne (fun _ _ u h => ⟨h.1.keep u (by simp), h.2.keep u (by simp) (by simp)⟩) (fun w2 h2 m2 => ?_)).mono ?_
  · refine (Do_divs_bad _ _ hb a pb w2 h2 m2 h.k.ne g.1 (by rw [g.2.1, g.2.2.1, g.2.2.2.1]; decide)).mono ?_
    rintro e w3 ⟨⟨F, _, rfl⟩, h5⟩
    exact ⟨⟨_, rfl⟩, ⟨h2.keep h5 (by simp), m2.keep h5 (by simp) (by simp)⟩, h5.mono (by simp)⟩
  · rintro e w2 ⟨rfl, ⟨h1, h2⟩, hu⟩
    exact ⟨rfl, _, h.next hu h1 h2 ⟨g.2.1, g.2.2.1⟩⟩

theorem hkBad (w w1 : World) (hb a pb g : Nat) (M : Mem) (p q : Int) (H : Hs) (h : Hk w hb a pb g M p q H w1) (hk : M.writeK 5000 1 = false) :
    Calls Try.prog 43 (askV hb a 4 5000 1 0 0) w1 fun e w' => e = .returned (.bool false) ∧ Upd [] w w' := by
  refine (askBad H M hb a pb 5000 1 (by unfold R5; decide) w1 h.k.h h.k.m h.k.ne hk).mono ?_
  rintro e w2 ⟨rfl, _, hu⟩
  exact ⟨rfl, h.k.u.also hu (by have := h.k.n; simp; omega)⟩
end Go.Proofs.Ytncafchgdgmeaaa
