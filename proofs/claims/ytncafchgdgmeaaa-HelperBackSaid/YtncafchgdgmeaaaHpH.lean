/-
  Package helper: Do, call by call. No condition.
-/
import Derived.Test.YtncafchgdgmeaaaHpG
namespace Go.Proofs.Ytncafchgdgmeaaa
open Go Go.RowKit
set_option linter.unusedVariables false
set_option linter.unusedSimpArgs false

/-- A host and a memory, each by itself, laid since w. -/
structure Kh (w : World) (hb a pb : Nat) (H : Hs) (M : Mem) (w1 : World) : Prop where
  h : IsHost w1 hb H
  m : IsMem w1 a pb M
  ne : hb ≠ a ∧ hb ≠ pb
  n : w.heap.size ≤ hb ∧ w.heap.size ≤ pb
  u : Upd [] w w1
section
variable {w w1 w2 : World} {hb a pb : Nat} {H H' : Hs} {M M' : Mem}
theorem Kh.step (h : Kh w hb a pb H M w1) (u : Upd [] w1 w2) : Kh w hb a pb H M w2 := ⟨h.h.keep u (by simp), h.m.keep u (by simp) (by simp), h.ne, h.n, h.u.also u (by simp)⟩
theorem Kh.host (h : Kh w hb a pb H M w1) (u : Upd [hb] w1 w2) (h' : IsHost w2 hb H') : Kh w hb a pb H' M w2 :=
  ⟨h', h.m.keep u (by simpa using fun e => h.ne.1 e.symm) (by simpa using fun e => h.ne.2 e.symm), h.ne, h.n, h.u.also u (by simp; exact h.n.1)⟩
theorem Kh.mem (h : Kh w hb a pb H M w1) (u : Upd [pb] w1 w2) (m' : IsMem w2 a pb M') : Kh w hb a pb H M' w2 :=
  ⟨h.h.keep u (by simpa using h.ne.2), m', h.ne, h.n, h.u.also u (by simp; exact h.n.2)⟩
theorem Kh.both (h : Kh w hb a pb H M w1) (u : Upd [hb, pb] w1 w2) (h' : IsHost w2 hb H') (m' : IsMem w2 a pb M') : Kh w hb a pb H' M' w2 :=
  ⟨h', m', h.ne, h.n, h.u.also u (by simp; exact h.n)⟩
end

theorem Do_load4 (H : Hs) (M : Mem) (hb a pb : Nat) (w : World) (h : IsHost w hb H) (hm : IsMem w a pb M) (hne : hb ≠ a ∧ hb ≠ pb) (e17 : H.get 17 = 1) (hk : M.readK (H.get 10) 4 1 = true) :
    Calls Try.prog 50 #[.pointer (some ⟨hb, 0, none⟩), .pointer (some ⟨a, 0, none⟩)] w fun e w' => e = .returned (.tuple #[Flt.zero.val, .bool true]) ∧ IsHost w' hb (H.put 10 (M.readV (H.get 10) 4 1)) ∧ IsMem w' a pb (M) ∧ Upd [hb, pb] w w' :=
  Do_touch_ok H _ M _ hb a pb w h hm hne ⟨by rw [e17]; decide, by rw [e17]; decide, by rw [e17]; decide⟩ (fun ab w1 hA => by rw [e17]; exact touch_load4_ok H M ab hb a pb w1 hA hk)

theorem Do_load1 (H : Hs) (M : Mem) (hb a pb : Nat) (w : World) (h : IsHost w hb H) (hm : IsMem w a pb M) (hne : hb ≠ a ∧ hb ≠ pb) (e17 : H.get 17 = 2) (hk : M.readK (H.get 10) 1 1 = true) :
    Calls Try.prog 50 #[.pointer (some ⟨hb, 0, none⟩), .pointer (some ⟨a, 0, none⟩)] w fun e w' => e = .returned (.tuple #[Flt.zero.val, .bool true]) ∧ IsHost w' hb (H.put 10 (M.readV (H.get 10) 1 1)) ∧ IsMem w' a pb (M) ∧ Upd [hb, pb] w w' :=
  Do_touch_ok H _ M _ hb a pb w h hm hne ⟨by rw [e17]; decide, by rw [e17]; decide, by rw [e17]; decide⟩ (fun ab w1 hA => by rw [e17]; exact touch_load1_ok H M ab hb a pb w1 hA hk)

theorem Do_store4 (H : Hs) (M : Mem) (hb a pb : Nat) (w : World) (h : IsHost w hb H) (hm : IsMem w a pb M) (hne : hb ≠ a ∧ hb ≠ pb) (e17 : H.get 17 = 3) (hk : M.writeK (H.get 10) 4 = true) :
    Calls Try.prog 50 #[.pointer (some ⟨hb, 0, none⟩), .pointer (some ⟨a, 0, none⟩)] w fun e w' => e = .returned (.tuple #[Flt.zero.val, .bool true]) ∧ IsHost w' hb (H) ∧ IsMem w' a pb (M.writeM (H.get 10) 4 (H.get 11)) ∧ Upd [hb, pb] w w' :=
  Do_touch_ok H _ M _ hb a pb w h hm hne ⟨by rw [e17]; decide, by rw [e17]; decide, by rw [e17]; decide⟩ (fun ab w1 hA => by rw [e17]; exact touch_store4_ok H M ab hb a pb w1 hA hk)

theorem Do_lay (H : Hs) (M : Mem) (hb a pb : Nat) (w : World) (h : IsHost w hb H) (hm : IsMem w a pb M) (hne : hb ≠ a ∧ hb ≠ pb) (e17 : H.get 17 = 8) (hk : M.canK (H.get 10) 8 2 = true) :
    Calls Try.prog 50 #[.pointer (some ⟨hb, 0, none⟩), .pointer (some ⟨a, 0, none⟩)] w fun e w' => e = .returned (.tuple #[Flt.zero.val, .bool true]) ∧ IsHost w' hb (H) ∧ IsMem w' a pb (M.wr8M (H.get 10) (H.two 1)) ∧ Upd [hb, pb] w w' :=
  Do_touch_ok H _ M _ hb a pb w h hm hne ⟨by rw [e17]; decide, by rw [e17]; decide, by rw [e17]; decide⟩ (fun ab w1 hA => by rw [e17]; exact touch_lay_ok H M ab hb a pb w1 hA hk)

theorem Do_number (H : Hs) (M : Mem) (hb a pb : Nat) (w : World) (h : IsHost w hb H) (hm : IsMem w a pb M) (hne : hb ≠ a ∧ hb ≠ pb) (e17 : H.get 17 = 7) (hk : M.rd8K (H.get 10) = true) :
    Calls Try.prog 50 #[.pointer (some ⟨hb, 0, none⟩), .pointer (some ⟨a, 0, none⟩)] w fun e w' => e = .returned (.tuple #[Flt.zero.val, .bool true]) ∧ IsHost w' hb ((H.put 10 (M.rd8V (H.get 10) % 4294967296)).put 11 (M.rd8V (H.get 10) / 4294967296)) ∧ IsMem w' a pb (M) ∧ Upd [hb, pb] w w' :=
  Do_touch_ok H _ M _ hb a pb w h hm hne ⟨by rw [e17]; decide, by rw [e17]; decide, by rw [e17]; decide⟩ (fun ab w1 hA => by rw [e17]; exact touch_number_ok H M ab hb a pb w1 hA hk)

theorem Do_divs (H : Hs) (M : Mem) (hb a pb : Nat) (w : World) (h : IsHost w hb H) (hm : IsMem w a pb M) (hne : hb ≠ a ∧ hb ≠ pb) (e17 : H.get 17 = 5) (hk : divK (H.get 10) (H.get 11) (H.get 12) = true) :
    Calls Try.prog 50 #[.pointer (some ⟨hb, 0, none⟩), .pointer (some ⟨a, 0, none⟩)] w fun e w' => e = .returned (.tuple #[Flt.zero.val, .bool true]) ∧ IsHost w' hb ((H.put 10 (divQ (H.get 10) (H.get 11) (H.get 12))).put 11 (divR (H.get 10) (H.get 11) (H.get 12))) ∧ IsMem w' a pb (M) ∧ Upd [hb, pb] w w' :=
  Do_div_ok H _ M _ hb a pb w h hm hne e17 (fun ab w1 hA => by rw [e17]; exact ((divides_ok H ab hb a w1 hA.h hA.k hA.n.1 hk).mono fun e w2 ⟨h1, h2, h3⟩ => ⟨h1, h2, hA.m.keep h3 (by simpa using fun e => hne.1 e.symm) (by simpa using fun e => hne.2 e.symm), h3.mono (by simp)⟩))

theorem Do_divs_bad (H : Hs) (M : Mem) (hb a pb : Nat) (w : World) (h : IsHost w hb H) (hm : IsMem w a pb M) (hne : hb ≠ a ∧ hb ≠ pb) (e17 : H.get 17 = 5) (hk : divK (H.get 10) (H.get 11) (H.get 12) = false) :
    Calls Try.prog 50 #[.pointer (some ⟨hb, 0, none⟩), .pointer (some ⟨a, 0, none⟩)] w fun e w' => (∃ F : Flt, (fun F => F = Flt.div) F ∧ e = .returned (.tuple #[F.val, .bool false])) ∧ Upd [] w w' :=
  Do_div_bad H M (fun F => F = Flt.div) [] hb a pb w h hm hne e17 (by simp) (fun ab w1 hA => by rw [e17]; exact ((divides_bad H ab hb a w1 hA.h hA.k hk).mono fun e w2 ⟨h1, h2⟩ => ⟨⟨_, rfl, h1⟩, h2⟩))

theorem Do_load4_bad (H : Hs) (M : Mem) (hb a pb : Nat) (w : World) (h : IsHost w hb H) (hm : IsMem w a pb M) (hne : hb ≠ a ∧ hb ≠ pb) (e17 : H.get 17 = 1) (hk : M.readK (H.get 10) 4 1 = false) :
    Calls Try.prog 50 #[.pointer (some ⟨hb, 0, none⟩), .pointer (some ⟨a, 0, none⟩)] w fun e w' => (∃ F : Flt, (fun F => F = M.rdF (H.get 10) 4 1) F ∧ e = .returned (.tuple #[F.val, .bool false])) ∧ Upd [] w w' :=
  Do_touch_bad H M (fun F => F = M.rdF (H.get 10) 4 1) [] hb a pb w h hm hne ⟨by rw [e17]; decide, by rw [e17]; decide, by rw [e17]; decide⟩ (by simp) (fun ab w1 hA => by rw [e17]; exact ((touch_load4_bad H M ab hb a pb w1 hA hk).mono fun e w2 ⟨h1, h2⟩ => ⟨⟨_, rfl, h1⟩, h2⟩))

theorem Do_store1_bad (H : Hs) (M : Mem) (hb a pb : Nat) (w : World) (h : IsHost w hb H) (hm : IsMem w a pb M) (hne : hb ≠ a ∧ hb ≠ pb) (e17 : H.get 17 = 4) (hk : M.writeK (H.get 10) 1 = false) :
    Calls Try.prog 50 #[.pointer (some ⟨hb, 0, none⟩), .pointer (some ⟨a, 0, none⟩)] w fun e w' => (∃ F : Flt, (fun _ => True) F ∧ e = .returned (.tuple #[F.val, .bool false])) ∧ Upd [pb] w w' :=
  Do_touch_bad H M (fun _ => True) [pb] hb a pb w h hm hne ⟨by rw [e17]; decide, by rw [e17]; decide, by rw [e17]; decide⟩ (by have := hm.pl; simpa using this) (fun ab w1 hA => by rw [e17]; exact ((touch_store1_bad H M ab hb a pb w1 hA hk).mono fun e w2 ⟨h1, _, h2⟩ => ⟨⟨_, trivial, h1⟩, h2⟩))

theorem Do_can (H : Hs) (M : Mem) (hb a pb : Nat) (w : World) (h : IsHost w hb H) (hm : IsMem w a pb M) (hne : hb ≠ a ∧ hb ≠ pb) (e17 : H.get 17 = 14) :
    (M.canRow (H.get 10) (min (H.get 11) 16).toNat = true → Calls Try.prog 50 #[.pointer (some ⟨hb, 0, none⟩), .pointer (some ⟨a, 0, none⟩)] w fun e w' => e = .returned (.tuple #[Flt.zero.val, .bool true]) ∧ IsHost w' hb (H.put 10 0) ∧ IsMem w' a pb M ∧ Upd [hb, pb] w w') ∧
    (M.canRow (H.get 10) (min (H.get 11) 16).toNat = false → Calls Try.prog 50 #[.pointer (some ⟨hb, 0, none⟩), .pointer (some ⟨a, 0, none⟩)] w fun e w' => (∃ F : Flt, True ∧ e = .returned (.tuple #[F.val, .bool false])) ∧ Upd [] w w') := by
  constructor
  · intro hk
    refine Do_can_ok H _ M _ hb a pb w h hm hne e17 (fun ab w1 hA => ?_)
    rw [e17]
    refine (touch_can H M ab hb a pb w1 hA).mono ?_
    rintro e w2 (⟨_, h1, h2, h3, h4⟩ | ⟨h0, _⟩)
    · exact ⟨h1, h2, h3, h4.mono (by simp)⟩
    · rw [hk] at h0; cases h0
  · intro hk
    refine Do_can_bad H M (fun _ => True) [] hb a pb w h hm hne e17 (by simp) (fun ab w1 hA => ?_)
    rw [e17]
    refine (touch_can H M ab hb a pb w1 hA).mono ?_
    rintro e w2 (⟨h0, _⟩ | ⟨_, ⟨F, h1⟩, h2⟩)
    · rw [hk] at h0; cases h0
    · exact ⟨⟨F, trivial, h1⟩, h2⟩
end Go.Proofs.Ytncafchgdgmeaaa
