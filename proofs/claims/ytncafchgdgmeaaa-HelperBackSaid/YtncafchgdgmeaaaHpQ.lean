/-
  The law HelperBack: its calls, asked. No condition.
-/
import Derived.Test.YtncafchgdgmeaaaHpL
namespace Go.Proofs.Ytncafchgdgmeaaa
open Go Go.RowKit
set_option linter.unusedVariables false
set_option linter.unusedSimpArgs false

def askV (hb a : Nat) (n x y z t : Int) : Array Value := #[.agg #[.pointer (some ⟨hb, 0, none⟩), .pointer (some ⟨a, 0, none⟩)], .int .u32 n, .int .u32 x, .int .u32 y, .int .u32 z, .int .u32 t]

theorem askLay (H : Hs) (M : Mem) (hb a pb : Nat) (x y z : Int) (hr : R5 8 x y z 0) (w : World) (h : IsHost w hb H) (hm : IsMem w a pb M) (hne : hb ≠ a ∧ hb ≠ pb) (hk : M.canK x 8 2 = true) :
    Calls Try.prog 43 (askV hb a 8 x y z 0) w fun e w' => e = .returned (.bool true) ∧ (IsHost w' hb (H.ask 8 x y z 0) ∧ IsMem w' a pb (M.wr8M x (y + z * 4294967296))) ∧ Upd [hb, pb] w w' := by
  have g := H.ask_get 8 x y z 0
  have e2 : (H.ask 8 x y z 0).two 1 = y + z * 4294967296 := by rw [Hs.two, show (10 + 1 : Int) = 11 from rfl, show (11 + 1 : Int) = 12 from rfl, g.2.2.1, g.2.2.2.1]
  refine ask_any true H M (fun w' => IsHost w' hb (H.ask 8 x y z 0) ∧ IsMem w' a pb (M.wr8M x (y + z * 4294967296))) hb a pb 8 x y z 0 hr w h hm hne (fun _ _ u h => ⟨h.1.keep u (by simp), h.2.keep u (by simp) (by simp)⟩) (fun w2 h2 m2 => ?_)
  refine (Do_lay _ _ hb a pb w2 h2 m2 hne g.1 (by rw [g.2.1]; exact hk)).mono ?_
  rintro e w3 ⟨rfl, h3, h4, h5⟩
  rw [g.2.1, e2] at h4
  exact ⟨⟨_, rfl⟩, ⟨h3, h4⟩, h5⟩

theorem askNumber (H : Hs) (M : Mem) (hb a pb : Nat) (x : Int) (hr : R5 7 x 0 0 0) (w : World) (h : IsHost w hb H) (hm : IsMem w a pb M) (hne : hb ≠ a ∧ hb ≠ pb) (hk : M.rd8K x = true) :
    Calls Try.prog 43 (askV hb a 7 x 0 0 0) w fun e w' => e = .returned (.bool true) ∧ (IsHost w' hb (((H.ask 7 x 0 0 0).put 10 (M.rd8V x % 4294967296)).put 11 (M.rd8V x / 4294967296)) ∧ IsMem w' a pb M) ∧ Upd [hb, pb] w w' := by
  have g := H.ask_get 7 x 0 0 0
  refine ask_any true H M (fun w' => IsHost w' hb (((H.ask 7 x 0 0 0).put 10 (M.rd8V x % 4294967296)).put 11 (M.rd8V x / 4294967296)) ∧ IsMem w' a pb M) hb a pb 7 x 0 0 0 hr w h hm hne (fun _ _ u h => ⟨h.1.keep u (by simp), h.2.keep u (by simp) (by simp)⟩) (fun w2 h2 m2 => ?_)
  refine (Do_number _ _ hb a pb w2 h2 m2 hne g.1 (by rw [g.2.1]; exact hk)).mono ?_
  rintro e w3 ⟨rfl, h3, h4, h5⟩
  rw [g.2.1] at h3
  exact ⟨⟨_, rfl⟩, ⟨h3, h4⟩, h5⟩

theorem askStore (H : Hs) (M : Mem) (hb a pb : Nat) (x y : Int) (hr : R5 3 x y 0 0) (w : World) (h : IsHost w hb H) (hm : IsMem w a pb M) (hne : hb ≠ a ∧ hb ≠ pb) (hk : M.writeK x 4 = true) :
    Calls Try.prog 43 (askV hb a 3 x y 0 0) w fun e w' => e = .returned (.bool true) ∧ (IsHost w' hb (H.ask 3 x y 0 0) ∧ IsMem w' a pb (M.writeM x 4 y)) ∧ Upd [hb, pb] w w' := by
  have g := H.ask_get 3 x y 0 0
  refine ask_any true H M (fun w' => IsHost w' hb (H.ask 3 x y 0 0) ∧ IsMem w' a pb (M.writeM x 4 y)) hb a pb 3 x y 0 0 hr w h hm hne (fun _ _ u h => ⟨h.1.keep u (by simp), h.2.keep u (by simp) (by simp)⟩) (fun w2 h2 m2 => ?_)
  refine (Do_store4 _ _ hb a pb w2 h2 m2 hne g.1 (by rw [g.2.1]; exact hk)).mono ?_
  rintro e w3 ⟨rfl, h3, h4, h5⟩
  rw [g.2.1, g.2.2.1] at h4
  exact ⟨⟨_, rfl⟩, ⟨h3, h4⟩, h5⟩

theorem askLoad (H : Hs) (M : Mem) (hb a pb : Nat) (x : Int) (hr : R5 1 x 0 0 0) (w : World) (h : IsHost w hb H) (hm : IsMem w a pb M) (hne : hb ≠ a ∧ hb ≠ pb) (hk : M.readK x 4 1 = true) :
    Calls Try.prog 43 (askV hb a 1 x 0 0 0) w fun e w' => e = .returned (.bool true) ∧ (IsHost w' hb ((H.ask 1 x 0 0 0).put 10 (M.readV x 4 1)) ∧ IsMem w' a pb M) ∧ Upd [hb, pb] w w' := by
  have g := H.ask_get 1 x 0 0 0
  refine ask_any true H M (fun w' => IsHost w' hb ((H.ask 1 x 0 0 0).put 10 (M.readV x 4 1)) ∧ IsMem w' a pb M) hb a pb 1 x 0 0 0 hr w h hm hne (fun _ _ u h => ⟨h.1.keep u (by simp), h.2.keep u (by simp) (by simp)⟩) (fun w2 h2 m2 => ?_)
  refine (Do_load4 _ _ hb a pb w2 h2 m2 hne g.1 (by rw [g.2.1]; exact hk)).mono ?_
  rintro e w3 ⟨rfl, h3, h4, h5⟩
  rw [g.2.1] at h3
  exact ⟨⟨_, rfl⟩, ⟨h3, h4⟩, h5⟩

theorem askLoad1 (H : Hs) (M : Mem) (hb a pb : Nat) (x : Int) (hr : R5 2 x 0 0 0) (w : World) (h : IsHost w hb H) (hm : IsMem w a pb M) (hne : hb ≠ a ∧ hb ≠ pb) (hk : M.readK x 1 1 = true) :
    Calls Try.prog 43 (askV hb a 2 x 0 0 0) w fun e w' => e = .returned (.bool true) ∧ (IsHost w' hb ((H.ask 2 x 0 0 0).put 10 (M.readV x 1 1)) ∧ IsMem w' a pb M) ∧ Upd [hb, pb] w w' := by
  have g := H.ask_get 2 x 0 0 0
  refine ask_any true H M (fun w' => IsHost w' hb ((H.ask 2 x 0 0 0).put 10 (M.readV x 1 1)) ∧ IsMem w' a pb M) hb a pb 2 x 0 0 0 hr w h hm hne (fun _ _ u h => ⟨h.1.keep u (by simp), h.2.keep u (by simp) (by simp)⟩) (fun w2 h2 m2 => ?_)
  refine (Do_load1 _ _ hb a pb w2 h2 m2 hne g.1 (by rw [g.2.1]; exact hk)).mono ?_
  rintro e w3 ⟨rfl, h3, h4, h5⟩
  rw [g.2.1] at h3
  exact ⟨⟨_, rfl⟩, ⟨h3, h4⟩, h5⟩

theorem askBad (H : Hs) (M : Mem) (hb a pb : Nat) (x y : Int) (hr : R5 4 x y 0 0) (w : World) (h : IsHost w hb H) (hm : IsMem w a pb M) (hne : hb ≠ a ∧ hb ≠ pb) (hk : M.writeK x 1 = false) :
    Calls Try.prog 43 (askV hb a 4 x y 0 0) w fun e w' => e = .returned (.bool false) ∧ True ∧ Upd [hb, pb] w w' := by
  have g := H.ask_get 4 x y 0 0
  refine ask_any false H M (fun w' => True) hb a pb 4 x y 0 0 hr w h hm hne (fun _ _ u h => trivial) (fun w2 h2 m2 => ?_)
  refine (Do_store1_bad _ _ hb a pb w2 h2 m2 hne g.1 (by rw [g.2.1]; exact hk)).mono ?_
  rintro e w3 ⟨⟨F, _, rfl⟩, h5⟩
  exact ⟨⟨_, rfl⟩, trivial, h5.mono (by simp)⟩
end Go.Proofs.Ytncafchgdgmeaaa
