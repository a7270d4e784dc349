/-
  Package page and the reference: what a step of the law PagePlays calls, each as one contract. No condition.
-/
import Derived.Test.YtncafchgdgmeaaaPyA
import Derived.Test.YtncafchgdgmeaaaPgU
namespace Go.Proofs.Ytncafchgdgmeaaa
open Go Go.RowKit
set_option linter.unusedVariables false
set_option linter.unusedSimpArgs false

theorem Map_any (M : Mem) (a pb : Nat) (p n r : Int) (w : World) (hM : IsMem w a pb M) (hn : -9223372036854775808 ≤ n) :
    Calls Try.prog 16 #[.pointer (some ⟨a, 0, none⟩), .int .i64 p, .int .i64 n, .int .i64 r] w fun e w' => e = .returned (.int .i64 (errI (M.mapB p n r) 61)) ∧ IsMem w' a pb (M.mapM p n r) ∧ Upd [pb] w w' := by
  cases h : M.mapB p n r
  · refine (Map_no M a pb p n r w hM hn h).mono ?_
    rintro e w' ⟨h1, h2⟩
    exact ⟨h1, by rw [Mem.mapM, h]; exact hM.keep h2 (by simp) (by simp), h2.mono (by simp)⟩
  · refine (Map_yes M a pb p n r w hM hn h).mono ?_
    rintro e w' ⟨h1, h2, h3⟩
    exact ⟨h1, by rw [Mem.mapM, h]; exact h2, h3⟩

theorem Unmap_any (M : Mem) (a pb : Nat) (p n : Int) (w : World) (hM : IsMem w a pb M) (hn : -9223372036854775808 ≤ n) :
    Calls Try.prog 27 #[.pointer (some ⟨a, 0, none⟩), .int .i64 p, .int .i64 n] w fun e w' => e = .returned (.int .i64 (errI (M.unmapB p n) 61)) ∧ IsMem w' a pb (M.unmapM p n) ∧ Upd [pb] w w' := by
  cases h : M.unmapB p n
  · refine (Unmap_no M a pb p n w hM hn h).mono ?_
    rintro e w' ⟨h1, h2⟩
    exact ⟨h1, by rw [Mem.unmapM, h]; exact hM.keep h2 (by simp) (by simp), h2.mono (by simp)⟩
  · refine (Unmap_yes M a pb p n w hM hn h).mono ?_
    rintro e w' ⟨h1, h2, h3⟩
    exact ⟨h1, by rw [Mem.unmapM, h]; exact h2, h3⟩

theorem Protect_any (M : Mem) (a pb : Nat) (p n r : Int) (w : World) (hM : IsMem w a pb M) (hn : -9223372036854775808 ≤ n) :
    Calls Try.prog 66 #[.pointer (some ⟨a, 0, none⟩), .int .i64 p, .int .i64 n, .int .i64 r] w fun e w' => e = .returned (.int .i64 (errI (M.protB p n r) 61)) ∧ IsMem w' a pb (M.protM p n r) ∧ Upd [pb] w w' := by
  cases h : M.protB p n r
  · refine (Protect_no M a pb p n r w hM hn h).mono ?_
    rintro e w' ⟨h1, h2⟩
    exact ⟨h1, by rw [Mem.protM, h]; exact hM.keep h2 (by simp) (by simp), h2.mono (by simp)⟩
  · refine (Protect_yes M a pb p n r w hM hn h).mono ?_
    rintro e w' ⟨h1, h2, h3⟩
    exact ⟨h1, by rw [Mem.protM, h]; exact h2, h3⟩

theorem pokeB_nil (M : Mem) (x : Int) : M.pokeB x [] = true := by simp [Mem.pokeB]
theorem poke_nil' (M : Mem) (x : Int) : M.poke x [] = M := by unfold Mem.poke; split <;> rfl

set_option maxRecDepth 100000 in
set_option maxHeartbeats 1000000 in
theorem Poke_none (M : Mem) (a pb : Nat) (x : Int) (b : Option Addr) (c : Nat) (w : World) (hM : IsMem w a pb M) :
    Calls Try.prog 28 #[.pointer (some ⟨a, 0, none⟩), .int .u32 x, .slice b 0 c] w fun e w' => e = .returned (.int .i64 0) ∧ IsMem w' a pb M ∧ Upd [pb] w w' := by
  have HM := Lib.hid hM
  clear hM
  go_enter Try.func28, Try.ntmps28
  go_wp2_with fail
  go_loopw [7, 16] (fun _ i wr => i = .int .i64 0 ∧ w = wr) (fun _ _ _ => 0)
  case atStart => exact ⟨rfl, rfl⟩
  case round =>
    obtain ⟨rfl, rfl⟩ := hrel
    go_wp2_with fail
    go_loopw [8, 9, 10, 29] (fun _ _ _ i w2 => i = .int .i64 0 ∧ w = w2) (fun _ _ _ _ _ => 0)
    case atStart => exact ⟨rfl, rfl⟩
    case round =>
      obtain ⟨rfl, rfl⟩ := hrel
      go_wp2_with fail
      go_ret
      exact ⟨rfl, HM.out, Upd.refl _ _⟩

set_option maxRecDepth 100000 in
set_option maxHeartbeats 1000000 in
theorem Poke_none_ref (M : Mem) (r : Nat) (x : Int) (b : Option Addr) (c : Nat) (w : World) (hM : IsRef w r M) :
    Calls Try.prog 70 #[.pointer (some ⟨r, 0, none⟩), .int .u32 x, .slice b 0 c] w fun e w' => e = .returned (.int .i64 0) ∧ IsRef w' r M ∧ Upd [r] w w' := by
  have HM := Lib.hid hM
  clear hM
  go_enter Try.func70, Try.ntmps70
  go_wp2_with fail
  go_loopw [7] (fun i wr => i = .int .i64 0 ∧ w = wr) (fun _ _ => 0)
  case atStart => exact ⟨rfl, rfl⟩
  case round =>
    obtain ⟨rfl, rfl⟩ := hrel
    go_wp2_with fail
    go_loopw [8] (fun i w2 => i = .int .i64 0 ∧ w = w2) (fun _ _ => 0)
    case atStart => exact ⟨rfl, rfl⟩
    case round =>
      obtain ⟨rfl, rfl⟩ := hrel
      go_wp2_with fail
      go_ret
      exact ⟨rfl, HM.out, Upd.refl _ _⟩

theorem Poke0_any (M : Mem) (a pb : Nat) (x : Int) (v : Value) (l : List Int) (g : Nat) (w : World) (hM : IsMem w a pb M) (h0 : 0 ≤ x) (h1 : x < 4294967296) (hv : ByS0 w v l g) (hg : l ≠ [] → g ≠ pb) (hl : ∀ i, 0 ≤ l.getD i 0 ∧ l.getD i 0 ≤ 255) (hlen : l.length ≤ maxLen) :
    Calls Try.prog 28 #[.pointer (some ⟨a, 0, none⟩), .int .u32 x, v] w fun e w' => e = .returned (.int .i64 (errI (M.pokeB x l) 61)) ∧ IsMem w' a pb (M.poke x l) ∧ Upd [pb] w w' := by
  rcases hv with ⟨b, c, rfl, rfl⟩ | ⟨hne, _, hv⟩
  · rw [pokeB_nil, poke_nil']
    exact Poke_none M a pb x b c w hM
  · exact Poke_any M a pb x v l g w hM h0 h1 hv (hg hne) hl hlen

theorem Poke0_ref (M : Mem) (r : Nat) (x : Int) (v : Value) (l : List Int) (g : Nat) (w : World) (hM : IsRef w r M) (h0 : 0 ≤ x) (h1 : x < 4294967296) (hv : ByS0 w v l g) (hg : l ≠ [] → g ≠ r) (hl : ∀ i, 0 ≤ l.getD i 0 ∧ l.getD i 0 ≤ 255) (hlen : l.length ≤ 16384) :
    Calls Try.prog 70 #[.pointer (some ⟨r, 0, none⟩), .int .u32 x, v] w fun e w' => e = .returned (.int .i64 (errI (M.pokeB x l) 61)) ∧ IsRef w' r (M.poke x l) ∧ Upd [r] w w' := by
  rcases hv with ⟨b, c, rfl, rfl⟩ | ⟨hne, _, hv⟩
  · rw [pokeB_nil, poke_nil']
    exact Poke_none_ref M r x b c w hM
  · exact Poke_ref M r x v l g w hM h0 h1 hv (hg hne) hl hlen

end Go.Proofs.Ytncafchgdgmeaaa
