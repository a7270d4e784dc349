/-
  Package helper: what stands behind a call: arg, two, must, answers, number, each by its contract. No condition.
-/
import Derived.Test.YtncafchgdgmeaaaHoA
import Derived.Test.YtncafchgdgmeaaaStF
namespace Go.Proofs.Ytncafchgdgmeaaa
open Go Go.RowKit
set_option linter.unusedVariables false
set_option linter.unusedSimpArgs false

/-- One that asks: its host, its memory. -/
structure IsAsk (w : World) (ab hb a : Nat) : Prop where
  h : w.heap[ab]? = some (.cells #[.pointer (some ⟨hb, 0, none⟩), .pointer (some ⟨a, 0, none⟩)] 139 (0, 0))
theorem IsAsk.keep {w w' : World} {ab hb a : Nat} {S : List Nat} (h : IsAsk w ab hb a) (u : Upd S w w') (hn : ab ∉ S) : IsAsk w' ab hb a := ⟨u.get h.h hn⟩

set_option maxRecDepth 100000 in
set_option maxHeartbeats 400000 in
theorem arg_any (H : Hs) (ab hb a : Nat) (i : Int) (hi : 0 ≤ i ∧ i ≤ 8) (w : World) (h : IsHost w hb H) (hA : IsAsk w ab hb a) :
    Calls Try.prog 110 #[.pointer (some ⟨ab, 0, none⟩), .int .i64 i] w fun e w' => e = .returned (.int .u32 (H.get (10 + i))) ∧ w = w' := by
  have c := cells_of hA.h
  have HH := Lib.hid h
  have q : wrap64 (10 + i) = 10 + i := by unfold wrap64; omega
  clear h hA
  go_enter Try.func110, Try.ntmps110
  go_wp2_with (go_at_call 44; refine (X_any H hb (10 + i) _ HH.out).mono ?_; rintro e w' ⟨rfl, rfl⟩)
  go_ret
  exact ⟨rfl, rfl⟩

/-- Two arguments as one number. -/
def Hs.two (H : Hs) (i : Int) : Int := H.get (10 + i) + H.get (11 + i) * 4294967296

set_option maxRecDepth 100000 in
set_option maxHeartbeats 400000 in
theorem two_any (H : Hs) (ab hb a : Nat) (i : Int) (hi : 0 ≤ i ∧ i ≤ 4) (w : World) (h : IsHost w hb H) (hA : IsAsk w ab hb a) :
    Calls Try.prog 100 #[.pointer (some ⟨ab, 0, none⟩), .int .i64 i] w fun e w' => e = .returned (.int .u64 (H.two i)) ∧ w = w' := by
  have HH := Lib.hid (And.intro h hA)
  have q : wrap64 (i + 1) = i + 1 := by unfold wrap64; omega
  have g1 := Hs.get_range h (10 + i)
  have g2 := Hs.get_range h (11 + i)
  have hj := join64 _ _ g1.1 g1.2 g2.1 g2.2
  have q3 : 10 + (i + 1) = 11 + i := by omega
  have q4 : H.get (11 + i) * 4294967296 % 18446744073709551616 = H.get (11 + i) * 4294967296 := by omega
  clear h hA
  have tok1 : True := trivial
  go_enter Try.func100, Try.ntmps100
  go_wp2_with (first | (have _t := tok1; clear _t; go_at_call 110; refine (arg_any H ab hb a i (by omega) _ HH.out.1 HH.out.2).mono ?_; rintro e w' ⟨rfl, rfl⟩; clear tok1) | (go_at_call 110; refine (arg_any H ab hb a (i + 1) (by omega) _ HH.out.1 HH.out.2).mono ?_; rintro e w' ⟨rfl, rfl⟩; rw [q3]))
  go_ret
  exact ⟨rfl, rfl⟩

theorem hmust_ok (F : Flt) (w : World) : Calls Try.prog 111 #[F.val, .bool true] w fun e w' => e = .returned (.tuple #[]) ∧ Upd [] w w' := by
  unfold Flt.val
  go_enter Try.func111, Try.ntmps111
  go_wp2
  go_end0
  exact ⟨rfl, (Upd.refl _ _).alloc _⟩

theorem hmust_bad (F : Flt) (w : World) : Calls Try.prog 111 #[F.val, .bool false] w fun e w' => e = .panicked [{ v := .iface 32 F.val, recovered := false }] ∧ Upd [] w w' := by
  unfold Flt.val
  go_enter Try.func111, Try.ntmps111
  go_wp2
  exact ⟨rfl, rfl, (Upd.refl _ _).alloc _⟩

set_option maxRecDepth 100000 in
set_option maxHeartbeats 400000 in
theorem answers_any (H : Hs) (ab hb a : Nat) (v : Int) (hv : 0 ≤ v ∧ v < 4294967296) (w : World) (h : IsHost w hb H) (hA : IsAsk w ab hb a) :
    Calls Try.prog 106 #[.pointer (some ⟨ab, 0, none⟩), .int .u32 v] w fun e w' => e = .returned (.tuple #[]) ∧ IsHost w' hb (H.put 10 v) ∧ Upd [hb] w w' := by
  have c := cells_of hA.h
  have HH := Lib.hid (And.intro h hv)
  clear h hA hv
  go_enter Try.func106, Try.ntmps106
  go_wp2_with (go_at_call 47; refine (SetX_any H hb 10 v _ HH.out.1 HH.out.2).mono ?_; rintro e w' ⟨rfl, h1, hu⟩; have H1 := Lib.hid (And.intro h1 hu); clear h1 hu)
  go_end0
  exact ⟨rfl, H1.out.1, H1.out.2⟩

set_option maxRecDepth 100000 in
set_option maxHeartbeats 400000 in
theorem number_any (H : Hs) (ab hb a : Nat) (v : Int) (hv : 0 ≤ v ∧ v < 18446744073709551616) (w : World) (h : IsHost w hb H) (hA : IsAsk w ab hb a) (hne : ab ≠ hb) :
    Calls Try.prog 101 #[.pointer (some ⟨ab, 0, none⟩), .int .u64 v] w fun e w' => e = .returned (.tuple #[]) ∧ IsHost w' hb ((H.put 10 (v % 4294967296)).put 11 (v / 4294967296)) ∧ Upd [hb] w w' := by
  have c := cells_of hA.h
  have HH := Lib.hid (And.intro h (And.intro hA hne))
  have q : v / 4294967296 % 4294967296 = v / 4294967296 := by omega
  have q1 := Lib.hid (show (0 ≤ v % 4294967296 ∧ v % 4294967296 < 4294967296) ∧ (0 ≤ v / 4294967296 ∧ v / 4294967296 < 4294967296) by omega)
  clear h hA hv hne
  have tok1 : True := trivial
  go_enter Try.func101, Try.ntmps101
  go_wp2_with (first | (have _t := tok1; clear _t; go_at_call 47; refine (SetX_any H hb 10 (v % 4294967296) _ HH.out.1 q1.out.1).mono ?_; rintro e w1 ⟨rfl, h1, hu⟩; have H1 := Lib.hid (And.intro h1 hu); clear h1 hu tok1 c; have c := cells_of (HH.out.2.1.keep H1.out.2 (by simpa using HH.out.2.2)).h) | (go_at_call 47; refine (SetX_any (H.put 10 (v % 4294967296)) hb 11 (v / 4294967296) _ H1.out.1 q1.out.2).mono ?_; rintro e w2 ⟨rfl, h1, hu⟩; have H2 := Lib.hid (And.intro h1 (H1.out.2.also hu (by simp))); clear h1 hu))
  go_end0
  exact ⟨rfl, H2.out.1, H2.out.2⟩
end Go.Proofs.Ytncafchgdgmeaaa
