/-
  Package helper: Do, for every call. No condition.
-/
import Derived.Test.YtoplekfnghkkdaaMg14
import Derived.Test.YtoplekfnghkkdaaMg13
import Derived.Test.YtoplekfnghkkdaaMg07
import Derived.Test.YtoplekfnghkkdaaMg08
namespace Go.Proofs.Ytoplekfnghkkdaa
open Go Go.RowKit
set_option linter.unusedVariables false
set_option linter.unusedSimpArgs false

set_option maxRecDepth 100000 in
set_option maxHeartbeats 2000000 in
theorem Do2_low_ok (H H' : Hs) (M M' : Mem) (hb a pb : Nat) (w : World) (h : IsHost w hb H) (hm : IsMem w a pb M) (hne : hb ≠ a ∧ hb ≠ pb) (hn : H.get 17 < 9 ∧ H.get 17 ≠ 5 ∧ H.get 17 ≠ 6)
    (hc : ∀ ab w1, As w1 ab hb a pb H M → Calls Try.prog 61 #[.pointer (some ⟨ab, 0, none⟩), .int .u32 (H.get 17)] w1 fun e w' => e = .returned (.tuple #[]) ∧ IsHost w' hb H' ∧ IsMem w' a pb M' ∧ Upd [hb, pb] w1 w') :
    Calls Try.prog 23 #[.pointer (some ⟨hb, 0, none⟩), .pointer (some ⟨a, 0, none⟩)] w fun e w' => e = .returned (.tuple #[Flt.zero.val, .bool true]) ∧ IsHost w' hb H' ∧ IsMem w' a pb M' ∧ Upd [hb, pb] w w' := by
  have HB := Lib.hid (DoB.start h hm hne)
  have HL := Lib.hid (show hb < w.heap.size ∧ a < w.heap.size ∧ pb < w.heap.size from ⟨h.lt, hm.al, hm.pl⟩)
  have e1 : decide (9 ≤ H.get 17) = false := by rw [decide_eq_false_iff_not]; omega
  have e2 : (H.get 17 == 5) = false := by simpa using hn.2.1
  have e3 : (H.get 17 == 6) = false := by simpa using hn.2.2
  clear h hm hne hn
  have tok : True := trivial
  go_enter_defers Try.func23, Try.ntmps23
  go_wp2_with (first | (go_at_call 25; refine (X_any H hb 17 _ HB.out.s.h).mono ?_; rintro e w' ⟨rfl, rfl⟩) | (go_at_call 61; refine (hc (w.heap.size + 1 + 1) _ HB.out.s).mono ?_; rintro e w3 ⟨rfl, h1, h2, h3⟩; have G3 := Lib.hid (And.intro h1 (And.intro h2 (show FkB [hb, pb] w Flt.zero false w3 from ⟨h3.get HB.out.f (by have := HL.out; simp; omega), h3.get HB.out.k (by have := HL.out; simp; omega), (HB.out.u.mono (by simp)).also h3 (by simp)⟩))); clear h1 h2 h3; have cf := cells_of G3.out.2.2.f; have ff := free_of G3.out.2.2.f; have ck := cells_of G3.out.2.2.k; have fk := free_of G3.out.2.2.k))
  have HE := G3.out.2.2.st Flt.zero true
  have hE : Upd [w.heap.size, w.heap.size + 1] w3 (((((w3.setCell ⟨w.heap.size, 0, none⟩ (.int .i64 Flt.zero.k)).setCell ⟨w.heap.size, 0 + 1, none⟩ (.int .u32 Flt.zero.pc)).setCell ⟨w.heap.size, 0 + 2, none⟩ (.int .u32 Flt.zero.a)).setCell ⟨w.heap.size, 0 + 3, none⟩ (.int .i64 Flt.zero.wt)).setCell ⟨w.heap.size + 1, 0, none⟩ (.bool true)) :=
    (Upd_store4 (b := w.heap.size) (Upd.refl _ w3) (.inl (by simp)) _ _ _ _).setCell (.inl (by simp)) _
  refine hdoor_ret (.tuple #[Flt.zero.val, .bool true]) ?_ ⟨rfl, G3.out.1.keep hE (by have := HL.out; simp; omega), G3.out.2.1.keep hE (by have := HL.out; simp; omega) (by have := HL.out; simp; omega), HE.u⟩
  exact results_two' rfl (res_flt 4 w.heap.size Flt.zero rfl HE.f) (res_bool 5 (w.heap.size + 1) true rfl HE.k)

set_option maxRecDepth 100000 in
set_option maxHeartbeats 2000000 in
theorem Do2_low_bad (H : Hs) (M : Mem) (F : Flt) (hb a pb : Nat) (w : World) (h : IsHost w hb H) (hm : IsMem w a pb M) (hne : hb ≠ a ∧ hb ≠ pb) (hn : H.get 17 < 9 ∧ H.get 17 ≠ 5 ∧ H.get 17 ≠ 6)
    (hc : ∀ ab w1, As w1 ab hb a pb H M → Calls Try.prog 61 #[.pointer (some ⟨ab, 0, none⟩), .int .u32 (H.get 17)] w1 fun e w' => e = .panicked [{ v := .iface 49 F.val, recovered := false }] ∧ IsHost w' hb H ∧ IsMem w' a pb M ∧ Upd [pb] w1 w') :
    Calls Try.prog 23 #[.pointer (some ⟨hb, 0, none⟩), .pointer (some ⟨a, 0, none⟩)] w fun e w' => e = .returned (.tuple #[F.val, .bool false]) ∧ IsHost w' hb H ∧ IsMem w' a pb M ∧ Upd [hb, pb] w w' := by
  have HB := Lib.hid (DoB.start h hm hne)
  have HL := Lib.hid (show hb < w.heap.size ∧ a < w.heap.size ∧ pb < w.heap.size from ⟨h.lt, hm.al, hm.pl⟩)
  have e1 : decide (9 ≤ H.get 17) = false := by rw [decide_eq_false_iff_not]; omega
  have e2 : (H.get 17 == 5) = false := by simpa using hn.2.1
  have e3 : (H.get 17 == 6) = false := by simpa using hn.2.2
  clear h hm hne hn
  go_enter_defers Try.func23, Try.ntmps23
  go_wp2_with (first | (go_at_call 25; refine (X_any H hb 17 _ HB.out.s.h).mono ?_; rintro e w' ⟨rfl, rfl⟩) | (go_at_call 61; refine (hc (w.heap.size + 1 + 1) _ HB.out.s).mono ?_; rintro e w3 ⟨rfl, h1, h2, h3⟩; have G3 := Lib.hid (And.intro h1 (And.intro h2 (show FkB [pb] w Flt.zero false w3 from ⟨h3.get HB.out.f (by have := HL.out; simp; omega), h3.get HB.out.k (by have := HL.out; simp; omega), (HB.out.u.mono (T := [pb]) (by simp)).also h3 (fun x hx => .inl hx)⟩))); clear h1 h2 h3))
  refine hdoor_panic (fb := w.heap.size) (kb := w.heap.size + 1) F (.tuple #[F.val, .bool false]) (fun w9 hf hk hU => ?_) G3.out.2.2.f G3.out.2.2.k (by omega) (fun w9 hU => ?_)
  · exact results_two' rfl (res_flt 4 w.heap.size _ rfl hf) (res_bool 5 (w.heap.size + 1) _ rfl hk)
  · exact ⟨rfl, G3.out.1.keep hU (by have := HL.out; simp; omega), G3.out.2.1.keep hU (by have := HL.out; simp; omega) (by have := HL.out; simp; omega), (G3.out.2.2.u.mono (T := [hb, pb]) (by simp)).also hU (by simp <;> omega)⟩

set_option maxRecDepth 100000 in
set_option maxHeartbeats 2000000 in
theorem Do2_high_ok (H H' : Hs) (M M' : Mem) (hb a pb : Nat) (w : World) (h : IsHost w hb H) (hm : IsMem w a pb M) (hne : hb ≠ a ∧ hb ≠ pb) (hn : 14 ≤ H.get 17)
    (hc : ∀ ab w1, As w1 ab hb a pb H M → Calls Try.prog 61 #[.pointer (some ⟨ab, 0, none⟩), .int .u32 (H.get 17)] w1 fun e w' => e = .returned (.tuple #[]) ∧ IsHost w' hb H' ∧ IsMem w' a pb M' ∧ Upd [hb, pb] w1 w') :
    Calls Try.prog 23 #[.pointer (some ⟨hb, 0, none⟩), .pointer (some ⟨a, 0, none⟩)] w fun e w' => e = .returned (.tuple #[Flt.zero.val, .bool true]) ∧ IsHost w' hb H' ∧ IsMem w' a pb M' ∧ Upd [hb, pb] w w' := by
  have HB := Lib.hid (DoB.start h hm hne)
  have HL := Lib.hid (show hb < w.heap.size ∧ a < w.heap.size ∧ pb < w.heap.size from ⟨h.lt, hm.al, hm.pl⟩)
  have e1 : decide (9 ≤ H.get 17) = true := by rw [decide_eq_true_eq]; omega
  have e2 : (H.get 17 == 5) = false := by simp; omega
  have e3 : (H.get 17 == 6) = false := by simp; omega
  have e4 : decide (H.get 17 ≤ 13) = false := by rw [decide_eq_false_iff_not]; omega
  clear h hm hne hn
  have tok : True := trivial
  go_enter_defers Try.func23, Try.ntmps23
  go_wp2_with (first | (go_at_call 25; refine (X_any H hb 17 _ HB.out.s.h).mono ?_; rintro e w' ⟨rfl, rfl⟩) | (go_at_call 61; refine (hc (w.heap.size + 1 + 1) _ HB.out.s).mono ?_; rintro e w3 ⟨rfl, h1, h2, h3⟩; have G3 := Lib.hid (And.intro h1 (And.intro h2 (show FkB [hb, pb] w Flt.zero false w3 from ⟨h3.get HB.out.f (by have := HL.out; simp; omega), h3.get HB.out.k (by have := HL.out; simp; omega), (HB.out.u.mono (by simp)).also h3 (by simp)⟩))); clear h1 h2 h3; have cf := cells_of G3.out.2.2.f; have ff := free_of G3.out.2.2.f; have ck := cells_of G3.out.2.2.k; have fk := free_of G3.out.2.2.k))
  have HE := G3.out.2.2.st Flt.zero true
  have hE : Upd [w.heap.size, w.heap.size + 1] w3 (((((w3.setCell ⟨w.heap.size, 0, none⟩ (.int .i64 Flt.zero.k)).setCell ⟨w.heap.size, 0 + 1, none⟩ (.int .u32 Flt.zero.pc)).setCell ⟨w.heap.size, 0 + 2, none⟩ (.int .u32 Flt.zero.a)).setCell ⟨w.heap.size, 0 + 3, none⟩ (.int .i64 Flt.zero.wt)).setCell ⟨w.heap.size + 1, 0, none⟩ (.bool true)) :=
    (Upd_store4 (b := w.heap.size) (Upd.refl _ w3) (.inl (by simp)) _ _ _ _).setCell (.inl (by simp)) _
  refine hdoor_ret (.tuple #[Flt.zero.val, .bool true]) ?_ ⟨rfl, G3.out.1.keep hE (by have := HL.out; simp; omega), G3.out.2.1.keep hE (by have := HL.out; simp; omega) (by have := HL.out; simp; omega), HE.u⟩
  exact results_two' rfl (res_flt 4 w.heap.size Flt.zero rfl HE.f) (res_bool 5 (w.heap.size + 1) true rfl HE.k)

set_option maxRecDepth 100000 in
set_option maxHeartbeats 2000000 in
theorem Do2_high_bad (H : Hs) (M : Mem) (F : Flt) (hb a pb : Nat) (w : World) (h : IsHost w hb H) (hm : IsMem w a pb M) (hne : hb ≠ a ∧ hb ≠ pb) (hn : 14 ≤ H.get 17)
    (hc : ∀ ab w1, As w1 ab hb a pb H M → Calls Try.prog 61 #[.pointer (some ⟨ab, 0, none⟩), .int .u32 (H.get 17)] w1 fun e w' => e = .panicked [{ v := .iface 49 F.val, recovered := false }] ∧ IsHost w' hb H ∧ IsMem w' a pb M ∧ Upd [pb] w1 w') :
    Calls Try.prog 23 #[.pointer (some ⟨hb, 0, none⟩), .pointer (some ⟨a, 0, none⟩)] w fun e w' => e = .returned (.tuple #[F.val, .bool false]) ∧ IsHost w' hb H ∧ IsMem w' a pb M ∧ Upd [hb, pb] w w' := by
  have HB := Lib.hid (DoB.start h hm hne)
  have HL := Lib.hid (show hb < w.heap.size ∧ a < w.heap.size ∧ pb < w.heap.size from ⟨h.lt, hm.al, hm.pl⟩)
  have e1 : decide (9 ≤ H.get 17) = true := by rw [decide_eq_true_eq]; omega
  have e2 : (H.get 17 == 5) = false := by simp; omega
  have e3 : (H.get 17 == 6) = false := by simp; omega
  have e4 : decide (H.get 17 ≤ 13) = false := by rw [decide_eq_false_iff_not]; omega
  clear h hm hne hn
  go_enter_defers Try.func23, Try.ntmps23
  go_wp2_with (first | (go_at_call 25; refine (X_any H hb 17 _ HB.out.s.h).mono ?_; rintro e w' ⟨rfl, rfl⟩) | (go_at_call 61; refine (hc (w.heap.size + 1 + 1) _ HB.out.s).mono ?_; rintro e w3 ⟨rfl, h1, h2, h3⟩; have G3 := Lib.hid (And.intro h1 (And.intro h2 (show FkB [pb] w Flt.zero false w3 from ⟨h3.get HB.out.f (by have := HL.out; simp; omega), h3.get HB.out.k (by have := HL.out; simp; omega), (HB.out.u.mono (T := [pb]) (by simp)).also h3 (fun x hx => .inl hx)⟩))); clear h1 h2 h3))
  refine hdoor_panic (fb := w.heap.size) (kb := w.heap.size + 1) F (.tuple #[F.val, .bool false]) (fun w9 hf hk hU => ?_) G3.out.2.2.f G3.out.2.2.k (by omega) (fun w9 hU => ?_)
  · exact results_two' rfl (res_flt 4 w.heap.size _ rfl hf) (res_bool 5 (w.heap.size + 1) _ rfl hk)
  · exact ⟨rfl, G3.out.1.keep hU (by have := HL.out; simp; omega), G3.out.2.1.keep hU (by have := HL.out; simp; omega) (by have := HL.out; simp; omega), (G3.out.2.2.u.mono (T := [hb, pb]) (by simp)).also hU (by simp <;> omega)⟩

set_option maxRecDepth 100000 in
set_option maxHeartbeats 2000000 in
theorem Do2_five_ok (H H' : Hs) (M M' : Mem) (hb a pb : Nat) (w : World) (h : IsHost w hb H) (hm : IsMem w a pb M) (hne : hb ≠ a ∧ hb ≠ pb) (hn : H.get 17 = 5)
    (hc : ∀ ab w1, As w1 ab hb a pb H M → Calls Try.prog 60 #[.pointer (some ⟨ab, 0, none⟩), .int .u32 (H.get 17)] w1 fun e w' => e = .returned (.tuple #[]) ∧ IsHost w' hb H' ∧ IsMem w' a pb M' ∧ Upd [hb, pb] w1 w') :
    Calls Try.prog 23 #[.pointer (some ⟨hb, 0, none⟩), .pointer (some ⟨a, 0, none⟩)] w fun e w' => e = .returned (.tuple #[Flt.zero.val, .bool true]) ∧ IsHost w' hb H' ∧ IsMem w' a pb M' ∧ Upd [hb, pb] w w' := by
  have HB := Lib.hid (DoB.start h hm hne)
  have HL := Lib.hid (show hb < w.heap.size ∧ a < w.heap.size ∧ pb < w.heap.size from ⟨h.lt, hm.al, hm.pl⟩)
  have e1 : decide (9 ≤ H.get 17) = false := by rw [decide_eq_false_iff_not]; omega
  have e2 : (H.get 17 == 5) = true := by rw [hn]; rfl
  clear h hm hne hn
  have tok : True := trivial
  go_enter_defers Try.func23, Try.ntmps23
  go_wp2_with (first | (go_at_call 25; refine (X_any H hb 17 _ HB.out.s.h).mono ?_; rintro e w' ⟨rfl, rfl⟩) | (go_at_call 60; refine (hc (w.heap.size + 1 + 1) _ HB.out.s).mono ?_; rintro e w3 ⟨rfl, h1, h2, h3⟩; have G3 := Lib.hid (And.intro h1 (And.intro h2 (show FkB [hb, pb] w Flt.zero false w3 from ⟨h3.get HB.out.f (by have := HL.out; simp; omega), h3.get HB.out.k (by have := HL.out; simp; omega), (HB.out.u.mono (by simp)).also h3 (by simp)⟩))); clear h1 h2 h3; have cf := cells_of G3.out.2.2.f; have ff := free_of G3.out.2.2.f; have ck := cells_of G3.out.2.2.k; have fk := free_of G3.out.2.2.k))
  have HE := G3.out.2.2.st Flt.zero true
  have hE : Upd [w.heap.size, w.heap.size + 1] w3 (((((w3.setCell ⟨w.heap.size, 0, none⟩ (.int .i64 Flt.zero.k)).setCell ⟨w.heap.size, 0 + 1, none⟩ (.int .u32 Flt.zero.pc)).setCell ⟨w.heap.size, 0 + 2, none⟩ (.int .u32 Flt.zero.a)).setCell ⟨w.heap.size, 0 + 3, none⟩ (.int .i64 Flt.zero.wt)).setCell ⟨w.heap.size + 1, 0, none⟩ (.bool true)) :=
    (Upd_store4 (b := w.heap.size) (Upd.refl _ w3) (.inl (by simp)) _ _ _ _).setCell (.inl (by simp)) _
  refine hdoor_ret (.tuple #[Flt.zero.val, .bool true]) ?_ ⟨rfl, G3.out.1.keep hE (by have := HL.out; simp; omega), G3.out.2.1.keep hE (by have := HL.out; simp; omega) (by have := HL.out; simp; omega), HE.u⟩
  exact results_two' rfl (res_flt 4 w.heap.size Flt.zero rfl HE.f) (res_bool 5 (w.heap.size + 1) true rfl HE.k)

set_option maxRecDepth 100000 in
set_option maxHeartbeats 2000000 in
theorem Do2_five_bad (H : Hs) (M : Mem) (F : Flt) (hb a pb : Nat) (w : World) (h : IsHost w hb H) (hm : IsMem w a pb M) (hne : hb ≠ a ∧ hb ≠ pb) (hn : H.get 17 = 5)
    (hc : ∀ ab w1, As w1 ab hb a pb H M → Calls Try.prog 60 #[.pointer (some ⟨ab, 0, none⟩), .int .u32 (H.get 17)] w1 fun e w' => e = .panicked [{ v := .iface 49 F.val, recovered := false }] ∧ IsHost w' hb H ∧ IsMem w' a pb M ∧ Upd [pb] w1 w') :
    Calls Try.prog 23 #[.pointer (some ⟨hb, 0, none⟩), .pointer (some ⟨a, 0, none⟩)] w fun e w' => e = .returned (.tuple #[F.val, .bool false]) ∧ IsHost w' hb H ∧ IsMem w' a pb M ∧ Upd [hb, pb] w w' := by
  have HB := Lib.hid (DoB.start h hm hne)
  have HL := Lib.hid (show hb < w.heap.size ∧ a < w.heap.size ∧ pb < w.heap.size from ⟨h.lt, hm.al, hm.pl⟩)
  have e1 : decide (9 ≤ H.get 17) = false := by rw [decide_eq_false_iff_not]; omega
  have e2 : (H.get 17 == 5) = true := by rw [hn]; rfl
  clear h hm hne hn
  go_enter_defers Try.func23, Try.ntmps23
  go_wp2_with (first | (go_at_call 25; refine (X_any H hb 17 _ HB.out.s.h).mono ?_; rintro e w' ⟨rfl, rfl⟩) | (go_at_call 60; refine (hc (w.heap.size + 1 + 1) _ HB.out.s).mono ?_; rintro e w3 ⟨rfl, h1, h2, h3⟩; have G3 := Lib.hid (And.intro h1 (And.intro h2 (show FkB [pb] w Flt.zero false w3 from ⟨h3.get HB.out.f (by have := HL.out; simp; omega), h3.get HB.out.k (by have := HL.out; simp; omega), (HB.out.u.mono (T := [pb]) (by simp)).also h3 (fun x hx => .inl hx)⟩))); clear h1 h2 h3))
  refine hdoor_panic (fb := w.heap.size) (kb := w.heap.size + 1) F (.tuple #[F.val, .bool false]) (fun w9 hf hk hU => ?_) G3.out.2.2.f G3.out.2.2.k (by omega) (fun w9 hU => ?_)
  · exact results_two' rfl (res_flt 4 w.heap.size _ rfl hf) (res_bool 5 (w.heap.size + 1) _ rfl hk)
  · exact ⟨rfl, G3.out.1.keep hU (by have := HL.out; simp; omega), G3.out.2.1.keep hU (by have := HL.out; simp; omega) (by have := HL.out; simp; omega), (G3.out.2.2.u.mono (T := [hb, pb]) (by simp)).also hU (by simp <;> omega)⟩

set_option maxRecDepth 100000 in
set_option maxHeartbeats 2000000 in
theorem Do2_six_ok (H H' : Hs) (M M' : Mem) (hb a pb : Nat) (w : World) (h : IsHost w hb H) (hm : IsMem w a pb M) (hne : hb ≠ a ∧ hb ≠ pb) (hn : H.get 17 = 6)
    (hc : ∀ ab w1, As w1 ab hb a pb H M → Calls Try.prog 60 #[.pointer (some ⟨ab, 0, none⟩), .int .u32 (H.get 17)] w1 fun e w' => e = .returned (.tuple #[]) ∧ IsHost w' hb H' ∧ IsMem w' a pb M' ∧ Upd [hb, pb] w1 w') :
    Calls Try.prog 23 #[.pointer (some ⟨hb, 0, none⟩), .pointer (some ⟨a, 0, none⟩)] w fun e w' => e = .returned (.tuple #[Flt.zero.val, .bool true]) ∧ IsHost w' hb H' ∧ IsMem w' a pb M' ∧ Upd [hb, pb] w w' := by
  have HB := Lib.hid (DoB.start h hm hne)
  have HL := Lib.hid (show hb < w.heap.size ∧ a < w.heap.size ∧ pb < w.heap.size from ⟨h.lt, hm.al, hm.pl⟩)
  have e1 : decide (9 ≤ H.get 17) = false := by rw [decide_eq_false_iff_not]; omega
  have e2 : (H.get 17 == 5) = false := by rw [hn]; rfl
  have e3 : (H.get 17 == 6) = true := by rw [hn]; rfl
  clear h hm hne hn
  have tok : True := trivial
  go_enter_defers Try.func23, Try.ntmps23
  go_wp2_with (first | (go_at_call 25; refine (X_any H hb 17 _ HB.out.s.h).mono ?_; rintro e w' ⟨rfl, rfl⟩) | (go_at_call 60; refine (hc (w.heap.size + 1 + 1) _ HB.out.s).mono ?_; rintro e w3 ⟨rfl, h1, h2, h3⟩; have G3 := Lib.hid (And.intro h1 (And.intro h2 (show FkB [hb, pb] w Flt.zero false w3 from ⟨h3.get HB.out.f (by have := HL.out; simp; omega), h3.get HB.out.k (by have := HL.out; simp; omega), (HB.out.u.mono (by simp)).also h3 (by simp)⟩))); clear h1 h2 h3; have cf := cells_of G3.out.2.2.f; have ff := free_of G3.out.2.2.f; have ck := cells_of G3.out.2.2.k; have fk := free_of G3.out.2.2.k))
  have HE := G3.out.2.2.st Flt.zero true
  have hE : Upd [w.heap.size, w.heap.size + 1] w3 (((((w3.setCell ⟨w.heap.size, 0, none⟩ (.int .i64 Flt.zero.k)).setCell ⟨w.heap.size, 0 + 1, none⟩ (.int .u32 Flt.zero.pc)).setCell ⟨w.heap.size, 0 + 2, none⟩ (.int .u32 Flt.zero.a)).setCell ⟨w.heap.size, 0 + 3, none⟩ (.int .i64 Flt.zero.wt)).setCell ⟨w.heap.size + 1, 0, none⟩ (.bool true)) :=
    (Upd_store4 (b := w.heap.size) (Upd.refl _ w3) (.inl (by simp)) _ _ _ _).setCell (.inl (by simp)) _
  refine hdoor_ret (.tuple #[Flt.zero.val, .bool true]) ?_ ⟨rfl, G3.out.1.keep hE (by have := HL.out; simp; omega), G3.out.2.1.keep hE (by have := HL.out; simp; omega) (by have := HL.out; simp; omega), HE.u⟩
  exact results_two' rfl (res_flt 4 w.heap.size Flt.zero rfl HE.f) (res_bool 5 (w.heap.size + 1) true rfl HE.k)

set_option maxRecDepth 100000 in
set_option maxHeartbeats 2000000 in
theorem Do2_six_bad (H : Hs) (M : Mem) (F : Flt) (hb a pb : Nat) (w : World) (h : IsHost w hb H) (hm : IsMem w a pb M) (hne : hb ≠ a ∧ hb ≠ pb) (hn : H.get 17 = 6)
    (hc : ∀ ab w1, As w1 ab hb a pb H M → Calls Try.prog 60 #[.pointer (some ⟨ab, 0, none⟩), .int .u32 (H.get 17)] w1 fun e w' => e = .panicked [{ v := .iface 49 F.val, recovered := false }] ∧ IsHost w' hb H ∧ IsMem w' a pb M ∧ Upd [pb] w1 w') :
    Calls Try.prog 23 #[.pointer (some ⟨hb, 0, none⟩), .pointer (some ⟨a, 0, none⟩)] w fun e w' => e = .returned (.tuple #[F.val, .bool false]) ∧ IsHost w' hb H ∧ IsMem w' a pb M ∧ Upd [hb, pb] w w' := by
  have HB := Lib.hid (DoB.start h hm hne)
  have HL := Lib.hid (show hb < w.heap.size ∧ a < w.heap.size ∧ pb < w.heap.size from ⟨h.lt, hm.al, hm.pl⟩)
  have e1 : decide (9 ≤ H.get 17) = false := by rw [decide_eq_false_iff_not]; omega
  have e2 : (H.get 17 == 5) = false := by rw [hn]; rfl
  have e3 : (H.get 17 == 6) = true := by rw [hn]; rfl
  clear h hm hne hn
  go_enter_defers Try.func23, Try.ntmps23
  go_wp2_with (first | (go_at_call 25; refine (X_any H hb 17 _ HB.out.s.h).mono ?_; rintro e w' ⟨rfl, rfl⟩) | (go_at_call 60; refine (hc (w.heap.size + 1 + 1) _ HB.out.s).mono ?_; rintro e w3 ⟨rfl, h1, h2, h3⟩; have G3 := Lib.hid (And.intro h1 (And.intro h2 (show FkB [pb] w Flt.zero false w3 from ⟨h3.get HB.out.f (by have := HL.out; simp; omega), h3.get HB.out.k (by have := HL.out; simp; omega), (HB.out.u.mono (T := [pb]) (by simp)).also h3 (fun x hx => .inl hx)⟩))); clear h1 h2 h3))
  refine hdoor_panic (fb := w.heap.size) (kb := w.heap.size + 1) F (.tuple #[F.val, .bool false]) (fun w9 hf hk hU => ?_) G3.out.2.2.f G3.out.2.2.k (by omega) (fun w9 hU => ?_)
  · exact results_two' rfl (res_flt 4 w.heap.size _ rfl hf) (res_bool 5 (w.heap.size + 1) _ rfl hk)
  · exact ⟨rfl, G3.out.1.keep hU (by have := HL.out; simp; omega), G3.out.2.1.keep hU (by have := HL.out; simp; omega) (by have := HL.out; simp; omega), (G3.out.2.2.u.mono (T := [hb, pb]) (by simp)).also hU (by simp <;> omega)⟩

set_option maxRecDepth 100000 in
set_option maxHeartbeats 2000000 in
theorem touch_none (H : Hs) (M : Mem) (n : Int) (ab hb a pb : Nat) (w : World) (h : As w ab hb a pb H M) (k1 : (n == 1) = false) (k2 : (n == 2) = false) (k3 : (n == 3) = false) (k4 : (n == 4) = false) (k7 : (n == 7) = false) (k8 : (n == 8) = false) (k14 : (n == 14) = false) :
    Calls Try.prog 61 #[.pointer (some ⟨ab, 0, none⟩), .int .u32 n] w fun e w' => e = .returned (.tuple #[]) ∧ IsHost w' hb H ∧ IsMem w' a pb M ∧ Upd [hb, pb] w w' := by
  have HH := Lib.hid h
  clear h
  go_enter Try.func61, Try.ntmps61
  go_wp2_with fail
  go_end0
  exact ⟨rfl, HH.out.h.keep ((Upd.refl [] _).alloc _) (by simp), HH.out.m.keep ((Upd.refl [] _).alloc _) (by simp) (by simp), ((Upd.refl _ _).alloc _)⟩

set_option maxRecDepth 100000 in
set_option maxHeartbeats 1000000 in
theorem reckons_add (H : Hs) (ab hb a : Nat) (w : World) (h : IsHost w hb H) (hA : IsAsk w ab hb a) (hne : ab ≠ hb) :
    Calls Try.prog 59 #[.pointer (some ⟨ab, 0, none⟩), .int .u32 9] w fun e w' => e = .returned (.tuple #[]) ∧ IsHost w' hb ((H.put 10 (flDo .add (H.two 0).toNat (H.two 2).toNat % 4294967296)).put 11 (flDo .add (H.two 0).toNat (H.two 2).toNat / 4294967296)) ∧ Upd [hb] w w' := by
  have HH := Lib.hid (And.intro h (And.intro hA hne))
  have gr := Lib.hid (flDo_range .add (H.two 0).toNat (H.two 2).toNat)
  clear h hA hne
  have tok0 : True := trivial
  have tok1 : True := trivial
  go_enter Try.func59, Try.ntmps59
  go_wp2_with (first | (have _t := tok0; clear _t; go_at_call 117; refine (two_any H ab hb a 0 (by decide) _ HH.out.1 HH.out.2.1).mono ?_; rintro e w' ⟨rfl, rfl⟩; clear tok0) | (have _t := tok1; clear _t; go_at_call 117; refine (two_any H ab hb a 2 (by decide) _ HH.out.1 HH.out.2.1).mono ?_; rintro e w' ⟨rfl, rfl⟩; clear tok1) | (go_at_call 119; refine (fl_Add (H.two 0) (H.two 2) _).mono ?_; rintro e w1 ⟨rfl, hu⟩; have U1 := Lib.hid hu; clear hu) | (go_at_call 118; refine (number_any H ab hb a _ gr.out _ (HH.out.1.keep U1.out (by simp)) (HH.out.2.1.keep U1.out (by simp)) HH.out.2.2).mono ?_; rintro e w2 ⟨rfl, h2, hu⟩; have H2 := Lib.hid (And.intro h2 ((U1.out.mono (T := [hb]) (by simp)).also hu (by simp))); clear h2 hu U1))
  go_end0
  exact ⟨rfl, H2.out.1, H2.out.2⟩

set_option maxRecDepth 100000 in
set_option maxHeartbeats 1000000 in
theorem reckons_mul (H : Hs) (ab hb a : Nat) (w : World) (h : IsHost w hb H) (hA : IsAsk w ab hb a) (hne : ab ≠ hb) :
    Calls Try.prog 59 #[.pointer (some ⟨ab, 0, none⟩), .int .u32 11] w fun e w' => e = .returned (.tuple #[]) ∧ IsHost w' hb ((H.put 10 (flDo .mul (H.two 0).toNat (H.two 2).toNat % 4294967296)).put 11 (flDo .mul (H.two 0).toNat (H.two 2).toNat / 4294967296)) ∧ Upd [hb] w w' := by
  have HH := Lib.hid (And.intro h (And.intro hA hne))
  have gr := Lib.hid (flDo_range .mul (H.two 0).toNat (H.two 2).toNat)
  clear h hA hne
  have tok0 : True := trivial
  have tok1 : True := trivial
  go_enter Try.func59, Try.ntmps59
  go_wp2_with (first | (have _t := tok0; clear _t; go_at_call 117; refine (two_any H ab hb a 0 (by decide) _ HH.out.1 HH.out.2.1).mono ?_; rintro e w' ⟨rfl, rfl⟩; clear tok0) | (have _t := tok1; clear _t; go_at_call 117; refine (two_any H ab hb a 2 (by decide) _ HH.out.1 HH.out.2.1).mono ?_; rintro e w' ⟨rfl, rfl⟩; clear tok1) | (go_at_call 121; refine (fl_Mul (H.two 0) (H.two 2) _).mono ?_; rintro e w1 ⟨rfl, hu⟩; have U1 := Lib.hid hu; clear hu) | (go_at_call 118; refine (number_any H ab hb a _ gr.out _ (HH.out.1.keep U1.out (by simp)) (HH.out.2.1.keep U1.out (by simp)) HH.out.2.2).mono ?_; rintro e w2 ⟨rfl, h2, hu⟩; have H2 := Lib.hid (And.intro h2 ((U1.out.mono (T := [hb]) (by simp)).also hu (by simp))); clear h2 hu U1))
  go_end0
  exact ⟨rfl, H2.out.1, H2.out.2⟩

set_option maxRecDepth 100000 in
set_option maxHeartbeats 1000000 in
theorem reckons_quo (H : Hs) (ab hb a : Nat) (w : World) (h : IsHost w hb H) (hA : IsAsk w ab hb a) (hne : ab ≠ hb) :
    Calls Try.prog 59 #[.pointer (some ⟨ab, 0, none⟩), .int .u32 12] w fun e w' => e = .returned (.tuple #[]) ∧ IsHost w' hb ((H.put 10 (flDo .quo (H.two 0).toNat (H.two 2).toNat % 4294967296)).put 11 (flDo .quo (H.two 0).toNat (H.two 2).toNat / 4294967296)) ∧ Upd [hb] w w' := by
  have HH := Lib.hid (And.intro h (And.intro hA hne))
  have gr := Lib.hid (flDo_range .quo (H.two 0).toNat (H.two 2).toNat)
  clear h hA hne
  have tok0 : True := trivial
  have tok1 : True := trivial
  go_enter Try.func59, Try.ntmps59
  go_wp2_with (first | (have _t := tok0; clear _t; go_at_call 117; refine (two_any H ab hb a 0 (by decide) _ HH.out.1 HH.out.2.1).mono ?_; rintro e w' ⟨rfl, rfl⟩; clear tok0) | (have _t := tok1; clear _t; go_at_call 117; refine (two_any H ab hb a 2 (by decide) _ HH.out.1 HH.out.2.1).mono ?_; rintro e w' ⟨rfl, rfl⟩; clear tok1) | (go_at_call 122; refine (fl_Div (H.two 0) (H.two 2) _).mono ?_; rintro e w1 ⟨rfl, hu⟩; have U1 := Lib.hid hu; clear hu) | (go_at_call 118; refine (number_any H ab hb a _ gr.out _ (HH.out.1.keep U1.out (by simp)) (HH.out.2.1.keep U1.out (by simp)) HH.out.2.2).mono ?_; rintro e w2 ⟨rfl, h2, hu⟩; have H2 := Lib.hid (And.intro h2 ((U1.out.mono (T := [hb]) (by simp)).also hu (by simp))); clear h2 hu U1))
  go_end0
  exact ⟨rfl, H2.out.1, H2.out.2⟩


/-- What a call of the helper makes: its host, its memory, its fault, whether it was done. -/
structure DoRes where
  H : Hs
  M : Mem
  F : Flt
  K : Bool

def two64 (H : Hs) (v : Int) : Hs := (H.put 10 (v % 4294967296)).put 11 (v / 4294967296)
def flOp (n : Int) : BinOp := if n = 9 then .add else if n = 10 then .sub else if n = 11 then .mul else .quo

def doRes (H : Hs) (M : Mem) : DoRes :=
  let n := H.get 17
  let x := H.get 10
  if n = 1 then (if M.readK x 4 1 then ⟨H.put 10 (M.readV x 4 1), M, Flt.zero, true⟩ else ⟨H, M, M.rdF x 4 1, false⟩)
  else if n = 2 then (if M.readK x 1 1 then ⟨H.put 10 (M.readV x 1 1), M, Flt.zero, true⟩ else ⟨H, M, M.rdF x 1 1, false⟩)
  else if n = 3 then (if M.writeK x 4 then ⟨H, M.writeM x 4 (H.get 11), Flt.zero, true⟩ else ⟨H, M, M.wrF x 4, false⟩)
  else if n = 4 then (if M.writeK x 1 then ⟨H, M.writeM x 1 (H.get 11), Flt.zero, true⟩ else ⟨H, M, M.wrF x 1, false⟩)
  else if n = 5 then (if divK x (H.get 11) (H.get 12) then ⟨(H.put 10 (divQ x (H.get 11) (H.get 12))).put 11 (divR x (H.get 11) (H.get 12)), M, Flt.zero, true⟩ else ⟨H, M, Flt.div, false⟩)
  else if n = 6 then (if sgK x (H.get 11) (H.get 12) then ⟨(H.put 10 (sgQ x (H.get 11) (H.get 12))).put 11 (sgR x (H.get 11) (H.get 12)), M, Flt.zero, true⟩ else ⟨H, M, Flt.div, false⟩)
  else if n = 7 then (if M.rd8K x then ⟨two64 H (M.rd8V x), M, Flt.zero, true⟩ else ⟨H, M, M.rd8F x, false⟩)
  else if n = 8 then (if M.canK x 8 2 then ⟨H, M.wr8M x (H.two 1), Flt.zero, true⟩ else ⟨H, M, M.canF x 8 2, false⟩)
  else if 9 ≤ n ∧ n ≤ 12 then ⟨two64 H (flDo (flOp n) (H.two 0).toNat (H.two 2).toNat), M, Flt.zero, true⟩
  else if n = 13 then ⟨H.put 10 (cmpT (cmpZ (H.two 0).toNat (H.two 2).toNat) (cmpP (H.two 0).toNat (H.two 2).toNat) (cmpC (H.two 0).toNat (H.two 2).toNat) 4), M, Flt.zero, true⟩
  else if n = 14 then (if M.canK x (min (H.get 11) 16).toNat 3 then ⟨H.put 10 0, M, Flt.zero, true⟩ else ⟨H, M, M.canF x (min (H.get 11) 16).toNat 3, false⟩)
  else ⟨H, M, Flt.zero, true⟩

theorem Do_all (H : Hs) (M : Mem) (hb a pb : Nat) (w : World) (h : IsHost w hb H) (hm : IsMem w a pb M) (hne : hb ≠ a ∧ hb ≠ pb) :
    Calls Try.prog 23 #[.pointer (some ⟨hb, 0, none⟩), .pointer (some ⟨a, 0, none⟩)] w fun e w' => e = .returned (.tuple #[(doRes H M).F.val, .bool (doRes H M).K]) ∧ IsHost w' hb (doRes H M).H ∧ IsMem w' a pb (doRes H M).M ∧ Upd [hb, pb] w w' := by
  have keepM : ∀ {w1 w' : World}, IsMem w1 a pb M → Upd [hb] w1 w' → IsMem w' a pb M := fun hm hu => hm.keep hu (by simpa using fun e => hne.1 e.symm) (by simpa using fun e => hne.2 e.symm)
  have none_bad : ∀ {w1 w' : World} {ab : Nat}, As w1 ab hb a pb H M → Upd [] w1 w' → IsHost w' hb H ∧ IsMem w' a pb M ∧ Upd [pb] w1 w' := fun hA hu => ⟨hA.h.keep hu (by simp), hA.m.keep hu (by simp) (by simp), hu.mono (by simp)⟩
  by_cases c1 : H.get 17 = 1
  · cases hk : M.readK (H.get 10) 4 1
    · rw [show doRes H M = ⟨H, M, M.rdF (H.get 10) 4 1, false⟩ from by simp [doRes, c1, hk]]
      exact Do2_low_bad H M _ hb a pb w h hm hne ⟨by omega, by omega, by omega⟩ (fun ab w1 hA => by rw [c1]; exact (touch_load4_bad H M ab hb a pb w1 hA hk).mono fun e w2 ⟨h1, h2⟩ => ⟨h1, none_bad hA h2⟩)
    · rw [show doRes H M = ⟨H.put 10 (M.readV (H.get 10) 4 1), M, Flt.zero, true⟩ from by simp [doRes, two64, c1, hk]]
      exact Do2_low_ok H _ M _ hb a pb w h hm hne ⟨by omega, by omega, by omega⟩ (fun ab w1 hA => by rw [c1]; exact touch_load4_ok H M ab hb a pb w1 hA hk)
  by_cases c2 : H.get 17 = 2
  · cases hk : M.readK (H.get 10) 1 1
    · rw [show doRes H M = ⟨H, M, M.rdF (H.get 10) 1 1, false⟩ from by simp [doRes, c2, hk]]
      exact Do2_low_bad H M _ hb a pb w h hm hne ⟨by omega, by omega, by omega⟩ (fun ab w1 hA => by rw [c2]; exact (touch_load1_bad H M ab hb a pb w1 hA hk).mono fun e w2 ⟨h1, h2⟩ => ⟨h1, none_bad hA h2⟩)
    · rw [show doRes H M = ⟨H.put 10 (M.readV (H.get 10) 1 1), M, Flt.zero, true⟩ from by simp [doRes, two64, c2, hk]]
      exact Do2_low_ok H _ M _ hb a pb w h hm hne ⟨by omega, by omega, by omega⟩ (fun ab w1 hA => by rw [c2]; exact touch_load1_ok H M ab hb a pb w1 hA hk)
  by_cases c3 : H.get 17 = 3
  · cases hk : M.writeK (H.get 10) 4
    · rw [show doRes H M = ⟨H, M, M.wrF (H.get 10) 4, false⟩ from by simp [doRes, c3, hk]]
      exact Do2_low_bad H M _ hb a pb w h hm hne ⟨by omega, by omega, by omega⟩ (fun ab w1 hA => by rw [c3]; exact touch_store4_bad H M ab hb a pb w1 hA hk)
    · rw [show doRes H M = ⟨H, M.writeM (H.get 10) 4 (H.get 11), Flt.zero, true⟩ from by simp [doRes, two64, c3, hk]]
      exact Do2_low_ok H _ M _ hb a pb w h hm hne ⟨by omega, by omega, by omega⟩ (fun ab w1 hA => by rw [c3]; exact touch_store4_ok H M ab hb a pb w1 hA hk)
  by_cases c4 : H.get 17 = 4
  · cases hk : M.writeK (H.get 10) 1
    · rw [show doRes H M = ⟨H, M, M.wrF (H.get 10) 1, false⟩ from by simp [doRes, c4, hk]]
      exact Do2_low_bad H M _ hb a pb w h hm hne ⟨by omega, by omega, by omega⟩ (fun ab w1 hA => by rw [c4]; exact touch_store1_bad2 H M ab hb a pb w1 hA hk)
    · rw [show doRes H M = ⟨H, M.writeM (H.get 10) 1 (H.get 11), Flt.zero, true⟩ from by simp [doRes, two64, c4, hk]]
      exact Do2_low_ok H _ M _ hb a pb w h hm hne ⟨by omega, by omega, by omega⟩ (fun ab w1 hA => by rw [c4]; exact touch_store1_ok H M ab hb a pb w1 hA hk)
  by_cases c5 : H.get 17 = 5
  · cases hk : divK (H.get 10) (H.get 11) (H.get 12)
    · rw [show doRes H M = ⟨H, M, Flt.div, false⟩ from by simp [doRes, c5, hk]]
      exact Do2_five_bad H M _ hb a pb w h hm hne c5 (fun ab w1 hA => by rw [c5]; exact (divides_bad H ab hb a w1 hA.h hA.k hk).mono fun e w2 ⟨h1, h2⟩ => ⟨h1, none_bad hA h2⟩)
    · rw [show doRes H M = ⟨(H.put 10 (divQ (H.get 10) (H.get 11) (H.get 12))).put 11 (divR (H.get 10) (H.get 11) (H.get 12)), M, Flt.zero, true⟩ from by simp [doRes, two64, c5, hk]]
      exact Do2_five_ok H _ M _ hb a pb w h hm hne c5 (fun ab w1 hA => by rw [c5]; exact (divides_ok H ab hb a w1 hA.h hA.k hA.n.1 hk).mono fun e w2 ⟨h1, h2, h3⟩ => ⟨h1, h2, keepM hA.m h3, h3.mono (by simp)⟩)
  by_cases c6 : H.get 17 = 6
  · cases hk : sgK (H.get 10) (H.get 11) (H.get 12)
    · rw [show doRes H M = ⟨H, M, Flt.div, false⟩ from by simp [doRes, c6, hk]]
      exact Do2_six_bad H M _ hb a pb w h hm hne c6 (fun ab w1 hA => by rw [c6]; exact (divides6_bad H ab hb a w1 hA.h hA.k hk).mono fun e w2 ⟨h1, h2⟩ => ⟨h1, none_bad hA h2⟩)
    · rw [show doRes H M = ⟨(H.put 10 (sgQ (H.get 10) (H.get 11) (H.get 12))).put 11 (sgR (H.get 10) (H.get 11) (H.get 12)), M, Flt.zero, true⟩ from by simp [doRes, two64, c6, hk]]
      exact Do2_six_ok H _ M _ hb a pb w h hm hne c6 (fun ab w1 hA => by rw [c6]; exact (divides6_ok H ab hb a w1 hA.h hA.k hA.n.1 hk).mono fun e w2 ⟨h1, h2, h3⟩ => ⟨h1, h2, keepM hA.m h3, h3.mono (by simp)⟩)
  by_cases c7 : H.get 17 = 7
  · cases hk : M.rd8K (H.get 10)
    · rw [show doRes H M = ⟨H, M, M.rd8F (H.get 10), false⟩ from by simp [doRes, c7, hk]]
      exact Do2_low_bad H M _ hb a pb w h hm hne ⟨by omega, by omega, by omega⟩ (fun ab w1 hA => by rw [c7]; exact (touch_number_bad H M ab hb a pb w1 hA hk).mono fun e w2 ⟨h1, h2⟩ => ⟨h1, none_bad hA h2⟩)
    · rw [show doRes H M = ⟨(H.put 10 (M.rd8V (H.get 10) % 4294967296)).put 11 (M.rd8V (H.get 10) / 4294967296), M, Flt.zero, true⟩ from by simp [doRes, two64, c7, hk]]
      exact Do2_low_ok H _ M _ hb a pb w h hm hne ⟨by omega, by omega, by omega⟩ (fun ab w1 hA => by rw [c7]; exact touch_number_ok H M ab hb a pb w1 hA hk)
  by_cases c8 : H.get 17 = 8
  · cases hk : M.canK (H.get 10) 8 2
    · rw [show doRes H M = ⟨H, M, M.canF (H.get 10) 8 2, false⟩ from by simp [doRes, c8, hk]]
      exact Do2_low_bad H M _ hb a pb w h hm hne ⟨by omega, by omega, by omega⟩ (fun ab w1 hA => by rw [c8]; exact touch_lay_bad H M ab hb a pb w1 hA hk)
    · rw [show doRes H M = ⟨H, M.wr8M (H.get 10) (H.two 1), Flt.zero, true⟩ from by simp [doRes, two64, c8, hk]]
      exact Do2_low_ok H _ M _ hb a pb w h hm hne ⟨by omega, by omega, by omega⟩ (fun ab w1 hA => by rw [c8]; exact touch_lay_ok H M ab hb a pb w1 hA hk)
  by_cases c9 : H.get 17 = 9
  · rw [show doRes H M = ⟨(H.put 10 (flDo .add (H.two 0).toNat (H.two 2).toNat % 4294967296)).put 11 (flDo .add (H.two 0).toNat (H.two 2).toNat / 4294967296), M, Flt.zero, true⟩ from by simp [doRes, two64, flOp, c9]]
    exact Do_reck_ok H _ M _ hb a pb w h hm hne (by omega) (fun ab w1 hA => by rw [c9]; exact (reckons_add H ab hb a w1 hA.h hA.k hA.n.1).mono fun e w2 ⟨h1, h2, h3⟩ => ⟨h1, h2, keepM hA.m h3, h3.mono (by simp)⟩)
  by_cases c10 : H.get 17 = 10
  · rw [show doRes H M = ⟨(H.put 10 (flDo .sub (H.two 0).toNat (H.two 2).toNat % 4294967296)).put 11 (flDo .sub (H.two 0).toNat (H.two 2).toNat / 4294967296), M, Flt.zero, true⟩ from by simp [doRes, two64, flOp, c10]]
    exact Do_reck_ok H _ M _ hb a pb w h hm hne (by omega) (fun ab w1 hA => by rw [c10]; exact (reckons_sub H ab hb a w1 hA.h hA.k hA.n.1).mono fun e w2 ⟨h1, h2, h3⟩ => ⟨h1, h2, keepM hA.m h3, h3.mono (by simp)⟩)
  by_cases c11 : H.get 17 = 11
  · rw [show doRes H M = ⟨(H.put 10 (flDo .mul (H.two 0).toNat (H.two 2).toNat % 4294967296)).put 11 (flDo .mul (H.two 0).toNat (H.two 2).toNat / 4294967296), M, Flt.zero, true⟩ from by simp [doRes, two64, flOp, c11]]
    exact Do_reck_ok H _ M _ hb a pb w h hm hne (by omega) (fun ab w1 hA => by rw [c11]; exact (reckons_mul H ab hb a w1 hA.h hA.k hA.n.1).mono fun e w2 ⟨h1, h2, h3⟩ => ⟨h1, h2, keepM hA.m h3, h3.mono (by simp)⟩)
  by_cases c12 : H.get 17 = 12
  · rw [show doRes H M = ⟨(H.put 10 (flDo .quo (H.two 0).toNat (H.two 2).toNat % 4294967296)).put 11 (flDo .quo (H.two 0).toNat (H.two 2).toNat / 4294967296), M, Flt.zero, true⟩ from by simp [doRes, two64, flOp, c12]]
    exact Do_reck_ok H _ M _ hb a pb w h hm hne (by omega) (fun ab w1 hA => by rw [c12]; exact (reckons_quo H ab hb a w1 hA.h hA.k hA.n.1).mono fun e w2 ⟨h1, h2, h3⟩ => ⟨h1, h2, keepM hA.m h3, h3.mono (by simp)⟩)
  by_cases c13 : H.get 17 = 13
  · rw [show doRes H M = ⟨H.put 10 (cmpT (cmpZ (H.two 0).toNat (H.two 2).toNat) (cmpP (H.two 0).toNat (H.two 2).toNat) (cmpC (H.two 0).toNat (H.two 2).toNat) 4), M, Flt.zero, true⟩ from by simp [doRes, c13]]
    exact Do_reck_ok H _ M _ hb a pb w h hm hne (by omega) (fun ab w1 hA => by rw [c13]; exact (reckons_cmp H ab hb a w1 hA.h hA.k).mono fun e w2 ⟨h1, h2, h3⟩ => ⟨h1, h2, keepM hA.m h3, h3.mono (by simp)⟩)
  by_cases c14 : H.get 17 = 14
  · have hcr := canRow_canK M (H.get 10) (min (H.get 11) 16).toNat
    cases hk : M.canK (H.get 10) (min (H.get 11) 16).toNat 3
    · rw [hk] at hcr
      rw [show doRes H M = ⟨H, M, M.canF (H.get 10) (min (H.get 11) 16).toNat 3, false⟩ from by simp [doRes, c14, hk]]
      refine Do2_high_bad H M _ hb a pb w h hm hne (by omega) (fun ab w1 hA => ?_)
      rw [c14]
      refine (touch_can2 H M ab hb a pb w1 hA).mono ?_
      rintro e w2 (⟨h0, _⟩ | ⟨_, ⟨F, hF, h1⟩, h2⟩)
      · rw [hcr] at h0; cases h0
      · subst hF
        exact ⟨h1, none_bad hA h2⟩
    · rw [hk] at hcr
      rw [show doRes H M = ⟨H.put 10 0, M, Flt.zero, true⟩ from by simp [doRes, c14, hk]]
      refine Do2_high_ok H _ M _ hb a pb w h hm hne (by omega) (fun ab w1 hA => ?_)
      rw [c14]
      refine (touch_can2 H M ab hb a pb w1 hA).mono ?_
      rintro e w2 (⟨_, h1, h2, h3, h4⟩ | ⟨h0, _⟩)
      · exact ⟨h1, h2, h3, h4.mono (by simp)⟩
      · rw [hcr] at h0; cases h0
  rw [show doRes H M = ⟨H, M, Flt.zero, true⟩ from by
    have : ¬(9 ≤ H.get 17 ∧ H.get 17 ≤ 12) := by omega
    simp [doRes, c1, c2, c3, c4, c5, c6, c7, c8, c13, c14, this]]
  have hg := Hs.get_range h 17
  by_cases hlo : H.get 17 < 9
  · exact Do2_low_ok H _ M _ hb a pb w h hm hne ⟨hlo, c5, c6⟩ (fun ab w1 hA => touch_none H M _ ab hb a pb w1 hA (by simpa using c1) (by simpa using c2) (by simpa using c3) (by simpa using c4) (by simpa using c7) (by simpa using c8) (by simpa using c14))
  · exact Do2_high_ok H _ M _ hb a pb w h hm hne (by omega) (fun ab w1 hA => touch_none H M _ ab hb a pb w1 hA (by simpa using c1) (by simpa using c2) (by simpa using c3) (by simpa using c4) (by simpa using c7) (by simpa using c8) (by simpa using c14))

end Go.Proofs.Ytoplekfnghkkdaa
