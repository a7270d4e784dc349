/-
  Parts of the proof (their names shortened by a program). No condition.
-/
import Derived.Test.YtjkolegknpflfaaDoorMg01
import Derived.Test.YtjkolegknpflfaaDoorMg03
import Derived.Laws.IdiomCopy
import Derived.Test.YtjkolegknpflfaaDoorMg02
import Derived.StillTailTactics
import Derived.Outline
namespace Go.Proofs.YtjkolegknpflfaaDoor
open Go Go.RowKit
set_option linter.unusedVariables false
set_option linter.unusedSimpArgs false
set_option maxRecDepth 100000
set_option maxHeartbeats 16000000
structure Mi where
 k : Int
 t : Int
 a : Int
 b : Int
 c : Int
 n : Int
 fl : Bool
def Mi.cells (x : Mi) : Array Value := #[.int .i64 x.k, .int .i64 x.t, .int .i64 x.a, .int .i64 x.b, .int .i64 x.c, .int .u32 x.n, .bool x.fl]
def Mi.zero : Mi := ⟨0, 0, 0, 0, 0, 0, false⟩
def btw (n lo hi : Int) : Bool := decide (lo ≤ n) && decide (n ≤ hi)
def aluN (n : Int) : Bool := btw n 3 11 || btw n 12 15 || btw n 21 25 || btw n 16 18
def inT (t : Int) : Bool := decide (0 ≤ t) && decide (t < 64)
def Mi.tOk (x : Mi) : Bool := inT x.t && inT x.a && inT x.b && inT x.c
def Mi.kOk (x : Mi) : Bool :=
 if x.k = 2 ∨ x.k = 3 then btw x.n 0 7 else if x.k = 9 then btw x.n 0 6 else if x.k = 10 then btw x.n 0 15 else if x.k = 8 then aluN x.n
 else if x.k = 12 then btw x.n 19 20 else if x.k = 13 then btw x.n 45 53 else if x.k = 17 then decide (x.n ≤ 1) else btw x.k 1 17
def Mi.is (x : Mi) : Bool := x.tOk && x.kOk
structure Mi.Ok (x : Mi) : Prop where
 n : 0 ≤ x.n ∧ x.n < 4294967296
theorem Yv (n lo hi : Int) (w : World) (hn : 0 ≤ n ∧ n < 4294967296) :
  Calls Tryd.prog 18 #[.int .u32 n, .int .i64 lo, .int .i64 hi] w fun e w' => e = .returned (.bool (btw n lo hi)) ∧ w = w' := by
 have e1 : wrap64 n = n := by unfold wrap64; omega
 by_cases h1 : lo ≤ n
 ·have d1 : decide (lo ≤ n) = true := by simp [h1]
  have HB := Yh_ (show btw n lo hi = decide (n ≤ hi) by unfold btw; rw [d1, Bool.true_and])
  clear h1
  go_enter Tryd.func18, Tryd.ntmps18
  go_wp2
  go_ret
  exact ⟨by rw [HB.out]; rfl, rfl⟩
 ·have d1 : decide (lo ≤ n) = false := by simp [h1]
  have HB := Yh_ (show btw n lo hi = false by unfold btw; rw [d1, Bool.false_and])
  clear h1
  go_enter Tryd.func18, Tryd.ntmps18
  go_wp2
  go_ret
  exact ⟨by rw [HB.out]; rfl, rfl⟩
theorem Yb7 (n : Int) (w : World) (hn : 0 ≤ n ∧ n < 4294967296) : Calls Tryd.prog 19 #[.int .u32 n] w fun e w' => e = .returned (.bool (aluN n)) ∧ w = w' := by
 have H := Yh_ hn
 clear hn
 unfold aluN
 cases h1 : btw n 3 11
 ·cases h2 : btw n 12 15
  ·cases h3 : btw n 21 25
   ·have HS := Yh_ (And.intro h1 (And.intro h2 h3))
    clear h1 h2 h3
    go_enter Tryd.func19, Tryd.ntmps19
    go_wp2_with (go_at_call 18; refine (Yv n _ _ _ H.out).mono ?_; rintro e w' ⟨rfl, rfl⟩; first | rw [HS.out.1] | rw [HS.out.2.1] | rw [HS.out.2.2] | skip)
    go_ret
    exact ⟨rfl, rfl⟩
   ·have HS := Yh_ (And.intro h1 (And.intro h2 h3))
    clear h1 h2 h3
    go_enter Tryd.func19, Tryd.ntmps19
    go_wp2_with (go_at_call 18; refine (Yv n _ _ _ H.out).mono ?_; rintro e w' ⟨rfl, rfl⟩; first | rw [HS.out.1] | rw [HS.out.2.1] | rw [HS.out.2.2] | skip)
    go_ret
    exact ⟨rfl, rfl⟩
  ·have HS := Yh_ (And.intro h1 h2)
   clear h1 h2
   go_enter Tryd.func19, Tryd.ntmps19
   go_wp2_with (go_at_call 18; refine (Yv n _ _ _ H.out).mono ?_; rintro e w' ⟨rfl, rfl⟩; first | rw [HS.out.1] | rw [HS.out.2] | skip)
   go_ret
   exact ⟨rfl, rfl⟩
 ·have HS := Yh_ h1
  clear h1
  go_enter Tryd.func19, Tryd.ntmps19
  go_wp2_with (go_at_call 18; refine (Yv n _ _ _ H.out).mono ?_; rintro e w' ⟨rfl, rfl⟩; first | rw [HS.out] | skip)
  go_ret
  exact ⟨rfl, rfl⟩
theorem Yb6 (n : Int) (w : World) (hn : 0 ≤ n ∧ n < 4294967296) : Calls Tryd.prog 20 #[.int .u32 n] w fun e w' => e = .returned (.bool (btw n 45 53)) ∧ w = w' := by
 have H := Yh_ hn
 clear hn
 go_enter Tryd.func20, Tryd.ntmps20
 go_wp2_with (go_at_call 18; refine (Yv n _ _ _ H.out).mono ?_; rintro e w' ⟨rfl, rfl⟩)
 go_ret
 exact ⟨rfl, rfl⟩
def Mi.ts (x : Mi) (q : Int) : Int := if q = 0 then x.t else if q = 1 then x.a else if q = 2 then x.b else x.c
theorem Mi.tOk_all (x : Mi) : x.tOk = true ↔ ∀ q, 0 ≤ q → q < 4 → inT (x.ts q) = true := by
 unfold Mi.tOk
 constructor
 ·intro h q h0 h4
  simp only [Bool.and_eq_true] at h
  have hq : q = 0 ∨ q = 1 ∨ q = 2 ∨ q = 3 := by omega
  rcases hq with rfl | rfl | rfl | rfl
  ·exact h.1.1.1
  ·exact h.1.1.2
  ·exact h.1.2
  ·exact h.2
 ·intro h
  have h0 := h 0 (by decide) (by decide)
  have h1 := h 1 (by decide) (by decide)
  have h2 := h 2 (by decide) (by decide)
  have h3 := h 3 (by decide) (by decide)
  have e0 : x.ts 0 = x.t := rfl
  have e1 : x.ts 1 = x.a := rfl
  have e2 : x.ts 2 = x.b := rfl
  have e3 : x.ts 3 = x.c := rfl
  rw [e0] at h0
  rw [e1] at h1
  rw [e2] at h2
  rw [e3] at h3
  rw [h0, h1, h2, h3]
  rfl
theorem Yhg {t : Int} (h : inT t = false) : t < 0 ∨ 64 ≤ t := by
 unfold inT at h
 rw [Bool.and_eq_false_iff] at h
 rcases h with h | h
 ·left; simpa using h
 ·right; simpa using h
theorem Ybt {t : Int} (h : inT t = true) : 0 ≤ t ∧ t < 64 := by
 unfold inT at h
 simpa using h
theorem is_any (k t a b c n : Int) (fl : Bool) (w : World) (hn : 0 ≤ n ∧ n < 4294967296) :
  Calls Tryd.prog 12 #[.agg #[.int .i64 k, .int .i64 t, .int .i64 a, .int .i64 b, .int .i64 c, .int .u32 n, .bool fl]] w fun e w' => e = .returned (.bool (⟨k, t, a, b, c, n, fl⟩ : Mi).is) ∧ Upd [] w w' := by
 have H := Yh_ hn
 clear hn
 obtain ⟨x, hx⟩ : ∃ x, (⟨k, t, a, b, c, n, fl⟩ : Mi) = x := ⟨_, rfl⟩
 have HX := Yh_ hx
 rw [hx]
 clear hx
 have HU := Yh_ (((Upd.refl [] w).alloc (.cells #[.int .i64 k, .int .i64 t, .int .i64 a, .int .i64 b, .int .i64 c, .int .u32 n, .bool fl] 35)).alloc (.cells #[.int .i64 t, .int .i64 a, .int .i64 b, .int .i64 c] 3))
 go_enter Tryd.func12, Tryd.ntmps12
 go_wp2
 cases htok : x.tOk
 ·obtain ⟨q0, h0, h4, hno⟩ : ∃ q, 0 ≤ q ∧ q < 4 ∧ inT (x.ts q) = false := by
   apply Classical.byContradiction
   intro hcon
   have : x.tOk = true := (Mi.tOk_all x).2 fun q a b => by
    cases hq : inT (x.ts q)
    ·exact absurd ⟨q, a, b, hq⟩ hcon
    ·rfl
   rw [htok] at this
   cases this
  have HNO := Yh_ (And.intro h0 (And.intro h4 (And.intro hno htok)))
  clear htok h0 h4 hno
  go_loop [15] (fun i => ∃ q : Int, i = .int .i64 q ∧ Hid (0 ≤ q ∧ q ≤ 4) ∧ Hid (∀ j, 0 ≤ j → j < q → inT (x.ts j) = true)) (fun i => (4 - intOf i).toNat)
  case atStart => exact ⟨0, rfl, Yh_ (by decide), Yh_ (fun j h1 h2 => by omega)⟩
  case round =>
   obtain ⟨q, rfl, hq, hall⟩ := hrel
   have hq4 : q = 0 ∨ q = 1 ∨ q = 2 ∨ q = 3 ∨ q = 4 := by have := hq.out; omega
   rcases hq4 with rfl | rfl | rfl | rfl | rfl
   ·obtain ⟨z, hz⟩ : ∃ z, x.ts 0 = z := ⟨_, rfl⟩
    have hv : t = z := by rw [← hz, ← HX.out]; rfl
    by_cases hin : inT z = true
    ·have hb := Ybt hin
     have dA : decide (z < 0) = false := by simp; omega
     have dB : decide (64 ≤ z) = false := by simp; omega
     have HZ := Yh_ (show ∀ j, 0 ≤ j → j < 0 + 1 → inT (x.ts j) = true from fun j h1 h2 => by
      by_cases e : j = 0
      ·rw [e, hz]; exact hin
      ·exact hall.out j h1 (by omega))
     subst hv
     clear hb hin hz
     go_wp2
     go_round
     case rel => exact ⟨1, rfl, Yh_ (by decide), HZ⟩
     case measure => decide
    ·rw [Bool.not_eq_true] at hin
     have HI := Yh_ (show x.is = false by
      unfold Mi.is
      rw [HNO.out.2.2.2]; rfl)
     rcases Yhg hin with hb | hb
     ·have dA : decide (z < 0) = true := by simp [hb]
      subst hv
      clear hb hin hz
      go_wp2
      go_ret
      exact ⟨by rw [HI.out]; rfl, HU.out⟩
     ·have dA : decide (z < 0) = false := by simp; omega
      have dB : decide (64 ≤ z) = true := by simp [hb]
      subst hv
      clear hb hin hz
      go_wp2
      go_ret
      exact ⟨by rw [HI.out]; rfl, HU.out⟩
   ·obtain ⟨z, hz⟩ : ∃ z, x.ts 1 = z := ⟨_, rfl⟩
    have hv : a = z := by rw [← hz, ← HX.out]; rfl
    by_cases hin : inT z = true
    ·have hb := Ybt hin
     have dA : decide (z < 0) = false := by simp; omega
     have dB : decide (64 ≤ z) = false := by simp; omega
     have HZ := Yh_ (show ∀ j, 0 ≤ j → j < 1 + 1 → inT (x.ts j) = true from fun j h1 h2 => by
      by_cases e : j = 1
      ·rw [e, hz]; exact hin
      ·exact hall.out j h1 (by omega))
     subst hv
     clear hb hin hz
     go_wp2
     go_round
     case rel => exact ⟨2, rfl, Yh_ (by decide), HZ⟩
     case measure => decide
    ·rw [Bool.not_eq_true] at hin
     have HI := Yh_ (show x.is = false by
      unfold Mi.is
      rw [HNO.out.2.2.2]; rfl)
     rcases Yhg hin with hb | hb
     ·have dA : decide (z < 0) = true := by simp [hb]
      subst hv
      clear hb hin hz
      go_wp2
      go_ret
      exact ⟨by rw [HI.out]; rfl, HU.out⟩
     ·have dA : decide (z < 0) = false := by simp; omega
      have dB : decide (64 ≤ z) = true := by simp [hb]
      subst hv
      clear hb hin hz
      go_wp2
      go_ret
      exact ⟨by rw [HI.out]; rfl, HU.out⟩
   ·obtain ⟨z, hz⟩ : ∃ z, x.ts 2 = z := ⟨_, rfl⟩
    have hv : b = z := by rw [← hz, ← HX.out]; rfl
    by_cases hin : inT z = true
    ·have hb := Ybt hin
     have dA : decide (z < 0) = false := by simp; omega
     have dB : decide (64 ≤ z) = false := by simp; omega
     have HZ := Yh_ (show ∀ j, 0 ≤ j → j < 2 + 1 → inT (x.ts j) = true from fun j h1 h2 => by
      by_cases e : j = 2
      ·rw [e, hz]; exact hin
      ·exact hall.out j h1 (by omega))
     subst hv
     clear hb hin hz
     go_wp2
     go_round
     case rel => exact ⟨3, rfl, Yh_ (by decide), HZ⟩
     case measure => decide
    ·rw [Bool.not_eq_true] at hin
     have HI := Yh_ (show x.is = false by
      unfold Mi.is
      rw [HNO.out.2.2.2]; rfl)
     rcases Yhg hin with hb | hb
     ·have dA : decide (z < 0) = true := by simp [hb]
      subst hv
      clear hb hin hz
      go_wp2
      go_ret
      exact ⟨by rw [HI.out]; rfl, HU.out⟩
     ·have dA : decide (z < 0) = false := by simp; omega
      have dB : decide (64 ≤ z) = true := by simp [hb]
      subst hv
      clear hb hin hz
      go_wp2
      go_ret
      exact ⟨by rw [HI.out]; rfl, HU.out⟩
   ·obtain ⟨z, hz⟩ : ∃ z, x.ts 3 = z := ⟨_, rfl⟩
    have hv : c = z := by rw [← hz, ← HX.out]; rfl
    by_cases hin : inT z = true
    ·have hb := Ybt hin
     have dA : decide (z < 0) = false := by simp; omega
     have dB : decide (64 ≤ z) = false := by simp; omega
     have HZ := Yh_ (show ∀ j, 0 ≤ j → j < 3 + 1 → inT (x.ts j) = true from fun j h1 h2 => by
      by_cases e : j = 3
      ·rw [e, hz]; exact hin
      ·exact hall.out j h1 (by omega))
     subst hv
     clear hb hin hz
     go_wp2
     go_round
     case rel => exact ⟨4, rfl, Yh_ (by decide), HZ⟩
     case measure => decide
    ·rw [Bool.not_eq_true] at hin
     have HI := Yh_ (show x.is = false by
      unfold Mi.is
      rw [HNO.out.2.2.2]; rfl)
     rcases Yhg hin with hb | hb
     ·have dA : decide (z < 0) = true := by simp [hb]
      subst hv
      clear hb hin hz
      go_wp2
      go_ret
      exact ⟨by rw [HI.out]; rfl, HU.out⟩
     ·have dA : decide (z < 0) = false := by simp; omega
      have dB : decide (64 ≤ z) = true := by simp [hb]
      subst hv
      clear hb hin hz
      go_wp2
      go_ret
      exact ⟨by rw [HI.out]; rfl, HU.out⟩
   ·exfalso
    obtain ⟨h0, h4, hno, _⟩ := HNO.out
    have := hall.out q0 h0 h4
    rw [hno] at this
    cases this
 ·have HT := Yh_ (And.intro ((Mi.tOk_all x).1 htok) htok)
  clear htok
  go_loop [15] (fun i => ∃ q : Int, i = .int .i64 q ∧ Hid (0 ≤ q ∧ q ≤ 4)) (fun i => (4 - intOf i).toNat)
  case atStart => exact ⟨0, rfl, Yh_ (by decide)⟩
  case round =>
   obtain ⟨q, rfl, hq⟩ := hrel
   have hq4 : q = 0 ∨ q = 1 ∨ q = 2 ∨ q = 3 ∨ q = 4 := by have := hq.out; omega
   rcases hq4 with rfl | rfl | rfl | rfl | rfl
   ·obtain ⟨z, hz⟩ : ∃ z, x.ts 0 = z := ⟨_, rfl⟩
    have hv : t = z := by rw [← hz, ← HX.out]; rfl
    have hb := Ybt (show inT z = true by rw [← hz]; exact HT.out.1 0 (by decide) (by decide))
    have dA : decide (z < 0) = false := by simp; omega
    have dB : decide (64 ≤ z) = false := by simp; omega
    subst hv
    clear hb hz
    go_wp2
    go_round
    case rel => exact ⟨1, rfl, Yh_ (by decide)⟩
    case measure => decide
   ·obtain ⟨z, hz⟩ : ∃ z, x.ts 1 = z := ⟨_, rfl⟩
    have hv : a = z := by rw [← hz, ← HX.out]; rfl
    have hb := Ybt (show inT z = true by rw [← hz]; exact HT.out.1 1 (by decide) (by decide))
    have dA : decide (z < 0) = false := by simp; omega
    have dB : decide (64 ≤ z) = false := by simp; omega
    subst hv
    clear hb hz
    go_wp2
    go_round
    case rel => exact ⟨2, rfl, Yh_ (by decide)⟩
    case measure => decide
   ·obtain ⟨z, hz⟩ : ∃ z, x.ts 2 = z := ⟨_, rfl⟩
    have hv : b = z := by rw [← hz, ← HX.out]; rfl
    have hb := Ybt (show inT z = true by rw [← hz]; exact HT.out.1 2 (by decide) (by decide))
    have dA : decide (z < 0) = false := by simp; omega
    have dB : decide (64 ≤ z) = false := by simp; omega
    subst hv
    clear hb hz
    go_wp2
    go_round
    case rel => exact ⟨3, rfl, Yh_ (by decide)⟩
    case measure => decide
   ·obtain ⟨z, hz⟩ : ∃ z, x.ts 3 = z := ⟨_, rfl⟩
    have hv : c = z := by rw [← hz, ← HX.out]; rfl
    have hb := Ybt (show inT z = true by rw [← hz]; exact HT.out.1 3 (by decide) (by decide))
    have dA : decide (z < 0) = false := by simp; omega
    have dB : decide (64 ≤ z) = false := by simp; omega
    subst hv
    clear hb hz
    go_wp2
    go_round
    case rel => exact ⟨4, rfl, Yh_ (by decide)⟩
    case measure => decide
   ·obtain ⟨r, hr⟩ : ∃ r, x.is = r := ⟨_, rfl⟩
    have hr2 : x.kOk = r := by rw [← hr]; unfold Mi.is; rw [HT.out.2]; rfl
    rw [← HX.out] at hr2
    have HI := Yh_ hr
    clear hr HX HT
    unfold Mi.kOk at hr2
    dsimp only at hr2
    by_cases e2 : k = 2
    ·subst e2
     rw [if_pos (by decide)] at hr2
     have HR := Yh_ hr2
     clear hr2
     go_wp2_with (first
      |(go_at_call 18; refine (Yv n _ _ _ H.out).mono ?_; rintro e w' ⟨rfl, rfl⟩; rw [HR.out])
      |(go_at_call 19; refine (Yb7 n _ H.out).mono ?_; rintro e w' ⟨rfl, rfl⟩; rw [HR.out])
      |(go_at_call 20; refine (Yb6 n _ H.out).mono ?_; rintro e w' ⟨rfl, rfl⟩; rw [HR.out]))
     go_ret
     exact ⟨by rw [HI.out]; rfl, HU.out⟩
    by_cases e3 : k = 3
    ·subst e3
     rw [if_pos (by decide)] at hr2
     have HR := Yh_ hr2
     clear hr2
     go_wp2_with (first
      |(go_at_call 18; refine (Yv n _ _ _ H.out).mono ?_; rintro e w' ⟨rfl, rfl⟩; rw [HR.out])
      |(go_at_call 19; refine (Yb7 n _ H.out).mono ?_; rintro e w' ⟨rfl, rfl⟩; rw [HR.out])
      |(go_at_call 20; refine (Yb6 n _ H.out).mono ?_; rintro e w' ⟨rfl, rfl⟩; rw [HR.out]))
     go_ret
     exact ⟨by rw [HI.out]; rfl, HU.out⟩
    by_cases e9 : k = 9
    ·subst e9
     rw [if_neg (by decide), if_pos (by decide)] at hr2
     have HR := Yh_ hr2
     clear hr2
     go_wp2_with (first
      |(go_at_call 18; refine (Yv n _ _ _ H.out).mono ?_; rintro e w' ⟨rfl, rfl⟩; rw [HR.out])
      |(go_at_call 19; refine (Yb7 n _ H.out).mono ?_; rintro e w' ⟨rfl, rfl⟩; rw [HR.out])
      |(go_at_call 20; refine (Yb6 n _ H.out).mono ?_; rintro e w' ⟨rfl, rfl⟩; rw [HR.out]))
     go_ret
     exact ⟨by rw [HI.out]; rfl, HU.out⟩
    by_cases e10 : k = 10
    ·subst e10
     rw [if_neg (by decide), if_neg (by decide), if_pos (by decide)] at hr2
     have HR := Yh_ hr2
     clear hr2
     go_wp2_with (first
      |(go_at_call 18; refine (Yv n _ _ _ H.out).mono ?_; rintro e w' ⟨rfl, rfl⟩; rw [HR.out])
      |(go_at_call 19; refine (Yb7 n _ H.out).mono ?_; rintro e w' ⟨rfl, rfl⟩; rw [HR.out])
      |(go_at_call 20; refine (Yb6 n _ H.out).mono ?_; rintro e w' ⟨rfl, rfl⟩; rw [HR.out]))
     go_ret
     exact ⟨by rw [HI.out]; rfl, HU.out⟩
    by_cases e8 : k = 8
    ·subst e8
     rw [if_neg (by decide), if_neg (by decide), if_neg (by decide), if_pos (by decide)] at hr2
     have HR := Yh_ hr2
     clear hr2
     go_wp2_with (first
      |(go_at_call 18; refine (Yv n _ _ _ H.out).mono ?_; rintro e w' ⟨rfl, rfl⟩; rw [HR.out])
      |(go_at_call 19; refine (Yb7 n _ H.out).mono ?_; rintro e w' ⟨rfl, rfl⟩; rw [HR.out])
      |(go_at_call 20; refine (Yb6 n _ H.out).mono ?_; rintro e w' ⟨rfl, rfl⟩; rw [HR.out]))
     go_ret
     exact ⟨by rw [HI.out]; rfl, HU.out⟩
    by_cases e12 : k = 12
    ·subst e12
     rw [if_neg (by decide), if_neg (by decide), if_neg (by decide), if_neg (by decide), if_pos (by decide)] at hr2
     have HR := Yh_ hr2
     clear hr2
     go_wp2_with (first
      |(go_at_call 18; refine (Yv n _ _ _ H.out).mono ?_; rintro e w' ⟨rfl, rfl⟩; rw [HR.out])
      |(go_at_call 19; refine (Yb7 n _ H.out).mono ?_; rintro e w' ⟨rfl, rfl⟩; rw [HR.out])
      |(go_at_call 20; refine (Yb6 n _ H.out).mono ?_; rintro e w' ⟨rfl, rfl⟩; rw [HR.out]))
     go_ret
     exact ⟨by rw [HI.out]; rfl, HU.out⟩
    by_cases e13 : k = 13
    ·subst e13
     rw [if_neg (by decide), if_neg (by decide), if_neg (by decide), if_neg (by decide), if_neg (by decide), if_pos (by decide)] at hr2
     have HR := Yh_ hr2
     clear hr2
     go_wp2_with (first
      |(go_at_call 18; refine (Yv n _ _ _ H.out).mono ?_; rintro e w' ⟨rfl, rfl⟩; rw [HR.out])
      |(go_at_call 19; refine (Yb7 n _ H.out).mono ?_; rintro e w' ⟨rfl, rfl⟩; rw [HR.out])
      |(go_at_call 20; refine (Yb6 n _ H.out).mono ?_; rintro e w' ⟨rfl, rfl⟩; rw [HR.out]))
     go_ret
     exact ⟨by rw [HI.out]; rfl, HU.out⟩
    by_cases e17 : k = 17
    ·subst e17
     rw [if_neg (by decide), if_neg (by decide), if_neg (by decide), if_neg (by decide), if_neg (by decide), if_neg (by decide), if_pos (by decide)] at hr2
     have HR := Yh_ hr2
     clear hr2
     go_wp2_with (first
      |(go_at_call 18; refine (Yv n _ _ _ H.out).mono ?_; rintro e w' ⟨rfl, rfl⟩; rw [HR.out])
      |(go_at_call 19; refine (Yb7 n _ H.out).mono ?_; rintro e w' ⟨rfl, rfl⟩; rw [HR.out])
      |(go_at_call 20; refine (Yb6 n _ H.out).mono ?_; rintro e w' ⟨rfl, rfl⟩; rw [HR.out]))
     go_ret
     exact ⟨by rw [HI.out, ← HR.out]; rfl, HU.out⟩
    have hr3 : btw k 1 17 = r := by
     rw [if_neg (by omega), if_neg e9, if_neg e10, if_neg e8, if_neg e12, if_neg e13, if_neg e17] at hr2
     exact hr2
    have g2 : (k == 2) = false := by simp [e2]
    have g3 : (k == 3) = false := by simp [e3]
    have g9 : (k == 9) = false := by simp [e9]
    have g10 : (k == 10) = false := by simp [e10]
    have g8 : (k == 8) = false := by simp [e8]
    have g12 : (k == 12) = false := by simp [e12]
    have g13 : (k == 13) = false := by simp [e13]
    have g17 : (k == 17) = false := by simp [e17]
    clear hr2 e2 e3 e9 e10 e8 e12 e13 e17
    by_cases h1 : 1 ≤ k
    ·have d1 : decide (1 ≤ k) = true := by simp [h1]
     have HR := Yh_ (show decide (k ≤ 17) = r by rw [← hr3]; unfold btw; rw [d1, Bool.true_and])
     clear hr3 h1
     go_wp2
     go_ret
     exact ⟨by rw [HI.out, ← HR.out]; rfl, HU.out⟩
    ·have d1 : decide (1 ≤ k) = false := by simp [h1]
     have HR := Yh_ (show false = r by rw [← hr3]; unfold btw; rw [d1, Bool.false_and])
     clear hr3 h1
     go_wp2
     go_ret
     exact ⟨by rw [HI.out, ← HR.out]; rfl, HU.out⟩
inductive DR (α : Type) where
 |ok (v : α) (k : Nat)
 |err (c : Int)
def DR.bind {α β : Type} (r : DR α) (f : α → Nat → DR β) : DR β :=
 match r with
 |.ok v k => f v k
 |.err c => .err c
structure Mrm where
 mod : Int
 reg : Int
 rm : Int
def Mrm.cells (m : Mrm) : Array Value := #[.int .i64 m.mod, .int .i64 m.reg, .int .i64 m.rm]
def BOk (L : List Int) : Prop := ∀ i, 0 ≤ L.getD i 0 ∧ L.getD i 0 ≤ 255
def Opd.cells (o : Opd) : Array Value := #[.int .i64 o.k, .int .i64 o.r, .int .u32 o.imm, .int .i64 o.b, .int .i64 o.x, .int .u32 o.sc]
theorem Opd.size (o : Opd) : o.cells.size = 6 := rfl
theorem Opd.one (o : Opd) : o.cells.all (·.oneCell') = true := by simp [Opd.cells, Value.oneCell']
def Ins.val (i : Ins) : Value := .agg i.cells
theorem Ygc {P : Program} {ops : Array Oper} {rest : List Oper} {op : Oper} {a : Act} {w : World} {Q : Exit → Act → World → Prop} (hgd : op.guard = none) (ty : TypeId) (x y : Operand) (ho : op.op = .store ty x y)
  (b o : Nat) (cs : Array Value) (hx : a.eval x = .pointer (some ⟨b, o, none⟩)) (hy : a.eval y = .agg cs)
  {c : Array Value} {t : TypeId} (hb : w.heap[b]? = some (.cells c t (0, 0))) (hn : o + cs.size ≤ c.size) (hi : (P.info? ty).map (·.size) = some cs.size) (h1 : cs.all (·.oneCell') = true)
  (h : ∀ w', w.setCells b o cs.toList = w' → wpList P ops Q rest (a.put op.dst undef) w') : wpList P ops Q (op :: rest) a w :=
 Ycp hgd ty x y ho b o cs hx hy hb hn hi h1 (h _ rfl)
theorem Mrm.one (m : Mrm) : m.cells.all (·.oneCell') = true := by simp [Mrm.cells, Value.oneCell']
theorem Mi.size (x : Mi) : x.cells.size = 7 := rfl
theorem Yeu : (Tryd.prog.info? 35).map (·.size) = some 7 := by kernel_rfl
theorem Mi.one (x : Mi) : x.cells.all (·.oneCell') = true := by simp [Mi.cells, Value.oneCell']
theorem Yep (x : Mi) : x.cells.toList.length = 7 := rfl
def Yas (l : List Mi) : List Value := l.flatMap fun i => i.cells.toList
theorem Yd1 (i : Mi) (l : List Mi) : Yas (i :: l) = i.cells.toList ++ Yas l := by simp [Yas]
theorem Ylh (l m : List Mi) : Yas (l ++ m) = Yas l ++ Yas m := by simp [Yas]
theorem Yih (l : List Mi) : (Yas l).length = l.length * 7 := by
 induction l with
 |nil => rfl
 |cons i l ih => rw [Yd1, List.length_append, ih, Yep, List.length_cons]; omega
theorem Yh8 {l : List Mi} {k : Nat} {x : Mi} (h : l[k]? = some x) (j : Nat) (hj : j < 7) : (Yas l)[k * 7 + j]? = x.cells.toList[j]? := by
 induction l generalizing k with
 |nil => simp at h
 |cons i l ih =>
  rw [Yd1]
  cases k with
  |zero =>
   simp only [List.getElem?_cons_zero] at h
   injection h with h
   subst h
   rw [Nat.zero_mul, Nat.zero_add, List.getElem?_append_left (by rw [Yep]; exact hj)]
  |succ k =>
   simp only [List.getElem?_cons_succ] at h
   rw [List.getElem?_append_right (by rw [Yep]; omega), Yep, show (k + 1) * 7 + j - 7 = k * 7 + j from by omega]
   exact ih h
theorem Yld {l : List Mi} : ∀ u ∈ Yas l, u.oneCell' = true := by
 intro u hu
 rw [Yas, List.mem_flatMap] at hu
 obtain ⟨i, _, hi⟩ := hu
 have := i.one
 rw [Array.all_eq_true_iff_forall_mem] at this
 exact this u (by simpa using hi)
def MSl (w : World) (v : Value) (l : List Mi) (g : Nat) : Prop :=
 (∃ a c, v = .slice a 0 c ∧ l = []) ∨ ∃ o c, v = .slice (some ⟨g, o, none⟩) l.length c ∧ g < w.heap.size ∧ ∀ k u, (Yas l)[k]? = some u → w.cell? ⟨g, o + k, none⟩ = some u
theorem MSl.form {w : World} {v : Value} {l : List Mi} {g : Nat} (h : MSl w v l g) : ∃ b c, v = .slice b l.length c := by
 rcases h with ⟨a, c, h1, h2⟩ | ⟨o, c, h1, _⟩
 ·exact ⟨a, c, by rw [h1, h2]; rfl⟩
 ·exact ⟨_, _, h1⟩
theorem MSl.keep {w w' : World} {v : Value} {l : List Mi} {g : Nat} {S : List Nat} (h : MSl w v l g) (u : Upd S w w') (hg : g ∉ S) : MSl w' v l g := by
 rcases h with h | ⟨o, c, h1, h2, h3⟩
 ·exact .inl h
 ·exact .inr ⟨o, c, h1, Nat.lt_of_lt_of_le h2 u.size, fun k x hx => by unfold World.cell?; rw [u.block g h2 hg]; exact h3 k x hx⟩
theorem MSl.at {w : World} {l : List Mi} {g o c : Nat} {n : Nat} (h : MSl w (.slice (some ⟨g, o, none⟩) n c) l g) {k : Nat} {x : Mi} (hx : l[k]? = some x) : w.rangeAt g (o + k * 7) x.cells.toList := by
 rcases h with ⟨a, c, _, h⟩ | ⟨o', c', h1, h2, h3⟩
 ·rw [h] at hx; cases hx
 ·injection h1 with h1 _ _
  injection h1 with h1
  injection h1 with _ h1
  subst h1
  intro j u hu
  have hj : j < 7 := by have := (List.getElem?_eq_some_iff.1 hu).1; rwa [Yep] at this
  rw [Nat.add_assoc]
  exact h3 _ _ (by rw [Yh8 hx j hj]; exact hu)
theorem MSl.block {w : World} {b : Option Addr} {n c : Nat} {l : List Mi} {g : Nat} (h : MSl w (.slice b n c) l g) (hl : 0 < l.length) : ∃ o, b = some ⟨g, o, none⟩ := by
 rcases h with ⟨a, c, h1, h2⟩ | ⟨o, c, h1, _⟩
 ·rw [h2] at hl; simp at hl
 ·injection h1 with h1; exact ⟨o, h1⟩
theorem Yc8 {ops : Array Oper} {rest : List Oper} {op : Oper} {a : Act} {w : World} {Q : Exit → Act → World → Prop} (i : Mi) (b : Nat) (hgd : op.guard = none) (x y : Operand) (ho : op.op = .store 35 x y) (hx : a.eval x = .pointer (some ⟨b, 0, none⟩)) (hy : a.eval y = .agg i.cells)
  {c : Array Value} (hb : w.heap[b]? = some (.cells c 35 (0, 0))) (hc : c.size = 7) (h : ∀ w', w.setCells b 0 i.cells.toList = w' → wpList Tryd.prog ops Q rest (a.put op.dst undef) w') : wpList Tryd.prog ops Q (op :: rest) a w :=
 Ycp hgd 35 x y ho b 0 i.cells hx hy hb (by rw [hc, Mi.size]; exact Nat.le_refl _) (by rw [Mi.size]; exact Yeu) i.one (h _ rfl)
theorem wr_mi (c : Array Value) (s : Mi) (hc : c.size = 7) : wr c 0 s.cells.toList = s.cells := by
 apply Array.ext_getElem?
 intro k
 have hl : s.cells.toList.length = 7 := rfl
 rw [Ycc _ _ _ _ (by rw [hl, hc]; exact Nat.le_refl _), hl]
 by_cases h : k < 7
 ·rw [if_pos (by omega), Nat.sub_zero, Array.getElem?_toList]
 ·rw [if_neg (by omega), Array.getElem?_eq_none (by omega), Array.getElem?_eq_none (by rw [Mi.size]; omega)]
theorem Yi1 {S : List Nat} {w0 w w' : World} {b : Nat} {i : Mi} {c : Array Value} (hw : w.setCells b 0 i.cells.toList = w') (hb : w.heap[b]? = some (.cells c 35 (0, 0))) (hc : c.size = 7) (hu : Upd S w0 w) (hs : b ∈ S ∨ w0.heap.size ≤ b) :
  w'.heap[b]? = some (.cells i.cells 35 (0, 0)) ∧ Upd S w0 w' := by
 subst hw
 exact ⟨by rw [Yad _ _ _ _ hb, wr_mi c i hc], hu.setCells hs _ _⟩
theorem Ydc {ops : Array Oper} {rest : List Oper} {op : Oper} {a : Act} {w : World} {Q : Exit → Act → World → Prop} (i : Mi) (b : Nat) (hgd : op.guard = none) (x : Operand) (ho : op.op = .load 35 x) (hx : a.eval x = .pointer (some ⟨b, 0, none⟩))
  (hb : w.heap[b]? = some (.cells i.cells 35 (0, 0))) (h : wpList Tryd.prog ops Q rest (a.put op.dst (.agg i.cells)) w) : wpList Tryd.prog ops Q (op :: rest) a w :=
 Yl hgd 35 x ho b 0 hx i.cells _ (Ybk hb) Tryd.underlying35 rfl (by rw [Mi.size]; exact Yeu) h
theorem is_mi (x : Mi) (w : World) (hx : x.Ok) : Calls Tryd.prog 12 #[.agg x.cells] w fun e w' => e = .returned (.bool x.is) ∧ Upd [] w w' := is_any x.k x.t x.a x.b x.c x.n x.fl w hx.n
def isL (l : List Mi) : Bool := l.all Mi.is && decide (l.length ≤ 200)
theorem Yda (v : Value) (l : List Mi) (g : Nat) (w : World) (hv : MSl w v l g) (hok : ∀ x ∈ l, x.Ok) (hn : l.length ≤ maxLen) :
  Calls Tryd.prog 8 #[v] w fun e w' => e = .returned (.bool (isL l)) ∧ Upd [] w w' := by
 obtain ⟨b, c, rfl⟩ := hv.form
 unfold maxLen at hn
 obtain ⟨ln, hln⟩ : ∃ ln : Int, ln = (l.length : Int) := ⟨_, rfl⟩
 have ec : ((l.length : Nat) : Int) = ln := hln.symm
 obtain ⟨r, hr⟩ : ∃ r, isL l = r := ⟨_, rfl⟩
 have HV := Yh_ (And.intro hv hok)
 have HL := Yh_ (And.intro hln hn)
 have HR := Yh_ hr
 rw [hr]
 clear hv hok hr hln hn
 go_enter Tryd.func8, Tryd.ntmps8
 go_wp2_with fail
 go_loopw [7] (fun i wr => ∃ q : Int, i = .int .i64 q ∧ Hid (0 ≤ q ∧ q ≤ ln) ∧ Hid (∀ j x, j < q.toNat → l[j]? = some x → x.is = true) ∧ Hid (Upd [] w wr)) (fun i _ => (ln - intOf i).toNat)
 case atStart => exact ⟨0, rfl, Yh_ (by have := HL.out; omega), Yh_ (fun j x h => by simp at h), Yh_ (Upd.refl _ _)⟩
 case round =>
  obtain ⟨q, rfl, hq, hall, HU⟩ := hrel
  by_cases hlt : q < ln
  ·have d1 : decide (q < ln) = true := by simp [hlt]
   have hq0 := hq.out
   have hl0 := HL.out
   obtain ⟨k, hk⟩ : ∃ k : Nat, q = k := ⟨q.toNat, by omega⟩
   have hkl : k < l.length := by omega
   obtain ⟨x, hx⟩ : ∃ x, l[k]? = some x := ⟨l[k], List.getElem?_eq_getElem hkl⟩
   obtain ⟨o, rfl⟩ := HV.out.1.block (by omega)
   have HR2 := Yh_ ((HV.out.1.keep HU.out (by simp)).at hx)
   have hxm : x ∈ l := List.mem_of_getElem? hx
   have HX := Yh_ (And.intro hx (And.intro (HV.out.2 x hxm) hxm))
   have hb1 : 0 ≤ q ∧ q < ln := by omega
   have hqt : q.toNat = k := by omega
   have e1 : wrap64 (q + 1) = q + 1 := by unfold wrap64; omega
   have HB := Yh_ (And.intro hb1 hqt)
   clear hx hxm hq0 hl0 hkl hlt hk
   cases hxi : x.is
   all_goals
    have HXI := Yh_ hxi
    clear hxi
    go_wp2_with (first
     |(refine Yaa 35 rfl ?_; refine Yl rfl 35 _ rfl g (o + k * 7) (by first | rfl | (rw [← HB.out.2]; rfl)) x.cells _ HR2.out Tryd.underlying35 rfl (by rw [Mi.size]; exact Yeu) ?_; clear hqt)
     |(refine Yag 35 rfl ?_; refine Yc8 x wr.heap.size rfl _ _ rfl rfl rfl (heap_alloc_new wr (.cells Mi.zero.cells 35)) rfl ?_; intro w3 hw; have h3 := Yi1 (S := []) (w0 := wr) hw (heap_alloc_new wr (.cells Mi.zero.cells 35)) rfl ((Upd.refl [] wr).alloc _) (.inr (Nat.le_refl _)); have U3 := Yh_ (And.intro (HU.out.also h3.2 (by simp)) h3.1); clear hw h3)
     |(have _t := U3; clear _t; refine Yaa 35 rfl ?_; refine Ydc x wr.heap.size rfl _ rfl rfl U3.out.2 ?_)
     |(have _t := U3; clear _t; go_at_call 12; refine (is_mi x _ HX.out.2.1).mono ?_; rintro e w4 ⟨rfl, hu⟩; rw [HXI.out]; have U4 := Yh_ (U3.out.1.also hu (by simp)); clear hu U3))
   ·go_ret
    refine ⟨?_, U4.out⟩
    have hf : isL l = false := by
     unfold isL
     rw [Bool.and_eq_false_iff]
     left
     rw [List.all_eq_false]
     exact ⟨x, HX.out.2.2, by rw [HXI.out]; decide⟩
    rw [← HR.out, hf]
    rfl
   ·try simp only [e1]
    go_roundw
    case rel => exact ⟨q + 1, rfl, Yh_ (by have := HB.out; omega), Yh_ (fun j y hj hy => by
      by_cases e : j = k
      ·rw [e, HX.out.1] at hy; injection hy with hy; rw [← hy]; exact HXI.out
      ·exact hall.out j y (by have := HB.out; omega) hy), U4⟩
    case measure => have := HB.out; simp only [intOf]; omega
  ·have hqk : q = ln := by have := hq.out; omega
   subst hqk
   have d1 : decide (q < q) = false := by simp
   have hall2 : l.all Mi.is = true := by
    rw [List.all_eq_true]
    intro x hx
    obtain ⟨j, hj, hjx⟩ := List.mem_iff_getElem.1 hx
    have := HL.out
    exact hall.out j x (by omega) (by rw [← hjx]; exact List.getElem?_eq_getElem hj)
   have HF := Yh_ (show decide (q ≤ 200) = r by
    rw [← HR.out]
    unfold isL
    rw [hall2, Bool.true_and]
    have := HL.out.1
    by_cases hh : q ≤ 200
    ·rw [decide_eq_true hh, decide_eq_true (by omega)]
    ·rw [decide_eq_false hh, decide_eq_false (by omega)])
   clear hlt hall2
   go_wp2_with fail
   go_ret
   exact ⟨by rw [← HF.out]; rfl, HU.out⟩
section
def Yw (d : Nat → Bool) (i : Nat) : Nat → Bool := fun j => if j = i then true else d j
def Ybv (listed : Array Bool) : Nat → Bool := fun j => listed.getD j false
theorem Yfy {listed : Array Bool} {i : Nat} (h : i < listed.size) : Ybv (listed.setIfInBounds i true) = Yw (Ybv listed) i := by
 funext j
 simp only [Ybv, Yw]
 by_cases e : j = i
 ·subst e; simp [h]
 ·rw [if_neg e, getD_set_ne false (fun h => e h.symm)]
theorem Yhp (n : Nat) : Ybv (Array.replicate n false) = fun _ => false := by
 funext j; exact getD_replicate_false _ _
def Yd0 (P : Program) (ops : Array Oper) (B : (Nat → Bool) → World → Prop) (X : List PanicEntry → World → Prop) (fin : List Nat → Act → Prop) : List Nat → Nat → List Oper → Act → Prop
 |dead, _, [], a => fin dead a
 |dead, i, o :: rest, a =>
  (Yac dead o = true ∧ Yd0 P ops B X fin (i :: dead) (i + 1) rest a) ∨
  (Yac dead o = false ∧ Region.wanted o (yielded ops a.tmps) = true ∧ ∃ v, (∀ d w, d i = false → B d w → o.wp P a w (fun a' w' => a' = a.put o.dst v ∧ B (Yw d i) w') (PX X)) ∧ Yd0 P ops B X fin dead (i + 1) rest (a.put o.dst v)) ∨
  (Yac dead o = false ∧ Region.wanted o (yielded ops a.tmps) = true ∧ (∀ d w, d i = false → B d w → o.wp P a w (fun _ _ => False) (PX X)) ∧ Yd0 P ops B X fin (i :: dead) (i + 1) rest a) ∨
  (Yac dead o = false ∧ Region.wanted o (yielded ops a.tmps) = false ∧ (∀ d w, d i = false → B d w → B (Yw d i) w) ∧ Yd0 P ops B X fin dead (i + 1) rest (a.put o.dst undef))
section
variable {P : Program} {ops : Array Oper} {B : (Nat → Bool) → World → Prop} {X : List PanicEntry → World → Prop} {fin : List Nat → Act → Prop} {dead : List Nat} {i : Nat} {o : Oper} {rest : List Oper} {a : Act}
theorem Yls (h : fin dead a) : Yd0 P ops B X fin dead i [] a := h
theorem Yk9 {a2 : Act} (hd : Yac dead o = false) (hw : Region.wanted o (yielded ops a.tmps) = true)
  (h : ∀ (d : Nat → Bool) (K : Act → World → Prop), d i = false → (∀ w', B (Yw d i) w' → K a2 w') → ∀ w, B d w → o.wp P a w K (PX X))
  (hv : ∃ v, a2 = a.put o.dst v) (k : Yd0 P ops B X fin dead (i + 1) rest a2) : Yd0 P ops B X fin dead i (o :: rest) a := by
 obtain ⟨v, rfl⟩ := hv
 exact .inr (.inl ⟨hd, hw, v, fun d w hdi hB => h d _ hdi (fun w' hB' => ⟨rfl, hB'⟩) w hB, k⟩)
end
structure Ygu (P : Program) (ops : Array Oper) (B : (Nat → Bool) → World → Prop) (X : List PanicEntry → World → Prop) (i n : Nat) (dead : List Nat) (a F : Act) (vs : Nat → Value) : Prop where
 live : ∀ (j : Nat) (o : Oper), i ≤ j → j < n → ops[j]? = some o → j ∉ dead →
  Yac dead o = false ∧ ((Region.wanted o (yielded ops F.tmps) = true ∧ ∀ d w, d j = false → B d w → Ybz P o F w (fun v w' => same o.dst a.tmps.size v (vs j) ∧ B (Yw d j) w') X) ∨ (Region.wanted o (yielded ops F.tmps) = false ∧ vs j = undef ∧ ∀ d w, d j = false → B d w → B (Yw d j) w))
 died : ∀ (j : Nat) (o : Oper), i ≤ j → j < n → ops[j]? = some o → j ∈ dead →
  Yac dead o = true ∨ (Region.wanted o (yielded ops F.tmps) = true ∧ ∀ d w, d j = false → B d w → Ybz P o F w (fun _ _ => False) X)
 defers : F.defers = a.defers
 size : F.tmps.size = a.tmps.size
 old : ∀ t, (∀ (j : Nat) (oj : Oper), i ≤ j → j < n → ops[j]? = some oj → oj.dst = some t → j ∈ dead) → F.tmps[t]? = a.tmps[t]?
 new : ∀ (j : Nat) (oj : Oper) t, i ≤ j → j < n → ops[j]? = some oj → j ∉ dead → oj.dst = some t → t < a.tmps.size → F.tmps[t]? = some (vs j)
theorem Ydv {P : Program} {ops : Array Oper} {B : (Nat → Bool) → World → Prop} {X : List PanicEntry → World → Prop} {fin : List Nat → Act → Prop} {n : Nat} (hk : Ydp ops n) :
  ∀ (l : List Oper) (i : Nat) (dead : List Nat) (a : Act), (∀ j, j < l.length → l[j]? = ops[i + j]?) → i + l.length = n → (∀ d, d ∈ dead → d < i) → Yd0 P ops B X fin dead i l a →
  ∃ (vs : Nat → Value) (dead' : List Nat) (F : Act), fin dead' F ∧ Ygu P ops B X i n dead' a F vs ∧ (∀ d, d < i → (d ∈ dead' ↔ d ∈ dead)) ∧ (∀ d, d ∈ dead' → d < n)
 |[], i, dead, a, _, hn, hd, h => by
  have hin : i = n := by simpa using hn
  refine ⟨fun _ => undef, dead, a, h, ⟨?_, ?_, rfl, rfl, fun _ _ => rfl, ?_⟩, fun _ _ => Iff.rfl, fun d hdd => by have := hd d hdd; omega⟩
  ·intro j o h1 h2; omega
  ·intro j o h1 h2; omega
  ·intro j oj t h1 h2; omega
 |o :: l, i, dead, a, hl, hn, hd, h => by
  simp only [List.length_cons] at hn
  have ho : ops[i]? = some o := by simpa using (hl 0 (by simp)).symm
  have hin : i < n := by omega
  have hl' : ∀ j, j < l.length → l[j]? = ops[i + 1 + j]? := fun j hj => by
   have := hl (j + 1) (by simpa using hj)
   simpa [Nat.add_assoc, Nat.add_comm 1 j] using this
  have haft := hk.after i o hin ho
  -- what the operation looks at stands to the end
  have hstay : ∀ (F b : Act) (dead' : List Nat) (vs : Nat → Value), Ygu P ops B X (i + 1) n dead' b F vs → (∀ t, t ∈ o.looksAt ops → b.tmps[t]? = a.tmps[t]?) → ∀ t, t ∈ o.looksAt ops → a.tmps[t]? = F.tmps[t]? := by
   intro F b dead' vs hr hb t ht
   rw [hr.old t (fun j oj h1 h2 h3 h4 => absurd (hk.looks i o j oj t hin ho h2 h3 h4 ht).1 (by omega)), hb t ht]
  have hput : ∀ (v : Value) t, t ∈ o.looksAt ops → (a.put o.dst v).tmps[t]? = a.tmps[t]? := fun v t ht =>
   Yau _ _ _ _ (fun he => absurd (hk.looks i o i o t hin ho hin ho he ht).1 (by omega))
  rcases h with ⟨hdd, h⟩ | ⟨hdd, hw, v, hv, h⟩ | ⟨hdd, hw, hv, h⟩ | ⟨hdd, hw, hsk, h⟩
  ·obtain ⟨vs, dead', F, hf, hr, hdi, hdn⟩ := Ydv hk l (i + 1) (i :: dead) a hl' (by omega) (fun d hm => by
    rcases List.mem_cons.1 hm with rfl | hm
    ·omega
    ·have := hd d hm; omega) h
   have hmem : i ∈ dead' := (hdi i (by omega)).2 (by simp)
   have hdi' : ∀ d, d < i → (d ∈ dead' ↔ d ∈ dead) := fun d hlt => by
    rw [hdi d (by omega)]
    constructor
    ·intro hm; rcases List.mem_cons.1 hm with rfl | hm
     ·omega
     ·exact hm
    ·intro hm; exact List.mem_cons_of_mem _ hm
   refine ⟨vs, dead', F, hf, ⟨?_, ?_, hr.defers, hr.size, ?_, ?_⟩, hdi', hdn⟩
   ·intro j oj h1 h2 h3 h4
    by_cases e : j = i
    ·subst e; exact absurd hmem h4
    ·exact hr.live j oj (by omega) h2 h3 h4
   ·intro j oj h1 h2 h3 h4
    by_cases e : j = i
    ·subst e
     have : oj = o := Option.some.inj (h3.symm.trans ho)
     subst this
     left; rw [Ybf haft hdi']; exact hdd
    ·exact hr.died j oj (by omega) h2 h3 h4
   ·intro t ht; exact hr.old t (fun j oj h1 => ht j oj (by omega))
   ·intro j oj t h1 h2 h3 h4
    by_cases e : j = i
    ·subst e; exact absurd hmem h4
    ·exact hr.new j oj t (by omega) h2 h3 h4
  ·obtain ⟨vs, dead', F, hf, hr, hdi, hdn⟩ := Ydv hk l (i + 1) dead _ hl' (by omega) (fun d hm => by have := hd d hm; omega) h
   have hmem : i ∉ dead' := fun hm => by have := hd i ((hdi i (by omega)).1 hm); omega
   have hs := Ya8 (hk.sel i o ho) (hstay F _ dead' vs hr (hput v))
   have hne : ∀ j, i + 1 ≤ j → (if j = i then v else vs j) = vs j := fun j hj => if_neg (by omega)
   refine ⟨fun j => if j = i then v else vs j, dead', F, hf, ⟨?_, ?_, by rw [hr.defers, Ya5], by rw [hr.size, Yae], ?_, ?_⟩, fun d hlt => hdi d (by omega), hdn⟩
   ·intro j oj h1 h2 h3 h4
    by_cases e : j = i
    ·subst e
     have : oj = o := Option.some.inj (h3.symm.trans ho)
     subst this
     refine ⟨by rw [Ybf haft (fun d hlt => hdi d (by omega))]; exact hdd, .inl ⟨by rw [← hs.2]; exact hw, fun d w hd0 hB => ?_⟩⟩
     rw [← Ya2 hs.1]
     simp only [if_true]
     exact Ye9 (hv d w hd0 hB)
    ·simp only [if_neg e]
     have := hr.live j oj (by omega) h2 h3 h4
     rwa [Yae] at this
   ·intro j oj h1 h2 h3 h4
    by_cases e : j = i
    ·subst e; exact absurd h4 hmem
    ·exact hr.died j oj (by omega) h2 h3 h4
   ·intro t ht
    rw [hr.old t (fun j oj h1 => ht j oj (by omega)), Yau _ _ _ _ (fun he => hmem (ht i o (Nat.le_refl _) hin ho he))]
   ·intro j oj t h1 h2 h3 h4 h5 h6
    by_cases e : j = i
    ·subst e
     have : oj = o := Option.some.inj (h3.symm.trans ho)
     subst this
     simp only [if_true]
     rw [hr.old t (fun k ok g1 g2 g3 g4 => absurd (hk.dst j oj k ok t h2 h3 g2 g3 g4 h5) (by omega)), h5, Yb5 _ _ _ h6]
    ·simp only [if_neg e]; exact hr.new j oj t (by omega) h2 h3 h4 h5 (by rw [Yae]; exact h6)
  ·obtain ⟨vs, dead', F, hf, hr, hdi, hdn⟩ := Ydv hk l (i + 1) (i :: dead) a hl' (by omega) (fun d hm => by
    rcases List.mem_cons.1 hm with rfl | hm
    ·omega
    ·have := hd d hm; omega) h
   have hmem : i ∈ dead' := (hdi i (by omega)).2 (by simp)
   have hdi' : ∀ d, d < i → (d ∈ dead' ↔ d ∈ dead) := fun d hlt => by
    rw [hdi d (by omega)]
    constructor
    ·intro hm; rcases List.mem_cons.1 hm with rfl | hm
     ·omega
     ·exact hm
    ·intro hm; exact List.mem_cons_of_mem _ hm
   have hs := Ya8 (hk.sel i o ho) (hstay F _ dead' vs hr (fun _ _ => rfl))
   refine ⟨vs, dead', F, hf, ⟨?_, ?_, hr.defers, hr.size, ?_, ?_⟩, hdi', hdn⟩
   ·intro j oj h1 h2 h3 h4
    by_cases e : j = i
    ·subst e; exact absurd hmem h4
    ·exact hr.live j oj (by omega) h2 h3 h4
   ·intro j oj h1 h2 h3 h4
    by_cases e : j = i
    ·subst e
     have : oj = o := Option.some.inj (h3.symm.trans ho)
     subst this
     right
     refine ⟨by rw [← hs.2]; exact hw, fun d w hd0 hB => ?_⟩
     rw [← Ya2 hs.1]
     exact Yd8 (hv d w hd0 hB)
    ·exact hr.died j oj (by omega) h2 h3 h4
   ·intro t ht; exact hr.old t (fun j oj h1 => ht j oj (by omega))
   ·intro j oj t h1 h2 h3 h4
    by_cases e : j = i
    ·subst e; exact absurd hmem h4
    ·exact hr.new j oj t (by omega) h2 h3 h4
  ·obtain ⟨vs, dead', F, hf, hr, hdi, hdn⟩ := Ydv hk l (i + 1) dead _ hl' (by omega) (fun d hm => by have := hd d hm; omega) h
   have hmem : i ∉ dead' := fun hm => by have := hd i ((hdi i (by omega)).1 hm); omega
   have hs := Ya8 (hk.sel i o ho) (hstay F _ dead' vs hr (hput undef))
   refine ⟨fun j => if j = i then undef else vs j, dead', F, hf, ⟨?_, ?_, by rw [hr.defers, Ya5], by rw [hr.size, Yae], ?_, ?_⟩, fun d hlt => hdi d (by omega), hdn⟩
   ·intro j oj h1 h2 h3 h4
    by_cases e : j = i
    ·subst e
     have : oj = o := Option.some.inj (h3.symm.trans ho)
     subst this
     refine ⟨by rw [Ybf haft (fun d hlt => hdi d (by omega))]; exact hdd, .inr ⟨by rw [← hs.2]; exact hw, by simp, hsk⟩⟩
    ·simp only [if_neg e]
     have := hr.live j oj (by omega) h2 h3 h4
     rwa [Yae] at this
   ·intro j oj h1 h2 h3 h4
    by_cases e : j = i
    ·subst e; exact absurd h4 hmem
    ·exact hr.died j oj (by omega) h2 h3 h4
   ·intro t ht
    rw [hr.old t (fun j oj h1 => ht j oj (by omega)), Yau _ _ _ _ (fun he => hmem (ht i o (Nat.le_refl _) hin ho he))]
   ·intro j oj t h1 h2 h3 h4 h5 h6
    by_cases e : j = i
    ·subst e
     have : oj = o := Option.some.inj (h3.symm.trans ho)
     subst this
     simp only [if_true]
     rw [hr.old t (fun k ok g1 g2 g3 g4 => absurd (hk.dst j oj k ok t h2 h3 g2 g3 g4 h5) (by omega)), h5, Yb5 _ _ _ h6]
    ·simp only [if_neg e]; exact hr.new j oj t (by omega) h2 h3 h4 h5 (by rw [Yae]; exact h6)
structure Yjk (ops : Array Oper) (B : (Nat → Bool) → World → Prop) (n : Nat) (dead : List Nat) (a0 F : Act) (listed : Array Bool) (a : Act) (w : World) : Prop where
 head : HeadInv .any ops n listed
 world : B (Ybv listed) w
 defers : a.defers = a0.defers
 size : a.tmps.size = a0.tmps.size
 live : ∀ (j : Nat), j < n → listed.getD j false = true → j ∉ dead
 old : ∀ t, (∀ (j : Nat) (oj : Oper), j < n → ops[j]? = some oj → oj.dst = some t → listed.getD j false = false) → a.tmps[t]? = a0.tmps[t]?
 new : ∀ (j : Nat) (oj : Oper) t, j < n → ops[j]? = some oj → listed.getD j false = true → oj.dst = some t → a.tmps[t]? = F.tmps[t]?
theorem Ygy {P : Program} {ops : Array Oper} {B : (Nat → Bool) → World → Prop} {X : List PanicEntry → World → Prop} {Q : Exit → Act → World → Prop} {n : Nat} {dead : List Nat} {a0 F : Act} {vs : Nat → Value}
  (hk : Ydp ops n) (hr : Ygu P ops B X 0 n dead a0 F vs) (hdn : ∀ d, d ∈ dead → d < n)
  (hwait : ∀ listed, HeadInv .any ops n listed → ∀ i, i < n → listed.getD i true = false → ∀ t, n ≤ t → t ∉ Region.ready .any ops listed)
  (hX : ∀ c a' w', X c w' → a'.defers = a0.defers → a'.tmps.size = a0.tmps.size → (∀ t, (∀ (j : Nat) (oj : Oper), j < n → ops[j]? = some oj → oj.dst ≠ some t) → a'.tmps[t]? = a0.tmps[t]?) → Q (.panic c) a' w')
  (hfin : ∀ listed w, HeadInv .any ops n listed → (∀ i, i < n → listed.getD i true = true) → dead = [] → B (Ybv listed) w → wpAny P .any ops Q (ops.size - n) listed F w) :
  ∀ (m : Nat) (listed : Array Bool) (a : Act) (w : World), Ybo n listed = m → Yjk ops B n dead a0 F listed a w → wpAny P .any ops Q (m + (ops.size - n)) listed a w
 |0, listed, a, w, hm, inv => by
  have hall := Yem hm
  have hall' : ∀ i, i < n → listed.getD i false = true := fun i hi => by
   have h1 := hall i hi
   have h2 : i < listed.size := by rw [inv.head.size]; have := hk.le; omega
   simp [h2] at h1 ⊢; exact h1
  have hdead : dead = [] := by
   cases hde : dead with
   |nil => rfl
   |cons d r =>
    have hd : d ∈ dead := by rw [hde]; simp
    exact absurd hd (inv.live d (hdn d hd) (hall' d (hdn d hd)))
  have hF : a = F := by
   have h1 : a.tmps = F.tmps := by
    apply Array.ext_getElem?
    intro t
    by_cases h : ∃ (j : Nat) (oj : Oper), j < n ∧ ops[j]? = some oj ∧ oj.dst = some t
    ·obtain ⟨j, oj, h1, h2, h3⟩ := h
     exact inv.new j oj t h1 h2 (hall' j h1) h3
    ·rw [inv.old t (fun j oj h1 h2 h3 => absurd ⟨j, oj, h1, h2, h3⟩ h), hr.old t (fun j oj _ h1 h2 h3 => absurd ⟨j, oj, h1, h2, h3⟩ h)]
   have h2 : a.defers = F.defers := by rw [inv.defers, hr.defers]
   cases a; cases F; simp_all
  rw [Nat.zero_add, hF]
  exact hfin listed w inv.head hall hdead inv.world
 |m + 1, listed, a, w, hm, inv => by
  rw [show m + 1 + (ops.size - n) = (m + (ops.size - n)) + 1 by omega]
  obtain ⟨i0, hi0, hun0⟩ : ∃ i, i < n ∧ listed.getD i true = false := by
   have : (List.range n).countP (fun i => !listed.getD i true) ≠ 0 := by
    show Ybo n listed ≠ 0
    omega
   rw [Ne, List.countP_eq_zero] at this
   simp only [Classical.not_forall] at this
   obtain ⟨i, hi, h⟩ := this
   exact ⟨i, List.mem_range.1 hi, by simpa using h⟩
  have hrd := Ye7 hk inv.head.size i0 hi0 hun0
  refine ⟨fun h0 => ?_, fun i hi => ?_⟩
  ·obtain ⟨j, _, hj⟩ := hrd
   rw [h0] at hj; cases hj
  ·have hin : i < n := by
    rcases Nat.lt_or_ge i n with h | h
    ·exact h
    ·exact absurd hi (hwait listed inv.head i0 hi0 hun0 i h)
   obtain ⟨hun, o, ho, hall⟩ := mem_ready.1 hi
   have hunf : listed.getD i false = false := getD_both hun
   have hm' := Yez hin hun
   -- what the operation looks at is as in the frame at the head's end
   have hlook : ∀ t, t ∈ o.looksAt ops → a.tmps[t]? = F.tmps[t]? := by
    intro t ht
    by_cases h : ∃ (j : Nat) (oj : Oper), j < n ∧ ops[j]? = some oj ∧ oj.dst = some t
    ·obtain ⟨j, oj, h1, h2, h3⟩ := h
     obtain ⟨_, e, he, hb, hon⟩ := hk.looks i o j oj t hin ho h1 h2 h3 ht
     exact inv.new j oj t h1 h2 (by rw [← hon]; exact hall e he hb) h3
    ·rw [inv.old t (fun j oj h1 h2 h3 => absurd ⟨j, oj, h1, h2, h3⟩ h), hr.old t (fun j oj _ h1 h2 h3 => absurd ⟨j, oj, h1, h2, h3⟩ h)]
   have hs := Ya8 (hk.sel i o ho) hlook
   have hnd : Yac dead o = false := by
    rw [Bool.eq_false_iff]
    intro hd
    simp only [Yac, List.any_eq_true, Bool.and_eq_true, List.contains_iff_mem, Array.mem_toList_iff] at hd
    obtain ⟨e, he, hb, hm⟩ := hd
    exact inv.live e.on (hdn _ hm) (hall e he hb) hm
   -- the next frame
   have hd0 : Ybv listed i = false := hunf
   have hnext : ∀ (v : Value) (w' : World), B (Yw (Ybv listed) i) w' → i ∉ dead → same o.dst a0.tmps.size v (vs i) → Yjk ops B n dead a0 F (listed.setIfInBounds i true) (a.put o.dst v) w' := by
    intro v w' hB hnot hv
    have hlt : i < listed.size := by rw [inv.head.size]; have := hk.le; omega
    refine ⟨inv.head.set hi hin, by rw [Yfy hlt]; exact hB, by rw [Ya5, inv.defers], by rw [Yae, inv.size], ?_, ?_, ?_⟩
    ·intro j hj hl
     by_cases e : i = j
     ·subst e; exact hnot
     ·rw [getD_set_ne false e] at hl; exact inv.live j hj hl
    ·intro t ht
     have hne : o.dst ≠ some t := fun he => by
      have := ht i o hin ho he
      simp [hlt] at this
     rw [Yau _ _ _ _ hne]
     refine inv.old t fun j oj h1 h2 h3 => ?_
     have := ht j oj h1 h2 h3
     by_cases e : i = j
     ·subst e; exact hunf
     ·rwa [getD_set_ne false e] at this
    ·intro j oj t h1 h2 h3 h4
     by_cases e : i = j
     ·subst e
      have : oj = o := Option.some.inj (h2.symm.trans ho)
      subst this
      rcases Nat.lt_or_ge t a.tmps.size with ht | ht
      ·rw [h4, Yb5 _ _ _ ht, hr.new i oj t (Nat.zero_le _) hin ho hnot h4 (by rw [← inv.size]; exact ht), hv t h4 (by rw [← inv.size]; exact ht)]
      ·rw [Array.getElem?_eq_none (by rw [Yae]; exact ht), Array.getElem?_eq_none (by rw [hr.size, ← inv.size]; exact ht)]
     ·rw [getD_set_ne false e] at h3
      have hne : o.dst ≠ some t := fun he => e (hk.dst i o j oj t hin ho h1 h2 h4 he)
      rw [Yau _ _ _ _ hne]
      exact inv.new j oj t h1 h2 h3 h4
   have hpan : ∀ c w', X c w' → Q (.panic c) a w' := fun c w' hx =>
    hX c a w' hx inv.defers inv.size fun t ht => inv.old t fun j oj h1 h2 h3 => absurd h3 (ht j oj h1 h2)
   unfold wpOp
   simp only [ho]
   by_cases hde : i ∈ dead
   ·rcases hr.died i o (Nat.zero_le _) hin ho hde with h | ⟨hw, h⟩
    ·rw [h] at hnd; cases hnd
    ·rw [if_pos (by rw [hs.2]; exact hw)]
     refine .inl (Yb8 ?_)
     rw [Ya2 hs.1]
     exact Yci (h _ w hd0 inv.world) (fun _ _ hf => hf.elim) hpan
   ·obtain ⟨_, ⟨hw, h⟩ | ⟨hw, h, hsk⟩⟩ := hr.live i o (Nat.zero_le _) hin ho hde
    ·rw [if_pos (by rw [hs.2]; exact hw)]
     refine .inl (Yb8 ?_)
     rw [Ya2 hs.1]
     refine Yci (h _ w hd0 inv.world) (fun v w' hv => ?_) hpan
     exact Ygy hk hr hdn hwait hX hfin m _ _ _ (by omega) (hnext v w' hv.2 hde hv.1)
    ·rw [if_neg (by rw [hs.2, hw]; simp)]
     exact Ygy hk hr hdn hwait hX hfin m _ _ _ (by omega) (hnext undef w (hsk _ w hd0 inv.world) hde (fun _ _ _ => h.symm))
theorem wp_drawD {P : Program} {id : Nat} {Q : Exit → Act → World → Prop} {a : Act} {w : World} {l : List Oper} (n : Nat) (B : (Nat → Bool) → World → Prop) (X : List PanicEntry → World → Prop) (hm : P.follows .mixedOrders = true) (hok : Yer l.toArray n = true)
  (hB : B (fun _ => false) w.drew)
  (hX : ∀ c a' w', X c w' → a'.defers = a.defers → a'.tmps.size = a.tmps.size → (∀ t, noDst l n t = true → a'.tmps[t]? = a.tmps[t]?) → Q (.panic c) a' w')
  (h : Yd0 P l.toArray B X (fun dead F => dead = [] → ∀ w1 d, (∀ j, j < n → d j = true) → B d w1 → wpList P l.toArray Q (l.drop n) F w1) [] 0 (l.take n) a) : (Code.region id l.toArray true).wp P Q a w := by
 simp only [Yer, Bool.and_eq_true, Bool.or_eq_true, decide_eq_true_eq] at hok
 obtain ⟨⟨hh, ht⟩, hq⟩ := hok
 have hk := Yen hh
 have hle : n ≤ l.length := by simpa using hk.le
 have htl : (l.take n).length = n := by simp; omega
 obtain ⟨vs, dead, F, hf, hr, _, hdn⟩ := Ydv hk (l.take n) 0 [] a (fun j hj => by
  have hj' : j < n := by rw [htl] at hj; exact hj
  simp [hj']) (by simpa using htl) (by simp) h
 have hun : Ybo n (Array.replicate l.toArray.size false) = n := by
  have : ∀ i, i ∈ List.range n → (!(Array.replicate l.toArray.size false).getD i true) = true := fun i hi => by
   have hi' : i < l.toArray.size := by have := List.mem_range.1 hi; simp; omega
   have hi'' : i < l.length := by simpa using hi'
   simp [hi'']
  unfold Ybo
  rw [List.countP_eq_length.2 this, List.length_range]
 have inv0 : HeadInv .any l.toArray n (Array.replicate l.toArray.size false) :=
  ⟨by simp, fun j oj _ hl => (by rw [getD_replicate_false] at hl; cases hl), fun t _ ht => getD_in (by simpa using ht) (getD_replicate_false _ _)⟩
 have hgo := Ygy (Q := Q) hk hr hdn ?_ (fun c a' w' hx h1 h2 h3 => hX c a' w' hx h1 h2 fun t ht' => h3 t fun j oj g1 g2 => Ye3 ht' j oj g1 (by simpa using g2)) ?_ n _ a w.drew hun
  ⟨inv0, by rw [Yhp]; exact hB, rfl, rfl, fun j _ hl => (by rw [getD_replicate_false] at hl; cases hl), fun _ _ => rfl, fun j oj t _ _ hl => (by rw [getD_replicate_false] at hl; cases hl)⟩
 ·refine wp_region_any hm ?_
  rw [show n + (l.toArray.size - n) = l.toArray.size by simp; omega] at hgo
  exact hgo
 ·intro listed inv i hi hun t hnt
  rcases ht with ht | ⟨⟨h1, h2⟩, h3⟩
  ·intro hrd
   obtain ⟨_, o, ho, _⟩ := mem_ready.1 hrd
   have := (Array.getElem?_eq_some_iff.1 ho).1
   omega
  ·exact tail_waits h2 h3 h1 inv _ i rfl hi hun t hnt
 ·intro listed w1 inv hall hd hBw
  have hlst : listed = Array.replicate n true ++ Array.replicate (l.toArray.size - n) false := by
   apply Array.ext
   ·rw [inv.size]; simp; omega
   ·intro i h1 h2
    by_cases hi : i < n
    ·have := hall i hi
     simp [h1] at this
     rw [this, Array.getElem_append_left (by simpa using hi)]
     simp
    ·have := inv.tail i (by omega) (by rw [← inv.size]; exact h1)
     simp [h1] at this
     rw [this, Array.getElem_append_right (by simpa using hi)]
     simp
  have hdl : (l.drop n).length = l.toArray.size - n := by simp
  have := wpAny_of_seq (md := .any) (P := P) (ops := l.toArray) (Q' := Q) (l.drop n) n listed F w1 (fun j => by simp [List.getElem?_drop]) (by rw [hdl, hlst]; exact hq) (hf hd w1 (Ybv listed) (fun j hj => by
   have h1 := hall j hj
   have h2 : j < listed.size := by rw [inv.size]; have := hk.le; omega
   simp only [Ybv]
   simp [h2] at h1 ⊢; exact h1) hBw)
  rwa [hdl] at this
end
end Go.Proofs.YtjkolegknpflfaaDoor
