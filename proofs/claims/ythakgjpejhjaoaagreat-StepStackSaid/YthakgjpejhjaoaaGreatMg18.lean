/-
  Parts of the proof (their names shortened by a program). No condition.
-/
import Derived.Test.YthakgjpejhjaoaaGreatMg01
import Derived.Test.YthakgjpejhjaoaaGreatMg04
import Derived.Test.YthakgjpejhjaoaaGreatMg05
import Derived.Test.YthakgjpejhjaoaaGreatMg17
namespace Go.Proofs.YthakgjpejhjaoaaGreat
open Go Go.RowKit
set_option linter.unusedVariables false
set_option linter.unusedSimpArgs false
set_option maxRecDepth 100000
set_option maxHeartbeats 16000000
def bI (c : Bool) : Int := if c = true then 1 else 0
def sI (x : Int) : Int := if x < 2147483648 then x else x - 4294967296
def Yh8 (n : Int) : Bool := !(decide (-2147483648 ≤ n) && decide (n < 2147483648))
def Yd6 (a b : Int) (c : Bool) : Int := (a + b + bI c) % 4294967296
def addC (a b : Int) (c : Bool) : Bool := decide (4294967296 ≤ a + b + bI c)
def addO (a b : Int) (c : Bool) : Bool := Yh8 (sI a + sI b + bI c)
def Yd2 (a b : Int) (c : Bool) : Int := (a - b - bI c) % 4294967296
def subC (a b : Int) (c : Bool) : Bool := decide (a - b - bI c < 0)
def subO (a b : Int) (c : Bool) : Bool := Yh8 (sI a - sI b - bI c)
theorem Yj2 (c : Bool) : 0 ≤ bI c ∧ bI c ≤ 1 := by cases c <;> simp [bI]
theorem Yg3 (x : Int) (h : 0 ≤ x ∧ x < 4294967296) : wrap32 x = sI x := by unfold wrap32 sI; split <;> omega
theorem Yf9 (x : Int) (h : 0 ≤ x ∧ x < 4294967296) : -2147483648 ≤ sI x ∧ sI x < 2147483648 := by unfold sI; split <;> omega
theorem Yi0 (c : Bool) (w : World) : Calls Tryz.prog 129 #[.bool c] w fun e w' => e = .returned (.int .u64 (bI c)) ∧ w = w' := by
 cases c
 all_goals
  go_enter Tryz.func129, Tryz.ntmps129
  go_wp2
  go_ret
  exact ⟨rfl, rfl⟩
theorem Ykr (n : Int) (w : World) : Calls Tryz.prog 130 #[.int .i64 n] w fun e w' => e = .returned (.bool (Yh8 n)) ∧ w = w' := by
 have q : wrap64 (wrap32 n) = wrap32 n := by unfold wrap64 wrap32; omega
 have e : (n != wrap32 n) = Yh8 n := by
  unfold Yh8 wrap32
  rw [Bool.eq_iff_iff]
  simp only [bne_iff_ne, ne_eq, Bool.not_eq_true', Bool.and_eq_false_iff, decide_eq_false_iff_not]
  omega
 go_enter Tryz.func130, Tryz.ntmps130
 go_wp2
 go_ret
 exact ⟨rfl, rfl⟩
theorem u64w (x : Int) : IntKind.u64.wrap x = x % 18446744073709551616 := by
 simp [IntKind.wrap, IntKind.bits, IntKind.signed]
theorem Yj6 (a b : Int) (c : Bool) (w : World) (ha : 0 ≤ a ∧ a < 4294967296) (hb : 0 ≤ b ∧ b < 4294967296) : Calls Tryz.prog 98 #[.int .u32 a, .int .u32 b, .bool c] w fun e w' => e = .returned (.tuple #[.int .u32 (Yd6 a b c), .bool (addC a b c), .bool (addO a b c)]) ∧ w = w' := by
 have hc := Yj2 c
 have sa := Yf9 a ha
 have sb := Yf9 b hb
 have q0 : IntKind.u64.wrap a = a := by rw [u64w]; omega
 have q00 : IntKind.u64.wrap b = b := by rw [u64w]; omega
 have q1 : IntKind.u64.wrap (a + b) = a + b := by rw [u64w]; omega
 have q2 : IntKind.u64.wrap (a + b + bI c) = a + b + bI c := by rw [u64w]; omega
 have q3 := Yg3 a ha
 have q4 := Yg3 b hb
 have q5 : wrap64 (sI a) = sI a := by unfold wrap64; omega
 have q6 : wrap64 (sI b) = sI b := by unfold wrap64; omega
 have q7 : wrap64 (sI a + sI b) = sI a + sI b := by unfold wrap64; omega
 have q8 : wrap64 (bI c) = bI c := by unfold wrap64; omega
 have q9 : wrap64 (sI a + sI b + bI c) = sI a + sI b + bI c := by unfold wrap64; omega
 have hK : ((a + b + bI c) / 4294967296 != 0) = addC a b c := by
  rw [Bool.eq_iff_iff]
  simp only [bne_iff_ne, ne_eq, addC, decide_eq_true_eq]
  omega
 clear ha hb hc sa sb
 go_enter Tryz.func98, Tryz.ntmps98
 go_wp2_with (first | (go_at_call 129; refine (Yi0 c _).mono ?_; rintro e w' ⟨rfl, rfl⟩) | (go_at_call 130; refine (Ykr _ _).mono ?_; rintro e w' ⟨rfl, rfl⟩))
 exact bodyPost_ret (Yam rfl (Yae 6 rfl) (Yae 7 rfl) (Yae 8 rfl)) rfl ⟨rfl, rfl⟩
theorem Ykb (a b : Int) (c : Bool) (w : World) (ha : 0 ≤ a ∧ a < 4294967296) (hb : 0 ≤ b ∧ b < 4294967296) : Calls Tryz.prog 99 #[.int .u32 a, .int .u32 b, .bool c] w fun e w' => e = .returned (.tuple #[.int .u32 (Yd2 a b c), .bool (subC a b c), .bool (subO a b c)]) ∧ w = w' := by
 have hc := Yj2 c
 have sa := Yf9 a ha
 have sb := Yf9 b hb
 obtain ⟨x, hx⟩ : ∃ x, (a - b - bI c) % 18446744073709551616 = x := ⟨_, rfl⟩
 have q0 : IntKind.u64.wrap a = a := by rw [u64w]; omega
 have q00 : IntKind.u64.wrap b = b := by rw [u64w]; omega
 obtain ⟨y, hy⟩ : ∃ y, (a - b) % 18446744073709551616 = y := ⟨_, rfl⟩
 have q1 : IntKind.u64.wrap (a - b) = y := by rw [u64w]; exact hy
 have q2 : IntKind.u64.wrap (y - bI c) = x := by rw [u64w]; omega
 have q3 := Yg3 a ha
 have q4 := Yg3 b hb
 have q5 : wrap64 (sI a) = sI a := by unfold wrap64; omega
 have q6 : wrap64 (sI b) = sI b := by unfold wrap64; omega
 have q7 : wrap64 (sI a - sI b) = sI a - sI b := by unfold wrap64; omega
 have q8 : wrap64 (bI c) = bI c := by unfold wrap64; omega
 have q9 : wrap64 (sI a - sI b - bI c) = sI a - sI b - bI c := by unfold wrap64; omega
 have qv : x % 4294967296 = Yd2 a b c := by unfold Yd2; omega
 have hK : (x / 4294967296 != 0) = subC a b c := by
  rw [Bool.eq_iff_iff]
  simp only [bne_iff_ne, ne_eq, subC, decide_eq_true_eq]
  omega
 clear ha hb hc sa sb hy hx
 go_enter Tryz.func99, Tryz.ntmps99
 go_wp2_with (first | (go_at_call 129; refine (Yi0 c _).mono ?_; rintro e w' ⟨rfl, rfl⟩) | (go_at_call 130; refine (Ykr _ _).mono ?_; rintro e w' ⟨rfl, rfl⟩))
 exact bodyPost_ret (Yam rfl (Yae 6 rfl) (Yae 7 rfl) (Yae 8 rfl)) rfl ⟨rfl, rfl⟩
theorem and_one (v : Int) (h0 : 0 ≤ v) (h1 : v < 4294967296) : bits .and .u32 v 1 = v % 2 := by
 obtain ⟨v, rfl⟩ := Int.eq_ofNat_of_zero_le h0
 have := u32_and_nat v 1 (by omega) (by decide)
 rw [Nat.and_one_is_mod] at this
 exact this
def oddB (x : Int) : Nat → Bool
 |0 => false
 |k + 1 => oddB x k != (x / 2 ^ k % 2 == 1)
def parB (x : Int) : Bool := !oddB x 8
theorem Ynk (x : Int) (w : World) (hx : 0 ≤ x ∧ x < 4294967296) : Calls Tryz.prog 100 #[.int .u32 x] w fun e w' => e = .returned (.bool (parB x)) ∧ w = w' := by
 go_enter Tryz.func100, Tryz.ntmps100
 go_wp2_with fail
 go_loopw [3, 5] (fun o i wr => ∃ k : Nat, k ≤ 8 ∧ o = .bool (oddB x k) ∧ i = .int .i64 k ∧ w = wr) (fun _ i _ => 8 - (intOf i).toNat)
 case atStart => exact ⟨0, Nat.zero_le _, rfl, rfl, rfl⟩
 case round =>
  obtain ⟨k, hk, rfl, rfl, rfl⟩ := hrel
  by_cases hlt : k < 8
  ·have d1 : decide ((k : Int) < 8) = true := by simp; omega
   have hd := Int.ediv_nonneg hx.1 (show (0 : Int) ≤ 2 ^ k from Int.le_of_lt (Int.pow_pos (by decide)))
   have hd2 : x / 2 ^ k ≤ x := Int.ediv_le_self _ hx.1
   have qa := and_one (x / 2 ^ k) hd (by omega)
   have HX := Yh_ hx
   clear hd hd2 hx
   go_wp2_with fail
   exact ⟨⟨k + 1, by omega, by rw [oddB]; cases oddB x k <;> cases (x / 2 ^ k % 2 == 1) <;> rfl, rfl, trivial⟩, by simp [intOf]; omega⟩
  ·obtain rfl : k = 8 := by omega
   go_wp2_with fail
   go_ret
   exact ⟨rfl, rfl⟩
structure Fl where
 cf : Bool
 pf : Bool
 af : Bool
 zf : Bool
 sf : Bool
 of_ : Bool
def Fl.cells (f : Fl) : Array Value := #[.bool f.cf, .bool f.pf, .bool f.af, .bool f.zf, .bool f.sf, .bool f.of_]
def Fl.zero : Fl := ⟨false, false, false, false, false, false⟩
def St.fl (s : St) : Fl := ⟨s.cf, s.pf, s.af, s.zf, s.sf, s.of_⟩
def St.setFl (s : St) (f : Fl) : St := { s with cf := f.cf, pf := f.pf, af := f.af, zf := f.zf, sf := f.sf, of_ := f.of_ }
def Fl.by (f : Fl) (r : Int) : Fl := { f with zf := r == 0, sf := decide (2147483648 ≤ r), pf := parB r }
def addF (a b : Int) (c : Bool) : Fl := Fl.by ⟨addC a b c, false, decide (15 < Yd6 (a % 16) (b % 16) c), false, false, addO a b c⟩ (Yd6 a b c)
def Yer (a b : Int) (c : Bool) : Fl := Fl.by ⟨subC a b c, false, subC (a % 16) (b % 16) c, false, false, subO a b c⟩ (Yd2 a b c)
def Ybq (op a b : Int) (f : Fl) : Int :=
 if op = 3 then Yd6 a b false else if op = 5 then Yd6 a b f.cf else if op = 8 then Yd2 a b false else if op = 6 then Yd2 a b f.cf
 else if op = 7 then bits .and .u32 a b else if op = 4 then bits .or .u32 a b else if op = 9 then bits .xor .u32 a b
 else if op = 12 then Yd6 a 1 false else if op = 13 then Yd2 a 1 false else if op = 15 then Yd2 0 a false else if op = 14 then bits .xor .u32 IntKind.u32.max a else a
def Ya9 (op a b : Int) (f : Fl) : Fl :=
 if op = 3 then addF a b false else if op = 5 then addF a b f.cf else if op = 8 ∨ op = 10 then Yer a b false else if op = 6 then Yer a b f.cf
 else if op = 7 ∨ op = 11 then Fl.by Fl.zero (bits .and .u32 a b) else if op = 4 then Fl.by Fl.zero (bits .or .u32 a b) else if op = 9 then Fl.by Fl.zero (bits .xor .u32 a b)
 else if op = 12 then { addF a 1 false with cf := f.cf } else if op = 13 then { Yer a 1 false with cf := f.cf } else if op = 15 then Yer 0 a false else f
theorem Yih : (Tryz.prog.info? 25).map (·.size) = some 6 := by kernel_rfl
theorem Ycc {tmps : Array Value} {w : World} (a : Tmp) (b : Nat) (f : Fl) (ha : tmps.getD a undef = .pointer (some ⟨b, 0, none⟩)) (hb : w.heap[b]? = some (.cells f.cells 25 (0, 0))) :
  (Ybh tmps (.cell a 25)).run Tryz.prog w = .ok (.agg f.cells) w :=
 Yba a 25 b _ _ ha hb Tryz.underlying25 rfl Yih
theorem Yfu (f : Fl) (r : Int) (w : World) (hr : 0 ≤ r ∧ r < 4294967296) : Calls Tryz.prog 63 #[.agg f.cells, .int .u32 r] w fun e w' => e = .returned (.agg (f.by r).cells) ∧ Upd [] w w' := by
 have qs : (r / 2147483648 == 1) = decide (2147483648 ≤ r) := by
  rw [Bool.eq_iff_iff]
  simp only [beq_iff_eq, decide_eq_true_eq]
  omega
 have HR := Yh_ hr
 obtain ⟨p, hp⟩ : ∃ p, parB r = p := ⟨_, rfl⟩
 have HP := Yh_ hp
 obtain ⟨c, d, e, z, n, o⟩ := f
 clear hr hp
 unfold Fl.cells
 go_enter Tryz.func63, Tryz.ntmps63
 go_wp2_with (go_at_call 100; refine (Ynk r _ HR.out).mono ?_; rintro e w' ⟨rfl, rfl⟩; rw [HP.out])
 refine bodyPost_ret (Ye rfl (Ycc 4 (w.heap.size + 1) (Fl.by ⟨c, d, e, z, n, o⟩ r) rfl ?_)) rfl ⟨rfl, ((Upd.refl [] w).alloc _).alloc _⟩
 rw [Fl.by, HP.out]
 exact heap_alloc2_new _ _ _
theorem Yhw (v : Int) (h0 : 0 ≤ v) (h1 : v < 4294967296) : bits .and .u32 v 15 = v % 16 := by
 obtain ⟨v, rfl⟩ := Int.eq_ofNat_of_zero_le h0
 have := u32_and_nat v 15 (by omega) (by decide)
 rw [show (15 : Nat) = 2 ^ 4 - 1 from rfl, Nat.and_two_pow_sub_one_eq_mod] at this
 exact this
theorem Yca {w : World} {b : Nat} {t : TypeId} {a0 a1 a2 a3 a4 a5 : Value} (h : w.heap[b]? = some (.cells #[a0, a1, a2, a3, a4, a5] t (0, 0))) (u0 u1 u2 u3 u4 u5 : Value) :
  ((((((w.setCell ⟨b, 0, none⟩ u0).setCell ⟨b, 1, none⟩ u1).setCell ⟨b, 2, none⟩ u2).setCell ⟨b, 3, none⟩ u3).setCell ⟨b, 4, none⟩ u4).setCell ⟨b, 5, none⟩ u5).heap[b]? = some (.cells #[u0, u1, u2, u3, u4, u5] t (0, 0)) :=
 Yf (Yf (Yf (Yf (Yf (Yf h 0 u0) 1 u1) 2 u2) 3 u3) 4 u4) 5 u5
theorem Ya5 {S : List Nat} {w0 w : World} {b : Nat} (h : Upd S w0 w) (hb : b ∈ S ∨ w0.heap.size ≤ b) (u0 u1 u2 u3 u4 u5 : Value) :
  Upd S w0 ((((((w.setCell ⟨b, 0, none⟩ u0).setCell ⟨b, 1, none⟩ u1).setCell ⟨b, 2, none⟩ u2).setCell ⟨b, 3, none⟩ u3).setCell ⟨b, 4, none⟩ u4).setCell ⟨b, 5, none⟩ u5) :=
 (((((h.setCell (p := ⟨b, 0, none⟩) hb _).setCell (p := ⟨b, 1, none⟩) hb _).setCell (p := ⟨b, 2, none⟩) hb _).setCell (p := ⟨b, 3, none⟩) hb _).setCell (p := ⟨b, 4, none⟩) hb _).setCell (p := ⟨b, 5, none⟩) hb _
theorem Yh9 (a b : Int) (c : Bool) : 0 ≤ Yd6 a b c ∧ Yd6 a b c < 4294967296 := by unfold Yd6; omega
theorem Yhx (a b : Int) (c : Bool) : 0 ≤ Yd2 a b c ∧ Yd2 a b c < 4294967296 := by unfold Yd2; omega
theorem Yho (a b : Int) (c : Bool) (w : World) (ha : 0 ≤ a ∧ a < 4294967296) (hb : 0 ≤ b ∧ b < 4294967296) : Calls Tryz.prog 61 #[.int .u32 a, .int .u32 b, .bool c] w fun e w' => e = .returned (.tuple #[.int .u32 (Yd6 a b c), .agg (addF a b c).cells]) ∧ Upd [] w w' := by
 have q1 := Yhw a ha.1 ha.2
 have q2 := Yhw b hb.1 hb.2
 have HA := Yh_ (And.intro ha hb)
 obtain ⟨⟨x0, x1, x2, x3, x4, x5⟩, hF⟩ : ∃ F, addF a b c = F := ⟨_, rfl⟩
 have HF := Yh_ hF
 have tok1 : True := trivial
 have tok2 : True := trivial
 have tok3 : True := trivial
 clear ha hb
 rw [hF]
 clear hF
 unfold Fl.cells
 go_enter Tryz.func61, Tryz.ntmps61
 go_wp2_with (first | (have _t := tok1; clear _t; go_at_call 98; refine (Yj6 a b c _ HA.out.1 HA.out.2).mono ?_; rintro e w' ⟨rfl, rfl⟩; clear tok1) | (have _t := tok2; clear _t; go_at_call 98; refine (Yj6 (a % 16) (b % 16) c _ (by omega) (by omega)).mono ?_; rintro e w' ⟨rfl, rfl⟩; clear tok2) | (have _t := tok3; clear _t; go_at_call 63; refine (Yfu ⟨addC a b c, false, decide (15 < Yd6 (a % 16) (b % 16) c), false, false, addO a b c⟩ (Yd6 a b c) _ (Yh9 a b c)).mono ?_; rintro e w1 ⟨rfl, hu⟩; rw [show Fl.by ⟨addC a b c, false, decide (15 < Yd6 (a % 16) (b % 16) c), false, false, addO a b c⟩ (Yd6 a b c) = addF a b c from rfl, HF.out]; unfold Fl.cells; have hg := hu.get (heap_alloc_new w _) (by simp); have ch := Ya hg; have fh := Yh hg; have U1 := Yh_ (And.intro hg (((Upd.refl [] w).alloc _).also hu (by simp))); clear hg hu tok3))
 exact bodyPost_ret (Yar rfl (Yae 6 rfl) (Ycc 7 w.heap.size ⟨x0, x1, x2, x3, x4, x5⟩ rfl (Yca U1.out.1 _ _ _ _ _ _))) rfl ⟨rfl, Ya5 U1.out.2 (.inr (Nat.le_refl _)) _ _ _ _ _ _⟩
theorem Yen (a b : Int) (c : Bool) (w : World) (ha : 0 ≤ a ∧ a < 4294967296) (hb : 0 ≤ b ∧ b < 4294967296) : Calls Tryz.prog 62 #[.int .u32 a, .int .u32 b, .bool c] w fun e w' => e = .returned (.tuple #[.int .u32 (Yd2 a b c), .agg (Yer a b c).cells]) ∧ Upd [] w w' := by
 have q1 := Yhw a ha.1 ha.2
 have q2 := Yhw b hb.1 hb.2
 have HA := Yh_ (And.intro ha hb)
 obtain ⟨⟨x0, x1, x2, x3, x4, x5⟩, hF⟩ : ∃ F, Yer a b c = F := ⟨_, rfl⟩
 have HF := Yh_ hF
 have tok1 : True := trivial
 have tok2 : True := trivial
 have tok3 : True := trivial
 clear ha hb
 rw [hF]
 clear hF
 unfold Fl.cells
 go_enter Tryz.func62, Tryz.ntmps62
 go_wp2_with (first | (have _t := tok1; clear _t; go_at_call 99; refine (Ykb a b c _ HA.out.1 HA.out.2).mono ?_; rintro e w' ⟨rfl, rfl⟩; clear tok1) | (have _t := tok2; clear _t; go_at_call 99; refine (Ykb (a % 16) (b % 16) c _ (by omega) (by omega)).mono ?_; rintro e w' ⟨rfl, rfl⟩; clear tok2) | (have _t := tok3; clear _t; go_at_call 63; refine (Yfu ⟨subC a b c, false, subC (a % 16) (b % 16) c, false, false, subO a b c⟩ (Yd2 a b c) _ (Yhx a b c)).mono ?_; rintro e w1 ⟨rfl, hu⟩; rw [show Fl.by ⟨subC a b c, false, subC (a % 16) (b % 16) c, false, false, subO a b c⟩ (Yd2 a b c) = Yer a b c from rfl, HF.out]; unfold Fl.cells; have hg := hu.get (heap_alloc_new w _) (by simp); have ch := Ya hg; have fh := Yh hg; have U1 := Yh_ (And.intro hg (((Upd.refl [] w).alloc _).also hu (by simp))); clear hg hu tok3))
 exact bodyPost_ret (Yar rfl (Yae 6 rfl) (Ycc 7 w.heap.size ⟨x0, x1, x2, x3, x4, x5⟩ rfl (Yca U1.out.1 _ _ _ _ _ _))) rfl ⟨rfl, Ya5 U1.out.2 (.inr (Nat.le_refl _)) _ _ _ _ _ _⟩
theorem Yin (a b : Int) (ha : 0 ≤ a ∧ a < 4294967296) (hb : 0 ≤ b ∧ b < 4294967296) : 0 ≤ bits .and .u32 a b ∧ bits .and .u32 a b < 4294967296 := by
 obtain ⟨a, rfl⟩ := Int.eq_ofNat_of_zero_le ha.1
 obtain ⟨b, rfl⟩ := Int.eq_ofNat_of_zero_le hb.1
 rw [u32_and_nat a b (by omega) (by omega)]
 have : a &&& b ≤ a := Nat.and_le_left
 omega
theorem or_u32 (a b : Int) (ha : 0 ≤ a ∧ a < 4294967296) (hb : 0 ≤ b ∧ b < 4294967296) : 0 ≤ bits .or .u32 a b ∧ bits .or .u32 a b < 4294967296 := by
 obtain ⟨a, rfl⟩ := Int.eq_ofNat_of_zero_le ha.1
 obtain ⟨b, rfl⟩ := Int.eq_ofNat_of_zero_le hb.1
 rw [u32_or_nat a b (by omega) (by omega)]
 have : a ||| b < 2 ^ 32 := Nat.or_lt_two_pow (by omega) (by omega)
 omega
theorem Yim (a b : Int) (ha : 0 ≤ a ∧ a < 4294967296) (hb : 0 ≤ b ∧ b < 4294967296) : 0 ≤ bits .xor .u32 a b ∧ bits .xor .u32 a b < 4294967296 := by
 obtain ⟨a, rfl⟩ := Int.eq_ofNat_of_zero_le ha.1
 obtain ⟨b, rfl⟩ := Int.eq_ofNat_of_zero_le hb.1
 rw [u32_xor_nat a b (by omega) (by omega)]
 have : a ^^^ b < 2 ^ 32 := Nat.xor_lt_two_pow (by omega) (by omega)
 omega
structure AlS (w : World) (f : Fl) (w1 : World) : Prop where
 z7 : w1.heap[w.heap.size]? = some (.cells f.cells 25 (0, 0))
 z9 : w1.heap[w.heap.size + 1]? = some (.cells Fl.zero.cells 25 (0, 0))
 z10 : w1.heap[w.heap.size + 1 + 1]? = some (.cells f.cells 25 (0, 0))
 u : Upd [] w w1
theorem AlS.of {w w1 : World} {f : Fl} (hu : Upd [] (((w.alloc (.cells f.cells 25)).alloc (.cells Fl.zero.cells 25)).alloc (.cells f.cells 25)) w1) : AlS w f w1 := by
 have h2 := heap_alloc_new ((w.alloc (.cells f.cells 25)).alloc (.cells Fl.zero.cells 25)) (.cells f.cells 25)
 rw [show ((w.alloc (.cells f.cells 25)).alloc (.cells Fl.zero.cells 25)).heap.size = w.heap.size + 1 + 1 from by simp] at h2
 exact ⟨hu.get (Yk _ (heap_alloc2_old _ _ _)) (by simp), hu.get (Yk _ (heap_alloc2_new _ _ _)) (by simp), hu.get h2 (by simp), ((((Upd.refl [] w).alloc _).alloc _).alloc _).also hu (by simp)⟩
structure AlE (w : World) (f : Fl) (w1 : World) : Prop where
 r7 : w1.heap[w.heap.size]? = some (.cells f.cells 25 (0, 0))
 r9 : w1.heap[w.heap.size + 1]? = some (.cells Fl.zero.cells 25 (0, 0))
 u : Upd [] w w1
theorem AlE.drew {w w1 : World} {f : Fl} (h : AlE w f w1) : AlE w f w1.drew := by
 have u := (Upd.refl [] w1).drew
 exact ⟨u.get h.r7 (by simp), u.get h.r9 (by simp), h.u.drew⟩
theorem AlS.st {w w1 : World} {f : Fl} (h : AlS w f w1) (x0 x1 x2 x3 x4 x5 : Bool) : AlE w ⟨x0, x1, x2, x3, x4, x5⟩ ((((((w1.setCell ⟨w.heap.size, 0, none⟩ (.bool x0)).setCell ⟨w.heap.size, 1, none⟩ (.bool x1)).setCell ⟨w.heap.size, 2, none⟩ (.bool x2)).setCell ⟨w.heap.size, 3, none⟩ (.bool x3)).setCell ⟨w.heap.size, 4, none⟩ (.bool x4)).setCell ⟨w.heap.size, 5, none⟩ (.bool x5)) :=
 ⟨Yca h.z7 _ _ _ _ _ _, (Ya5 (S := [w.heap.size]) (Upd.refl _ w1) (.inl (by simp)) _ _ _ _ _ _).get h.z9 (by simp), Ya5 h.u (.inr (Nat.le_refl _)) _ _ _ _ _ _⟩
theorem AlE.cf {w w1 : World} {f : Fl} (h : AlE w f w1) (x : Bool) : AlE w { f with cf := x } (w1.setCell ⟨w.heap.size, 0, none⟩ (.bool x)) :=
 ⟨Yf h.r7 0 (.bool x), ((Upd.refl [w.heap.size] w1).setCell (p := ⟨w.heap.size, 0, none⟩) (.inl (by simp)) (.bool x)).get h.r9 (by simp), h.u.setCell (p := ⟨w.heap.size, 0, none⟩) (.inr (Nat.le_refl _)) _⟩
theorem AlE.start {w : World} {f : Fl} : AlE w f (((w.alloc (.cells f.cells 25)).alloc (.cells Fl.zero.cells 25)).alloc (.cells f.cells 25)) :=
 ⟨(AlS.of (Upd.refl [] _)).z7, (AlS.of (Upd.refl [] _)).z9, (AlS.of (Upd.refl [] _)).u⟩
theorem aluDo_3 (a b : Int) (f : Fl) (w : World) (ha : 0 ≤ a ∧ a < 4294967296) (hb : 0 ≤ b ∧ b < 4294967296) :
  Calls Tryz.prog 47 #[.int .i64 3, .int .u32 a, .int .u32 b, .agg f.cells] w fun e w' => e = .returned (.tuple #[.int .u32 (Ybq 3 a b f), .agg (Ya9 3 a b f).cells]) ∧ Upd [] w w' := by
 obtain ⟨c, d, e', z, n, o⟩ := f
 have HA := Yh_ (And.intro ha hb)
 obtain ⟨⟨x0, x1, x2, x3, x4, x5⟩, hF⟩ : ∃ F, addF a b false = F := ⟨_, rfl⟩
 have HF := Yh_ hF
 have HV := Yh_ (show Ya9 3 a b ⟨c, d, e', z, n, o⟩ = ⟨x0, x1, x2, x3, x4, x5⟩ by simp [Ya9, hF])
 clear hF
 have tok : True := trivial
 clear ha hb
 rw [HV.out]
 simp only [Ybq]
 unfold Fl.cells
 go_enter Tryz.func47, Tryz.ntmps47
 go_wp2_with (have _t := tok; clear _t; go_at_call 61; refine (Yho a b false _ HA.out.1 HA.out.2).mono ?_; rintro e w1 ⟨rfl, hu⟩; rw [HF.out]; unfold Fl.cells; have h1 := AlS.of (f := ⟨c, d, e', z, n, o⟩) hu; have ch := Ya h1.z7; have fh := Yh h1.z7; have c10 := Ya h1.z10; unfold Fl.cells at ch c10; have H1 := Yh_ h1; clear hu h1 tok)
 refine Yaw 3 (AlE w ⟨x0, x1, x2, x3, x4, x5⟩) (fun _ _ => False) (by kernel_rfl) (by decide +kernel) ((H1.out.st x0 x1 x2 x3 x4 x5)).drew (fun _ _ _ h => h.elim) ?_
 simp only [List.take_succ_cons, List.take_zero, List.drop_succ_cons, List.drop_zero]
 iterate 3
  apply Yab rfl rfl
  ·intro K hK w5 hB1
   have c7 := Ya hB1.r7
   unfold Fl.cells at c7
   have HB := Yh_ hB1
   clear hB1
   go_wp2_with fail
   first
   |exact hK _ HB.out
   |exact HB.out
  ·exact ⟨_, rfl⟩
 refine Yal (fun _ w5 hB1 => ?_)
 have c9 := Ya hB1.r9
 have f9 := Yh hB1.r9
 unfold Fl.cells Fl.zero at c9
 have HB := Yh_ hB1
 clear hB1
 go_wp2_with fail
 exact bodyPost_ret (Yar rfl (Yae 8 rfl) (Ycc 9 (w.heap.size + 1) ⟨x0, x1, x2, x3, x4, x5⟩ rfl (Yca HB.out.r9 _ _ _ _ _ _))) rfl ⟨rfl, Ya5 HB.out.u (.inr (by omega)) _ _ _ _ _ _⟩
theorem aluDo_5 (a b : Int) (f : Fl) (w : World) (ha : 0 ≤ a ∧ a < 4294967296) (hb : 0 ≤ b ∧ b < 4294967296) :
  Calls Tryz.prog 47 #[.int .i64 5, .int .u32 a, .int .u32 b, .agg f.cells] w fun e w' => e = .returned (.tuple #[.int .u32 (Ybq 5 a b f), .agg (Ya9 5 a b f).cells]) ∧ Upd [] w w' := by
 obtain ⟨c, d, e', z, n, o⟩ := f
 have HA := Yh_ (And.intro ha hb)
 obtain ⟨⟨x0, x1, x2, x3, x4, x5⟩, hF⟩ : ∃ F, addF a b c = F := ⟨_, rfl⟩
 have HF := Yh_ hF
 have HV := Yh_ (show Ya9 5 a b ⟨c, d, e', z, n, o⟩ = ⟨x0, x1, x2, x3, x4, x5⟩ by simp [Ya9, hF])
 clear hF
 have tok : True := trivial
 clear ha hb
 rw [HV.out]
 simp only [Ybq]
 unfold Fl.cells
 go_enter Tryz.func47, Tryz.ntmps47
 go_wp2_with (have _t := tok; clear _t; go_at_call 61; refine (Yho a b c _ HA.out.1 HA.out.2).mono ?_; rintro e w1 ⟨rfl, hu⟩; rw [HF.out]; unfold Fl.cells; have h1 := AlS.of (f := ⟨c, d, e', z, n, o⟩) hu; have ch := Ya h1.z7; have fh := Yh h1.z7; have c10 := Ya h1.z10; unfold Fl.cells at ch c10; have H1 := Yh_ h1; clear hu h1 tok)
 refine Yaw 3 (AlE w ⟨x0, x1, x2, x3, x4, x5⟩) (fun _ _ => False) (by kernel_rfl) (by decide +kernel) ((H1.out.st x0 x1 x2 x3 x4 x5)).drew (fun _ _ _ h => h.elim) ?_
 simp only [List.take_succ_cons, List.take_zero, List.drop_succ_cons, List.drop_zero]
 iterate 3
  apply Yab rfl rfl
  ·intro K hK w5 hB1
   have c7 := Ya hB1.r7
   unfold Fl.cells at c7
   have HB := Yh_ hB1
   clear hB1
   go_wp2_with fail
   first
   |exact hK _ HB.out
   |exact HB.out
  ·exact ⟨_, rfl⟩
 refine Yal (fun _ w5 hB1 => ?_)
 have c9 := Ya hB1.r9
 have f9 := Yh hB1.r9
 unfold Fl.cells Fl.zero at c9
 have HB := Yh_ hB1
 clear hB1
 go_wp2_with fail
 exact bodyPost_ret (Yar rfl (Yae 8 rfl) (Ycc 9 (w.heap.size + 1) ⟨x0, x1, x2, x3, x4, x5⟩ rfl (Yca HB.out.r9 _ _ _ _ _ _))) rfl ⟨rfl, Ya5 HB.out.u (.inr (by omega)) _ _ _ _ _ _⟩
theorem aluDo_8 (a b : Int) (f : Fl) (w : World) (ha : 0 ≤ a ∧ a < 4294967296) (hb : 0 ≤ b ∧ b < 4294967296) :
  Calls Tryz.prog 47 #[.int .i64 8, .int .u32 a, .int .u32 b, .agg f.cells] w fun e w' => e = .returned (.tuple #[.int .u32 (Ybq 8 a b f), .agg (Ya9 8 a b f).cells]) ∧ Upd [] w w' := by
 obtain ⟨c, d, e', z, n, o⟩ := f
 have HA := Yh_ (And.intro ha hb)
 obtain ⟨⟨x0, x1, x2, x3, x4, x5⟩, hF⟩ : ∃ F, Yer a b false = F := ⟨_, rfl⟩
 have HF := Yh_ hF
 have HV := Yh_ (show Ya9 8 a b ⟨c, d, e', z, n, o⟩ = ⟨x0, x1, x2, x3, x4, x5⟩ by simp [Ya9, hF])
 clear hF
 have tok : True := trivial
 clear ha hb
 rw [HV.out]
 simp only [Ybq]
 unfold Fl.cells
 go_enter Tryz.func47, Tryz.ntmps47
 go_wp2_with (have _t := tok; clear _t; go_at_call 62; refine (Yen a b false _ HA.out.1 HA.out.2).mono ?_; rintro e w1 ⟨rfl, hu⟩; rw [HF.out]; unfold Fl.cells; have h1 := AlS.of (f := ⟨c, d, e', z, n, o⟩) hu; have ch := Ya h1.z7; have fh := Yh h1.z7; have c10 := Ya h1.z10; unfold Fl.cells at ch c10; have H1 := Yh_ h1; clear hu h1 tok)
 refine Yaw 3 (AlE w ⟨x0, x1, x2, x3, x4, x5⟩) (fun _ _ => False) (by kernel_rfl) (by decide +kernel) ((H1.out.st x0 x1 x2 x3 x4 x5)).drew (fun _ _ _ h => h.elim) ?_
 simp only [List.take_succ_cons, List.take_zero, List.drop_succ_cons, List.drop_zero]
 iterate 3
  apply Yab rfl rfl
  ·intro K hK w5 hB1
   have c7 := Ya hB1.r7
   unfold Fl.cells at c7
   have HB := Yh_ hB1
   clear hB1
   go_wp2_with fail
   first
   |exact hK _ HB.out
   |exact HB.out
  ·exact ⟨_, rfl⟩
 refine Yal (fun _ w5 hB1 => ?_)
 have c9 := Ya hB1.r9
 have f9 := Yh hB1.r9
 unfold Fl.cells Fl.zero at c9
 have HB := Yh_ hB1
 clear hB1
 go_wp2_with fail
 exact bodyPost_ret (Yar rfl (Yae 8 rfl) (Ycc 9 (w.heap.size + 1) ⟨x0, x1, x2, x3, x4, x5⟩ rfl (Yca HB.out.r9 _ _ _ _ _ _))) rfl ⟨rfl, Ya5 HB.out.u (.inr (by omega)) _ _ _ _ _ _⟩
theorem aluDo_6 (a b : Int) (f : Fl) (w : World) (ha : 0 ≤ a ∧ a < 4294967296) (hb : 0 ≤ b ∧ b < 4294967296) :
  Calls Tryz.prog 47 #[.int .i64 6, .int .u32 a, .int .u32 b, .agg f.cells] w fun e w' => e = .returned (.tuple #[.int .u32 (Ybq 6 a b f), .agg (Ya9 6 a b f).cells]) ∧ Upd [] w w' := by
 obtain ⟨c, d, e', z, n, o⟩ := f
 have HA := Yh_ (And.intro ha hb)
 obtain ⟨⟨x0, x1, x2, x3, x4, x5⟩, hF⟩ : ∃ F, Yer a b c = F := ⟨_, rfl⟩
 have HF := Yh_ hF
 have HV := Yh_ (show Ya9 6 a b ⟨c, d, e', z, n, o⟩ = ⟨x0, x1, x2, x3, x4, x5⟩ by simp [Ya9, hF])
 clear hF
 have tok : True := trivial
 clear ha hb
 rw [HV.out]
 simp only [Ybq]
 unfold Fl.cells
 go_enter Tryz.func47, Tryz.ntmps47
 go_wp2_with (have _t := tok; clear _t; go_at_call 62; refine (Yen a b c _ HA.out.1 HA.out.2).mono ?_; rintro e w1 ⟨rfl, hu⟩; rw [HF.out]; unfold Fl.cells; have h1 := AlS.of (f := ⟨c, d, e', z, n, o⟩) hu; have ch := Ya h1.z7; have fh := Yh h1.z7; have c10 := Ya h1.z10; unfold Fl.cells at ch c10; have H1 := Yh_ h1; clear hu h1 tok)
 refine Yaw 3 (AlE w ⟨x0, x1, x2, x3, x4, x5⟩) (fun _ _ => False) (by kernel_rfl) (by decide +kernel) ((H1.out.st x0 x1 x2 x3 x4 x5)).drew (fun _ _ _ h => h.elim) ?_
 simp only [List.take_succ_cons, List.take_zero, List.drop_succ_cons, List.drop_zero]
 iterate 3
  apply Yab rfl rfl
  ·intro K hK w5 hB1
   have c7 := Ya hB1.r7
   unfold Fl.cells at c7
   have HB := Yh_ hB1
   clear hB1
   go_wp2_with fail
   first
   |exact hK _ HB.out
   |exact HB.out
  ·exact ⟨_, rfl⟩
 refine Yal (fun _ w5 hB1 => ?_)
 have c9 := Ya hB1.r9
 have f9 := Yh hB1.r9
 unfold Fl.cells Fl.zero at c9
 have HB := Yh_ hB1
 clear hB1
 go_wp2_with fail
 exact bodyPost_ret (Yar rfl (Yae 8 rfl) (Ycc 9 (w.heap.size + 1) ⟨x0, x1, x2, x3, x4, x5⟩ rfl (Yca HB.out.r9 _ _ _ _ _ _))) rfl ⟨rfl, Ya5 HB.out.u (.inr (by omega)) _ _ _ _ _ _⟩
theorem aluDo_10 (a b : Int) (f : Fl) (w : World) (ha : 0 ≤ a ∧ a < 4294967296) (hb : 0 ≤ b ∧ b < 4294967296) :
  Calls Tryz.prog 47 #[.int .i64 10, .int .u32 a, .int .u32 b, .agg f.cells] w fun e w' => e = .returned (.tuple #[.int .u32 (Ybq 10 a b f), .agg (Ya9 10 a b f).cells]) ∧ Upd [] w w' := by
 obtain ⟨c, d, e', z, n, o⟩ := f
 have HA := Yh_ (And.intro ha hb)
 obtain ⟨⟨x0, x1, x2, x3, x4, x5⟩, hF⟩ : ∃ F, Yer a b false = F := ⟨_, rfl⟩
 have HF := Yh_ hF
 have HV := Yh_ (show Ya9 10 a b ⟨c, d, e', z, n, o⟩ = ⟨x0, x1, x2, x3, x4, x5⟩ by simp [Ya9, hF])
 clear hF
 have tok : True := trivial
 clear ha hb
 rw [HV.out]
 simp only [Ybq]
 unfold Fl.cells
 go_enter Tryz.func47, Tryz.ntmps47
 go_wp2_with (have _t := tok; clear _t; go_at_call 62; refine (Yen a b false _ HA.out.1 HA.out.2).mono ?_; rintro e w1 ⟨rfl, hu⟩; rw [HF.out]; unfold Fl.cells; have h1 := AlS.of (f := ⟨c, d, e', z, n, o⟩) hu; have ch := Ya h1.z7; have fh := Yh h1.z7; have c10 := Ya h1.z10; unfold Fl.cells at ch c10; have H1 := Yh_ h1; clear hu h1 tok)
 refine Yaw 3 (AlE w ⟨x0, x1, x2, x3, x4, x5⟩) (fun _ _ => False) (by kernel_rfl) (by decide +kernel) ((H1.out.st x0 x1 x2 x3 x4 x5)).drew (fun _ _ _ h => h.elim) ?_
 simp only [List.take_succ_cons, List.take_zero, List.drop_succ_cons, List.drop_zero]
 iterate 3
  apply Yab rfl rfl
  ·intro K hK w5 hB1
   have c7 := Ya hB1.r7
   unfold Fl.cells at c7
   have HB := Yh_ hB1
   clear hB1
   go_wp2_with fail
   first
   |exact hK _ HB.out
   |exact HB.out
  ·exact ⟨_, rfl⟩
 refine Yal (fun _ w5 hB1 => ?_)
 have c9 := Ya hB1.r9
 have f9 := Yh hB1.r9
 unfold Fl.cells Fl.zero at c9
 have HB := Yh_ hB1
 clear hB1
 go_wp2_with fail
 exact bodyPost_ret (Yar rfl (Yae 8 rfl) (Ycc 9 (w.heap.size + 1) ⟨x0, x1, x2, x3, x4, x5⟩ rfl (Yca HB.out.r9 _ _ _ _ _ _))) rfl ⟨rfl, Ya5 HB.out.u (.inr (by omega)) _ _ _ _ _ _⟩
theorem aluDo_12 (a b : Int) (f : Fl) (w : World) (ha : 0 ≤ a ∧ a < 4294967296) (hb : 0 ≤ b ∧ b < 4294967296) :
  Calls Tryz.prog 47 #[.int .i64 12, .int .u32 a, .int .u32 b, .agg f.cells] w fun e w' => e = .returned (.tuple #[.int .u32 (Ybq 12 a b f), .agg (Ya9 12 a b f).cells]) ∧ Upd [] w w' := by
 obtain ⟨c, d, e', z, n, o⟩ := f
 have HA := Yh_ (And.intro ha hb)
 obtain ⟨⟨x0, x1, x2, x3, x4, x5⟩, hF⟩ : ∃ F, addF a 1 false = F := ⟨_, rfl⟩
 have HF := Yh_ hF
 have HV := Yh_ (show Ya9 12 a b ⟨c, d, e', z, n, o⟩ = ⟨c, x1, x2, x3, x4, x5⟩ by simp [Ya9, hF])
 clear hF
 have tok : True := trivial
 clear ha hb
 rw [HV.out]
 simp only [Ybq]
 unfold Fl.cells
 go_enter Tryz.func47, Tryz.ntmps47
 go_wp2_with (have _t := tok; clear _t; go_at_call 61; refine (Yho a 1 false _ HA.out.1 (by decide)).mono ?_; rintro e w1 ⟨rfl, hu⟩; rw [HF.out]; unfold Fl.cells; have h1 := AlS.of (f := ⟨c, d, e', z, n, o⟩) hu; have ch := Ya h1.z7; have fh := Yh h1.z7; have c10 := Ya h1.z10; unfold Fl.cells at ch c10; have H1 := Yh_ h1; clear hu h1 tok)
 refine Yaw 3 (AlE w ⟨c, x1, x2, x3, x4, x5⟩) (fun _ _ => False) (by kernel_rfl) (by decide +kernel) (((H1.out.st x0 x1 x2 x3 x4 x5).cf c)).drew (fun _ _ _ h => h.elim) ?_
 simp only [List.take_succ_cons, List.take_zero, List.drop_succ_cons, List.drop_zero]
 iterate 3
  apply Yab rfl rfl
  ·intro K hK w5 hB1
   have c7 := Ya hB1.r7
   unfold Fl.cells at c7
   have HB := Yh_ hB1
   clear hB1
   go_wp2_with fail
   first
   |exact hK _ HB.out
   |exact HB.out
  ·exact ⟨_, rfl⟩
 refine Yal (fun _ w5 hB1 => ?_)
 have c9 := Ya hB1.r9
 have f9 := Yh hB1.r9
 unfold Fl.cells Fl.zero at c9
 have HB := Yh_ hB1
 clear hB1
 go_wp2_with fail
 exact bodyPost_ret (Yar rfl (Yae 8 rfl) (Ycc 9 (w.heap.size + 1) ⟨c, x1, x2, x3, x4, x5⟩ rfl (Yca HB.out.r9 _ _ _ _ _ _))) rfl ⟨rfl, Ya5 HB.out.u (.inr (by omega)) _ _ _ _ _ _⟩
theorem aluDo_13 (a b : Int) (f : Fl) (w : World) (ha : 0 ≤ a ∧ a < 4294967296) (hb : 0 ≤ b ∧ b < 4294967296) :
  Calls Tryz.prog 47 #[.int .i64 13, .int .u32 a, .int .u32 b, .agg f.cells] w fun e w' => e = .returned (.tuple #[.int .u32 (Ybq 13 a b f), .agg (Ya9 13 a b f).cells]) ∧ Upd [] w w' := by
 obtain ⟨c, d, e', z, n, o⟩ := f
 have HA := Yh_ (And.intro ha hb)
 obtain ⟨⟨x0, x1, x2, x3, x4, x5⟩, hF⟩ : ∃ F, Yer a 1 false = F := ⟨_, rfl⟩
 have HF := Yh_ hF
 have HV := Yh_ (show Ya9 13 a b ⟨c, d, e', z, n, o⟩ = ⟨c, x1, x2, x3, x4, x5⟩ by simp [Ya9, hF])
 clear hF
 have tok : True := trivial
 clear ha hb
 rw [HV.out]
 simp only [Ybq]
 unfold Fl.cells
 go_enter Tryz.func47, Tryz.ntmps47
 go_wp2_with (have _t := tok; clear _t; go_at_call 62; refine (Yen a 1 false _ HA.out.1 (by decide)).mono ?_; rintro e w1 ⟨rfl, hu⟩; rw [HF.out]; unfold Fl.cells; have h1 := AlS.of (f := ⟨c, d, e', z, n, o⟩) hu; have ch := Ya h1.z7; have fh := Yh h1.z7; have c10 := Ya h1.z10; unfold Fl.cells at ch c10; have H1 := Yh_ h1; clear hu h1 tok)
 refine Yaw 3 (AlE w ⟨c, x1, x2, x3, x4, x5⟩) (fun _ _ => False) (by kernel_rfl) (by decide +kernel) (((H1.out.st x0 x1 x2 x3 x4 x5).cf c)).drew (fun _ _ _ h => h.elim) ?_
 simp only [List.take_succ_cons, List.take_zero, List.drop_succ_cons, List.drop_zero]
 iterate 3
  apply Yab rfl rfl
  ·intro K hK w5 hB1
   have c7 := Ya hB1.r7
   unfold Fl.cells at c7
   have HB := Yh_ hB1
   clear hB1
   go_wp2_with fail
   first
   |exact hK _ HB.out
   |exact HB.out
  ·exact ⟨_, rfl⟩
 refine Yal (fun _ w5 hB1 => ?_)
 have c9 := Ya hB1.r9
 have f9 := Yh hB1.r9
 unfold Fl.cells Fl.zero at c9
 have HB := Yh_ hB1
 clear hB1
 go_wp2_with fail
 exact bodyPost_ret (Yar rfl (Yae 8 rfl) (Ycc 9 (w.heap.size + 1) ⟨c, x1, x2, x3, x4, x5⟩ rfl (Yca HB.out.r9 _ _ _ _ _ _))) rfl ⟨rfl, Ya5 HB.out.u (.inr (by omega)) _ _ _ _ _ _⟩
theorem aluDo_15 (a b : Int) (f : Fl) (w : World) (ha : 0 ≤ a ∧ a < 4294967296) (hb : 0 ≤ b ∧ b < 4294967296) :
  Calls Tryz.prog 47 #[.int .i64 15, .int .u32 a, .int .u32 b, .agg f.cells] w fun e w' => e = .returned (.tuple #[.int .u32 (Ybq 15 a b f), .agg (Ya9 15 a b f).cells]) ∧ Upd [] w w' := by
 obtain ⟨c, d, e', z, n, o⟩ := f
 have HA := Yh_ (And.intro ha hb)
 obtain ⟨⟨x0, x1, x2, x3, x4, x5⟩, hF⟩ : ∃ F, Yer 0 a false = F := ⟨_, rfl⟩
 have HF := Yh_ hF
 have HV := Yh_ (show Ya9 15 a b ⟨c, d, e', z, n, o⟩ = ⟨x0, x1, x2, x3, x4, x5⟩ by simp [Ya9, hF])
 clear hF
 have tok : True := trivial
 clear ha hb
 rw [HV.out]
 simp only [Ybq]
 unfold Fl.cells
 go_enter Tryz.func47, Tryz.ntmps47
 go_wp2_with (have _t := tok; clear _t; go_at_call 62; refine (Yen 0 a false _ (by decide) HA.out.1).mono ?_; rintro e w1 ⟨rfl, hu⟩; rw [HF.out]; unfold Fl.cells; have h1 := AlS.of (f := ⟨c, d, e', z, n, o⟩) hu; have ch := Ya h1.z7; have fh := Yh h1.z7; have c10 := Ya h1.z10; unfold Fl.cells at ch c10; have H1 := Yh_ h1; clear hu h1 tok)
 refine Yaw 3 (AlE w ⟨x0, x1, x2, x3, x4, x5⟩) (fun _ _ => False) (by kernel_rfl) (by decide +kernel) ((H1.out.st x0 x1 x2 x3 x4 x5)).drew (fun _ _ _ h => h.elim) ?_
 simp only [List.take_succ_cons, List.take_zero, List.drop_succ_cons, List.drop_zero]
 iterate 3
  apply Yab rfl rfl
  ·intro K hK w5 hB1
   have c7 := Ya hB1.r7
   unfold Fl.cells at c7
   have HB := Yh_ hB1
   clear hB1
   go_wp2_with fail
   first
   |exact hK _ HB.out
   |exact HB.out
  ·exact ⟨_, rfl⟩
 refine Yal (fun _ w5 hB1 => ?_)
 have c9 := Ya hB1.r9
 have f9 := Yh hB1.r9
 unfold Fl.cells Fl.zero at c9
 have HB := Yh_ hB1
 clear hB1
 go_wp2_with fail
 exact bodyPost_ret (Yar rfl (Yae 8 rfl) (Ycc 9 (w.heap.size + 1) ⟨x0, x1, x2, x3, x4, x5⟩ rfl (Yca HB.out.r9 _ _ _ _ _ _))) rfl ⟨rfl, Ya5 HB.out.u (.inr (by omega)) _ _ _ _ _ _⟩
theorem aluDo_7 (a b : Int) (f : Fl) (w : World) (ha : 0 ≤ a ∧ a < 4294967296) (hb : 0 ≤ b ∧ b < 4294967296) :
  Calls Tryz.prog 47 #[.int .i64 7, .int .u32 a, .int .u32 b, .agg f.cells] w fun e w' => e = .returned (.tuple #[.int .u32 (Ybq 7 a b f), .agg (Ya9 7 a b f).cells]) ∧ Upd [] w w' := by
 obtain ⟨c, d, e', z, n, o⟩ := f
 have HA := Yh_ (And.intro ha hb)
 obtain ⟨⟨x0, x1, x2, x3, x4, x5⟩, hF⟩ : ∃ F, Fl.by Fl.zero (bits .and .u32 a b) = F := ⟨_, rfl⟩
 have HF := Yh_ hF
 have HV := Yh_ (show Ya9 7 a b ⟨c, d, e', z, n, o⟩ = ⟨x0, x1, x2, x3, x4, x5⟩ by simp [Ya9, hF])
 clear hF
 have tok : True := trivial
 clear ha hb
 rw [HV.out]
 simp only [Ybq]
 unfold Fl.cells
 go_enter Tryz.func47, Tryz.ntmps47
 go_wp2_with (have _t := tok; clear _t; go_at_call 63; refine (Yfu Fl.zero (bits .and .u32 a b) _ (Yin a b HA.out.1 HA.out.2)).mono ?_; rintro e w1 ⟨rfl, hu⟩; rw [HF.out]; unfold Fl.cells; have h1 := AlS.of (f := ⟨c, d, e', z, n, o⟩) hu; have ch := Ya h1.z7; have fh := Yh h1.z7; unfold Fl.cells at ch; have H1 := Yh_ h1; clear hu h1 tok)
 refine Yaw 3 (AlE w ⟨x0, x1, x2, x3, x4, x5⟩) (fun _ _ => False) (by kernel_rfl) (by decide +kernel) ((H1.out.st x0 x1 x2 x3 x4 x5)).drew (fun _ _ _ h => h.elim) ?_
 simp only [List.take_succ_cons, List.take_zero, List.drop_succ_cons, List.drop_zero]
 iterate 3
  apply Yab rfl rfl
  ·intro K hK w5 hB1
   have c7 := Ya hB1.r7
   unfold Fl.cells at c7
   have HB := Yh_ hB1
   clear hB1
   go_wp2_with fail
   first
   |exact hK _ HB.out
   |exact HB.out
  ·exact ⟨_, rfl⟩
 refine Yal (fun _ w5 hB1 => ?_)
 have c9 := Ya hB1.r9
 have f9 := Yh hB1.r9
 unfold Fl.cells Fl.zero at c9
 have HB := Yh_ hB1
 clear hB1
 go_wp2_with fail
 exact bodyPost_ret (Yar rfl (Yae 8 rfl) (Ycc 9 (w.heap.size + 1) ⟨x0, x1, x2, x3, x4, x5⟩ rfl (Yca HB.out.r9 _ _ _ _ _ _))) rfl ⟨rfl, Ya5 HB.out.u (.inr (by omega)) _ _ _ _ _ _⟩
theorem aluDo_4 (a b : Int) (f : Fl) (w : World) (ha : 0 ≤ a ∧ a < 4294967296) (hb : 0 ≤ b ∧ b < 4294967296) :
  Calls Tryz.prog 47 #[.int .i64 4, .int .u32 a, .int .u32 b, .agg f.cells] w fun e w' => e = .returned (.tuple #[.int .u32 (Ybq 4 a b f), .agg (Ya9 4 a b f).cells]) ∧ Upd [] w w' := by
 obtain ⟨c, d, e', z, n, o⟩ := f
 have HA := Yh_ (And.intro ha hb)
 obtain ⟨⟨x0, x1, x2, x3, x4, x5⟩, hF⟩ : ∃ F, Fl.by Fl.zero (bits .or .u32 a b) = F := ⟨_, rfl⟩
 have HF := Yh_ hF
 have HV := Yh_ (show Ya9 4 a b ⟨c, d, e', z, n, o⟩ = ⟨x0, x1, x2, x3, x4, x5⟩ by simp [Ya9, hF])
 clear hF
 have tok : True := trivial
 clear ha hb
 rw [HV.out]
 simp only [Ybq]
 unfold Fl.cells
 go_enter Tryz.func47, Tryz.ntmps47
 go_wp2_with (have _t := tok; clear _t; go_at_call 63; refine (Yfu Fl.zero (bits .or .u32 a b) _ (or_u32 a b HA.out.1 HA.out.2)).mono ?_; rintro e w1 ⟨rfl, hu⟩; rw [HF.out]; unfold Fl.cells; have h1 := AlS.of (f := ⟨c, d, e', z, n, o⟩) hu; have ch := Ya h1.z7; have fh := Yh h1.z7; unfold Fl.cells at ch; have H1 := Yh_ h1; clear hu h1 tok)
 refine Yaw 3 (AlE w ⟨x0, x1, x2, x3, x4, x5⟩) (fun _ _ => False) (by kernel_rfl) (by decide +kernel) ((H1.out.st x0 x1 x2 x3 x4 x5)).drew (fun _ _ _ h => h.elim) ?_
 simp only [List.take_succ_cons, List.take_zero, List.drop_succ_cons, List.drop_zero]
 iterate 3
  apply Yab rfl rfl
  ·intro K hK w5 hB1
   have c7 := Ya hB1.r7
   unfold Fl.cells at c7
   have HB := Yh_ hB1
   clear hB1
   go_wp2_with fail
   first
   |exact hK _ HB.out
   |exact HB.out
  ·exact ⟨_, rfl⟩
 refine Yal (fun _ w5 hB1 => ?_)
 have c9 := Ya hB1.r9
 have f9 := Yh hB1.r9
 unfold Fl.cells Fl.zero at c9
 have HB := Yh_ hB1
 clear hB1
 go_wp2_with fail
 exact bodyPost_ret (Yar rfl (Yae 8 rfl) (Ycc 9 (w.heap.size + 1) ⟨x0, x1, x2, x3, x4, x5⟩ rfl (Yca HB.out.r9 _ _ _ _ _ _))) rfl ⟨rfl, Ya5 HB.out.u (.inr (by omega)) _ _ _ _ _ _⟩
theorem aluDo_9 (a b : Int) (f : Fl) (w : World) (ha : 0 ≤ a ∧ a < 4294967296) (hb : 0 ≤ b ∧ b < 4294967296) :
  Calls Tryz.prog 47 #[.int .i64 9, .int .u32 a, .int .u32 b, .agg f.cells] w fun e w' => e = .returned (.tuple #[.int .u32 (Ybq 9 a b f), .agg (Ya9 9 a b f).cells]) ∧ Upd [] w w' := by
 obtain ⟨c, d, e', z, n, o⟩ := f
 have HA := Yh_ (And.intro ha hb)
 obtain ⟨⟨x0, x1, x2, x3, x4, x5⟩, hF⟩ : ∃ F, Fl.by Fl.zero (bits .xor .u32 a b) = F := ⟨_, rfl⟩
 have HF := Yh_ hF
 have HV := Yh_ (show Ya9 9 a b ⟨c, d, e', z, n, o⟩ = ⟨x0, x1, x2, x3, x4, x5⟩ by simp [Ya9, hF])
 clear hF
 have tok : True := trivial
 clear ha hb
 rw [HV.out]
 simp only [Ybq]
 unfold Fl.cells
 go_enter Tryz.func47, Tryz.ntmps47
 go_wp2_with (have _t := tok; clear _t; go_at_call 63; refine (Yfu Fl.zero (bits .xor .u32 a b) _ (Yim a b HA.out.1 HA.out.2)).mono ?_; rintro e w1 ⟨rfl, hu⟩; rw [HF.out]; unfold Fl.cells; have h1 := AlS.of (f := ⟨c, d, e', z, n, o⟩) hu; have ch := Ya h1.z7; have fh := Yh h1.z7; unfold Fl.cells at ch; have H1 := Yh_ h1; clear hu h1 tok)
 refine Yaw 3 (AlE w ⟨x0, x1, x2, x3, x4, x5⟩) (fun _ _ => False) (by kernel_rfl) (by decide +kernel) ((H1.out.st x0 x1 x2 x3 x4 x5)).drew (fun _ _ _ h => h.elim) ?_
 simp only [List.take_succ_cons, List.take_zero, List.drop_succ_cons, List.drop_zero]
 iterate 3
  apply Yab rfl rfl
  ·intro K hK w5 hB1
   have c7 := Ya hB1.r7
   unfold Fl.cells at c7
   have HB := Yh_ hB1
   clear hB1
   go_wp2_with fail
   first
   |exact hK _ HB.out
   |exact HB.out
  ·exact ⟨_, rfl⟩
 refine Yal (fun _ w5 hB1 => ?_)
 have c9 := Ya hB1.r9
 have f9 := Yh hB1.r9
 unfold Fl.cells Fl.zero at c9
 have HB := Yh_ hB1
 clear hB1
 go_wp2_with fail
 exact bodyPost_ret (Yar rfl (Yae 8 rfl) (Ycc 9 (w.heap.size + 1) ⟨x0, x1, x2, x3, x4, x5⟩ rfl (Yca HB.out.r9 _ _ _ _ _ _))) rfl ⟨rfl, Ya5 HB.out.u (.inr (by omega)) _ _ _ _ _ _⟩
theorem aluDo_11 (a b : Int) (f : Fl) (w : World) (ha : 0 ≤ a ∧ a < 4294967296) (hb : 0 ≤ b ∧ b < 4294967296) :
  Calls Tryz.prog 47 #[.int .i64 11, .int .u32 a, .int .u32 b, .agg f.cells] w fun e w' => e = .returned (.tuple #[.int .u32 (Ybq 11 a b f), .agg (Ya9 11 a b f).cells]) ∧ Upd [] w w' := by
 obtain ⟨c, d, e', z, n, o⟩ := f
 have HA := Yh_ (And.intro ha hb)
 obtain ⟨⟨x0, x1, x2, x3, x4, x5⟩, hF⟩ : ∃ F, Fl.by Fl.zero (bits .and .u32 a b) = F := ⟨_, rfl⟩
 have HF := Yh_ hF
 have HV := Yh_ (show Ya9 11 a b ⟨c, d, e', z, n, o⟩ = ⟨x0, x1, x2, x3, x4, x5⟩ by simp [Ya9, hF])
 clear hF
 have tok : True := trivial
 clear ha hb
 rw [HV.out]
 simp only [Ybq]
 unfold Fl.cells
 go_enter Tryz.func47, Tryz.ntmps47
 go_wp2_with (have _t := tok; clear _t; go_at_call 63; refine (Yfu Fl.zero (bits .and .u32 a b) _ (Yin a b HA.out.1 HA.out.2)).mono ?_; rintro e w1 ⟨rfl, hu⟩; rw [HF.out]; unfold Fl.cells; have h1 := AlS.of (f := ⟨c, d, e', z, n, o⟩) hu; have ch := Ya h1.z7; have fh := Yh h1.z7; unfold Fl.cells at ch; have H1 := Yh_ h1; clear hu h1 tok)
 refine Yaw 3 (AlE w ⟨x0, x1, x2, x3, x4, x5⟩) (fun _ _ => False) (by kernel_rfl) (by decide +kernel) ((H1.out.st x0 x1 x2 x3 x4 x5)).drew (fun _ _ _ h => h.elim) ?_
 simp only [List.take_succ_cons, List.take_zero, List.drop_succ_cons, List.drop_zero]
 iterate 3
  apply Yab rfl rfl
  ·intro K hK w5 hB1
   have c7 := Ya hB1.r7
   unfold Fl.cells at c7
   have HB := Yh_ hB1
   clear hB1
   go_wp2_with fail
   first
   |exact hK _ HB.out
   |exact HB.out
  ·exact ⟨_, rfl⟩
 refine Yal (fun _ w5 hB1 => ?_)
 have c9 := Ya hB1.r9
 have f9 := Yh hB1.r9
 unfold Fl.cells Fl.zero at c9
 have HB := Yh_ hB1
 clear hB1
 go_wp2_with fail
 exact bodyPost_ret (Yar rfl (Yae 8 rfl) (Ycc 9 (w.heap.size + 1) ⟨x0, x1, x2, x3, x4, x5⟩ rfl (Yca HB.out.r9 _ _ _ _ _ _))) rfl ⟨rfl, Ya5 HB.out.u (.inr (by omega)) _ _ _ _ _ _⟩
theorem aluDo_14 (a b : Int) (f : Fl) (w : World) (ha : 0 ≤ a ∧ a < 4294967296) (hb : 0 ≤ b ∧ b < 4294967296) :
  Calls Tryz.prog 47 #[.int .i64 14, .int .u32 a, .int .u32 b, .agg f.cells] w fun e w' => e = .returned (.tuple #[.int .u32 (Ybq 14 a b f), .agg (Ya9 14 a b f).cells]) ∧ Upd [] w w' := by
 obtain ⟨c, d, e', z, n, o⟩ := f
 have HA := Yh_ (And.intro ha hb)
 have HV := Yh_ (show Ya9 14 a b ⟨c, d, e', z, n, o⟩ = ⟨c, d, e', z, n, o⟩ by simp [Ya9])
 have tok : True := trivial
 clear ha hb
 rw [HV.out]
 simp only [Ybq]
 unfold Fl.cells
 go_enter Tryz.func47, Tryz.ntmps47
 go_wp2_with fail
 refine Yaw 3 (AlE w ⟨c, d, e', z, n, o⟩) (fun _ _ => False) (by kernel_rfl) (by decide +kernel) (AlE.start).drew (fun _ _ _ h => h.elim) ?_
 simp only [List.take_succ_cons, List.take_zero, List.drop_succ_cons, List.drop_zero]
 iterate 3
  apply Yab rfl rfl
  ·intro K hK w5 hB1
   have c7 := Ya hB1.r7
   unfold Fl.cells at c7
   have HB := Yh_ hB1
   clear hB1
   go_wp2_with fail
   first
   |exact hK _ HB.out
   |exact HB.out
  ·exact ⟨_, rfl⟩
 refine Yal (fun _ w5 hB1 => ?_)
 have c9 := Ya hB1.r9
 have f9 := Yh hB1.r9
 unfold Fl.cells Fl.zero at c9
 have HB := Yh_ hB1
 clear hB1
 go_wp2_with fail
 exact bodyPost_ret (Yar rfl (Yae 8 rfl) (Ycc 9 (w.heap.size + 1) ⟨c, d, e', z, n, o⟩ rfl (Yca HB.out.r9 _ _ _ _ _ _))) rfl ⟨rfl, Ya5 HB.out.u (.inr (by omega)) _ _ _ _ _ _⟩
def Yh2 (op : Int) : Bool := (decide (3 ≤ op) && decide (op ≤ 15))
theorem Yos (op a b : Int) (f : Fl) (w : World) (hop : Yh2 op = true) (ha : 0 ≤ a ∧ a < 4294967296) (hb : 0 ≤ b ∧ b < 4294967296) :
  Calls Tryz.prog 47 #[.int .i64 op, .int .u32 a, .int .u32 b, .agg f.cells] w fun e w' => e = .returned (.tuple #[.int .u32 (Ybq op a b f), .agg (Ya9 op a b f).cells]) ∧ Upd [] w w' := by
 have h : op = 3 ∨ op = 4 ∨ op = 5 ∨ op = 6 ∨ op = 7 ∨ op = 8 ∨ op = 9 ∨ op = 10 ∨ op = 11 ∨ op = 12 ∨ op = 13 ∨ op = 14 ∨ op = 15 := by
  simp only [Yh2, Bool.and_eq_true, decide_eq_true_eq] at hop
  omega
 rcases h with rfl | rfl | rfl | rfl | rfl | rfl | rfl | rfl | rfl | rfl | rfl | rfl | rfl
 ·exact aluDo_3 a b f w ha hb
 ·exact aluDo_4 a b f w ha hb
 ·exact aluDo_5 a b f w ha hb
 ·exact aluDo_6 a b f w ha hb
 ·exact aluDo_7 a b f w ha hb
 ·exact aluDo_8 a b f w ha hb
 ·exact aluDo_9 a b f w ha hb
 ·exact aluDo_10 a b f w ha hb
 ·exact aluDo_11 a b f w ha hb
 ·exact aluDo_12 a b f w ha hb
 ·exact aluDo_13 a b f w ha hb
 ·exact aluDo_14 a b f w ha hb
 ·exact aluDo_15 a b f w ha hb
theorem Yny (op a b : Int) (f : Fl) (ha : 0 ≤ a ∧ a < 4294967296) (hb : 0 ≤ b ∧ b < 4294967296) : 0 ≤ Ybq op a b f ∧ Ybq op a b f < 4294967296 := by
 unfold Ybq
 repeat' split
 all_goals first | exact Yh9 _ _ _ | exact Yhx _ _ _ | exact Yin a b ha hb | exact or_u32 a b ha hb | exact Yim a b ha hb | exact Yim 4294967295 a (by decide) ha | exact ha
section
structure DrF (w : World) (d a pb cb : Nat) (s : St) (i : Ins) (M : Mem) (f : Nat) (dn : Nat → Bool) (r : Nat → Value) (w1 : World) : Prop where
 b : Yy w1 d a pb s i M
 o : w1.heap[cb]? = some (.cells i.cells 41 (0, 0))
 u : Upd [d, pb] w w1
 y : dn f = true → ∃ g, r f = .pointer (some ⟨g, 0, none⟩) ∧ cb < g ∧ w1.heap[g]? = some (.cells Fl.zero.cells 25 (0, 0))
section
variable {w w1 w2 : World} {d a pb cb : Nat} {s : St} {i : Ins} {M : Mem} {f : Nat} {dn : Nat → Bool} {r : Nat → Value}
theorem DrF.start (h : Yy w1 d a pb s i M) (ho : w1.heap[cb]? = some (.cells i.cells 41 (0, 0))) (u : Upd [d, pb] w w1) (r : Nat → Value) : DrF w d a pb cb s i M f (fun _ => false) r w1.drew :=
 ⟨h.keep (Upd.refl [] _).drew (by simp) (by simp) (by simp), ((Upd.refl [] _).drew).get ho (by simp), u.drew, fun h => (by cases h)⟩
theorem DrF.quiet (h : DrF w d a pb cb s i M f dn r w1) (u : Upd [] w1 w2) (m : Nat) (h1 : f ≠ m) : DrF w d a pb cb s i M f (Yah dn m) r w2 := by
 refine ⟨h.b.keep u (by simp) (by simp) (by simp), u.get h.o (by simp), h.u.also u (by simp), fun hy => ?_⟩
 rw [Yaa h1] at hy
 obtain ⟨g, e1, e2, e3⟩ := h.y hy
 exact ⟨g, e1, e2, u.get e3 (by simp)⟩
theorem DrF.same (h : DrF w d a pb cb s i M f dn r w1) (m : Nat) (h1 : f ≠ m) : DrF w d a pb cb s i M f (Yah dn m) r w1 := h.quiet (Upd.refl [] w1) m h1
theorem DrF.lay (h : DrF w d a pb cb s i M f dn r w1) : DrF w d a pb cb s i M f (Yah dn f) (Ycw r f (.pointer (some ⟨w1.heap.size, 0, none⟩))) (w1.alloc (.cells #[.bool false, .bool false, .bool false, .bool false, .bool false, .bool false] 25)) := by
 have u := (Upd.refl [] w1).alloc (.cells #[.bool false, .bool false, .bool false, .bool false, .bool false, .bool false] 25)
 exact ⟨h.b.keep u (by simp) (by simp) (by simp), u.get h.o (by simp), h.u.also u (by simp), fun _ => ⟨_, Yg6, Yi h.o, heap_alloc_new _ _⟩⟩
theorem dr_setfl (a : Nat) (s : St) (i : Ins) (F : Fl) : wr (Ybg a s i) 10 F.cells.toList = Ybg a (s.setFl F) i := by kernel_rfl
theorem Yy.putFl (h : Yy w d a pb s i M) (F : Fl) : Yy (w.setCells d 10 F.cells.toList) d a pb (s.setFl F) i M := by
 refine ⟨?_, h.m.keep ((Upd.refl [d] w).setCells (.inl (by simp)) _ _) (by simpa using fun e => h.na e.symm) (by simpa using fun e => h.np e.symm), ⟨h.ok.R, h.ok.pc, h.ok.f⟩, h.io, h.na, h.np⟩
 rw [Yaj _ _ _ _ h.h, dr_setfl]
theorem fl_one (F : Fl) : F.cells.all (·.oneCell') = true := by simp [Fl.cells, Value.oneCell']
theorem fl_new {g : Nat} {F G : Fl} {t : TypeId} (hw : w.setCells g 0 F.cells.toList = w2) (hb : w.heap[g]? = some (.cells G.cells t (0, 0))) : w2.heap[g]? = some (.cells F.cells t (0, 0)) ∧ Upd [g] w w2 := by
 subst hw
 exact ⟨by rw [Yaj _ _ _ _ hb]; rfl, (Upd.refl [g] w).setCells (.inl (by simp)) _ _⟩
end
theorem Ylt (d a pb : Nat) (s : St) (i : Ins) (M : Mem) (w : World) (h : Yy w d a pb s i M) (hop : 12 ≤ i.op ∧ i.op ≤ 15) (hc : Yfb M s i.a 4 3 = true) (hr : opK M s i.a 4 = true)
  (hw : Yc1 M (s.setFl (Ya9 i.op (opV M s i.a 4) 0 s.fl)) i.a 4 = true) :
  Calls Tryz.prog 32 #[.pointer (some ⟨d, 0, none⟩)] w fun e w' => e = .returned (.tuple #[]) ∧ Yy w' d a pb (opS (s.setFl (Ya9 i.op (opV M s i.a 4) 0 s.fl)) i.a 4 (Ybq i.op (opV M s i.a 4) 0 s.fl)) i (opM M (s.setFl (Ya9 i.op (opV M s i.a 4) 0 s.fl)) i.a 4 (Ybq i.op (opV M s i.a 4) 0 s.fl)) ∧ Upd [d, pb] w w' := by
 have HRV := Yh_ (Ygw h i.a h.io.a 4)
 have HD := Yh_ h
 have tokL : True := trivial
 have tokS : True := trivial
 obtain ⟨op, ho⟩ : ∃ op, i.op = op := ⟨_, rfl⟩
 rw [ho] at hop hw ⊢
 have e1 : decide (3 ≤ op) = true := by simp; omega
 have e2 : decide (op ≤ 11) = false := by simp; omega
 have e3 : decide (12 ≤ op) = true := by simp; omega
 have e4 : decide (op ≤ 15) = true := by simp; omega
 have HI := Yh_ h.io
 have HOP := Yh_ (show Yh2 op = true by simp only [Yh2, Bool.and_eq_true, decide_eq_true_eq]; omega)
 obtain ⟨v, hv⟩ : ∃ v, opV M s i.a 4 = v := ⟨_, rfl⟩
 rw [hv] at hw HRV ⊢
 obtain ⟨V, hV⟩ : ∃ V, Ybq op v 0 s.fl = V := ⟨_, rfl⟩
 have HVR := Yh_ (show 0 ≤ V ∧ V < 4294967296 from hV ▸ Yny op v 0 s.fl HRV.out (by decide))
 obtain ⟨⟨x0, x1, x2, x3, x4, x5⟩, hF⟩ : ∃ F, Ya9 op v 0 s.fl = F := ⟨_, rfl⟩
 rw [hF] at hw ⊢
 rw [hV]
 have HC := Yh_ (And.intro hc (And.intro hr (And.intro hw (And.intro hv (And.intro hV hF)))))
 have HCC := Yh_ hc
 clear h hop hc hr hw hv hV hF
 go_enter Tryz.func32, Tryz.ntmps32
 go_wp2_with (first | (have _t := tokL; clear _t tokL; refine Yag 41 rfl ?_; refine wpList_load_mid rfl 41 _ rfl d 18 rfl i.cells.toList _ HD.out.ri Tryz.underlying41 rfl (by rw [Array.length_toList, Ins.size]; exact Yb0) ?_; rw [Array.toArray_toList]) | (have _t := tokS; clear _t tokS; refine Yd 41 rfl ?_; refine Yc i w.heap.size rfl _ _ rfl rfl rfl (heap_alloc_new w (.cells Ins.zero.cells 41)) rfl ?_; intro w3 hw; have h3 := Ydm HD.out hw; have ci := Ya h3.2.1; unfold Ins.cells at ci; have H3 := Yh_ h3; clear hw h3) | (have _t := H3; clear _t; go_at_call 46; refine (dboth_ok d a pb s i M i.a _ H3.out.1 HCC.out).mono ?_; rintro e w4 ⟨rfl, hu⟩; have H4 := Yh_ (And.intro (H3.out.1.keep hu (by simp) (by simp) (by simp)) (And.intro (hu.get H3.out.2.1 (by simp)) (H3.out.2.2.also hu (by simp)))); clear hu H3 ci))
 refine Ybv 16 (DrF w d a pb w.heap.size s i M 14) (fun _ _ => False) (by kernel_rfl) (by decide +kernel) (fun r0 => DrF.start H4.out.1 H4.out.2.1 H4.out.2.2 r0) (fun _ _ _ h => h.elim) ?_
 simp only [List.take_succ_cons, List.take_zero, List.drop_succ_cons, List.drop_zero]
 iterate 4
  apply Ym rfl rfl
  ·intro dn r0 K hd hdep hK w5 hB1
   have c10 : w5.cell? ⟨d, 10, none⟩ = some (.bool s.cf) := hB1.b.cell 10
   have c11 : w5.cell? ⟨d, 11, none⟩ = some (.bool s.pf) := hB1.b.cell 11
   have c12 : w5.cell? ⟨d, 12, none⟩ = some (.bool s.af) := hB1.b.cell 12
   have c13 : w5.cell? ⟨d, 13, none⟩ = some (.bool s.zf) := hB1.b.cell 13
   have c14 : w5.cell? ⟨d, 14, none⟩ = some (.bool s.sf) := hB1.b.cell 14
   have c15 : w5.cell? ⟨d, 15, none⟩ = some (.bool s.of_) := hB1.b.cell 15
   have ci := Ya hB1.o
   unfold Ins.cells at ci
   have HB := Yh_ hB1
   clear hB1 hdep
   go_wp2_with fail
   first
   |exact hK _ (HB.out.same _ (by decide))
   |exact HB.out.same _ (by decide)
  ·exact ⟨_, rfl⟩
 apply Ym rfl rfl
 ·intro dn r0 K hd hdep hK w5 hB1
  have HB := Yh_ hB1
  clear hB1 hdep
  go_wp2_with (go_at_call 48; refine (Yhr d a pb s i M i.a 4 _ HB.out.b HI.out.a HC.out.2.1).mono ?_; rintro e w6 ⟨rfl, hu⟩; rw [HC.out.2.2.2.1])
  first
  |exact hK _ (HB.out.quiet hu _ (by decide))
  |exact HB.out.quiet hu _ (by decide)
 ·exact ⟨_, rfl⟩
 iterate 5
  apply Ym rfl rfl
  ·intro dn r0 K hd hdep hK w5 hB1
   have c10 : w5.cell? ⟨d, 10, none⟩ = some (.bool s.cf) := hB1.b.cell 10
   have c11 : w5.cell? ⟨d, 11, none⟩ = some (.bool s.pf) := hB1.b.cell 11
   have c12 : w5.cell? ⟨d, 12, none⟩ = some (.bool s.af) := hB1.b.cell 12
   have c13 : w5.cell? ⟨d, 13, none⟩ = some (.bool s.zf) := hB1.b.cell 13
   have c14 : w5.cell? ⟨d, 14, none⟩ = some (.bool s.sf) := hB1.b.cell 14
   have c15 : w5.cell? ⟨d, 15, none⟩ = some (.bool s.of_) := hB1.b.cell 15
   have ci := Ya hB1.o
   unfold Ins.cells at ci
   have HB := Yh_ hB1
   clear hB1 hdep
   go_wp2_with fail
   first
   |exact hK _ (HB.out.same _ (by decide))
   |exact HB.out.same _ (by decide)
  ·exact ⟨_, rfl⟩
 apply Ym rfl rfl
 ·intro dn r0 K hd hdep hK w5 hB1
  have HB := Yh_ hB1
  clear hB1 hdep
  go_wp2_with (go_at_call 47; refine (Yos op v 0 s.fl _ HOP.out HRV.out (by decide)).mono ?_; rintro e w6 ⟨rfl, hu⟩; rw [HC.out.2.2.2.2.1, HC.out.2.2.2.2.2]; unfold Fl.cells)
  first
  |exact hK _ (HB.out.quiet hu _ (by decide))
  |exact HB.out.quiet hu _ (by decide)
 ·exact ⟨_, rfl⟩
 iterate 3
  apply Ym rfl rfl
  ·intro dn r0 K hd hdep hK w5 hB1
   have c10 : w5.cell? ⟨d, 10, none⟩ = some (.bool s.cf) := hB1.b.cell 10
   have c11 : w5.cell? ⟨d, 11, none⟩ = some (.bool s.pf) := hB1.b.cell 11
   have c12 : w5.cell? ⟨d, 12, none⟩ = some (.bool s.af) := hB1.b.cell 12
   have c13 : w5.cell? ⟨d, 13, none⟩ = some (.bool s.zf) := hB1.b.cell 13
   have c14 : w5.cell? ⟨d, 14, none⟩ = some (.bool s.sf) := hB1.b.cell 14
   have c15 : w5.cell? ⟨d, 15, none⟩ = some (.bool s.of_) := hB1.b.cell 15
   have ci := Ya hB1.o
   unfold Ins.cells at ci
   have HB := Yh_ hB1
   clear hB1 hdep
   go_wp2_with fail
   first
   |exact hK _ (HB.out.same _ (by decide))
   |exact HB.out.same _ (by decide)
  ·exact ⟨_, rfl⟩
 refine Ybk rfl (fun _ => rfl) 5 rfl (by simp [Act.put]) ?_ ?_
 ·intro dn r0 K hd w5 hB1 hK
  have HB := Yh_ hB1
  clear hB1
  simp only [Yv]
  go_wp2_with fail
  first
  |exact hK (.pointer (some ⟨w5.heap.size, 0, none⟩)) _ HB.out.lay
  |exact HB.out.lay
 iterate 1
  apply Ydh rfl (fun _ => rfl)
  ·intro dn r0 K hd hdep hK w5 hB1
   have c10 : w5.cell? ⟨d, 10, none⟩ = some (.bool s.cf) := hB1.b.cell 10
   have c11 : w5.cell? ⟨d, 11, none⟩ = some (.bool s.pf) := hB1.b.cell 11
   have c12 : w5.cell? ⟨d, 12, none⟩ = some (.bool s.af) := hB1.b.cell 12
   have c13 : w5.cell? ⟨d, 13, none⟩ = some (.bool s.zf) := hB1.b.cell 13
   have c14 : w5.cell? ⟨d, 14, none⟩ = some (.bool s.sf) := hB1.b.cell 14
   have c15 : w5.cell? ⟨d, 15, none⟩ = some (.bool s.of_) := hB1.b.cell 15
   have ci := Ya hB1.o
   unfold Ins.cells at ci
   have HB := Yh_ hB1
   clear hB1 hdep
   simp only [Yv]
   go_wp2_with fail
   first
   |exact hK _ (HB.out.same _ (by decide))
   |exact HB.out.same _ (by decide)
  ·exact ⟨_, fun _ => rfl, rfl⟩
 refine Ybm (fun _ r0 w5 dn hall hB1 => ?_)
 obtain ⟨g, e1', e2', e3'⟩ := hB1.y (hall 14 (by decide))
 have ci := Ya hB1.o
 unfold Ins.cells at ci
 have hcb := Yi HD.out.h
 have hpb : pb < w.heap.size := by obtain ⟨C, _, hc⟩ := HD.out.m.pg; exact Yi hc
 have hab : a < w.heap.size := by obtain ⟨C, _, hc⟩ := HD.out.m.hd; exact Yi hc
 have H5 := Yh_ (And.intro hB1.b (And.intro hB1.o (And.intro hB1.u (And.intro e3' (And.intro e2' (And.intro hcb (And.intro hpb hab)))))))
 clear hB1 e3' hall e2' hcb hpb hab
 show wpList _ _ _ _ (Act.put (Yv _ _ [] _) (some 5) (r0 14)) _
 rw [e1']
 simp only [Yv]
 clear e1'
 go_wp2_with (first | (have _t := H5; clear _t; refine Yd 25 rfl ?_; refine Yet rfl 25 _ _ rfl g 0 (Fl.cells ⟨x0, x1, x2, x3, x4, x5⟩) rfl rfl H5.out.2.2.2.1 (show 0 + 6 ≤ 6 by decide) Yih (fl_one _) ?_; intro w6 hw; have h6 := fl_new hw H5.out.2.2.2.1; have hl := H5.out.2.2.2.2; have cg := Ya h6.1; unfold Fl.cells at cg; have H6 := Yh_ (And.intro (H5.out.1.keep h6.2 (by simp; omega) (by simp; omega) (by simp; omega)) (And.intro (h6.2.get H5.out.2.1 (by simp; omega)) (H5.out.2.2.1.also (S' := [g]) h6.2 (by simp; omega)))); clear hw h6 hl H5 ci) | (have _t := H6; clear _t; refine Yd 25 rfl ?_; refine wpList_store_mid rfl 25 _ _ rfl d 10 (Fl.cells ⟨x0, x1, x2, x3, x4, x5⟩) rfl rfl (Ydu H6.out.1.h 10 6 (by rw [Ym4]; decide)) Yih (fl_one _) ?_; have u7 : Upd [d] w6 (w6.setCells d 10 (Fl.cells ⟨x0, x1, x2, x3, x4, x5⟩).toList) := (Upd.refl [d] w6).setCells (.inl (by simp)) _ _; have hcb := Yi HD.out.h; have hi7 := u7.get H6.out.2.1 (by simp; omega); have ci := Ya hi7; unfold Ins.cells at ci; have H7 := Yh_ (And.intro (H6.out.1.putFl ⟨x0, x1, x2, x3, x4, x5⟩) (H6.out.2.2.also u7 (by simp))); clear u7 hcb hi7 H6 cg) | (have _t := H7; clear _t; go_at_call 49; refine (Yi4 d a pb _ i M i.a 4 V _ H7.out.1 HI.out.a HVR.out HC.out.2.2.1).mono ?_; rintro e w8 ⟨rfl, hd, hu⟩; have H8 := Yh_ (And.intro hd (H7.out.2.also hu (fun x hx => .inl hx))); clear hd hu H7))
 go_end0
 exact ⟨rfl, H8.out.1, H8.out.2⟩
end
end Go.Proofs.YthakgjpejhjaoaaGreat
