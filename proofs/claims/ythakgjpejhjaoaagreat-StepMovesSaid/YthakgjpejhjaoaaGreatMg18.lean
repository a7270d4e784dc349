/-
  Parts of the proof (their names shortened by a program). No condition.
-/
import Derived.Test.YthakgjpejhjaoaaGreatMg01
import Derived.Test.YthakgjpejhjaoaaGreatMg04
import Derived.Test.YthakgjpejhjaoaaGreatMg05
import Derived.Test.YthakgjpejhjaoaaGreatMg17
namespace Go.Proofs.YthakgjpejhjaoaaGreat
open Go Go.RowKit
set_option linter.unusedVariables false
set_option linter.unusedSimpArgs false
set_option maxRecDepth 100000
set_option maxHeartbeats 16000000
def bI (c : Bool) : Int := if c = true then 1 else 0
def sI (x : Int) : Int := if x < 2147483648 then x else x - 4294967296
def Yij (n : Int) : Bool := !(decide (-2147483648 ≤ n) && decide (n < 2147483648))
def Yek (a b : Int) (c : Bool) : Int := (a + b + bI c) % 4294967296
def addC (a b : Int) (c : Bool) : Bool := decide (4294967296 ≤ a + b + bI c)
def addO (a b : Int) (c : Bool) : Bool := Yij (sI a + sI b + bI c)
def Yen (a b : Int) (c : Bool) : Int := (a - b - bI c) % 4294967296
def subC (a b : Int) (c : Bool) : Bool := decide (a - b - bI c < 0)
def subO (a b : Int) (c : Bool) : Bool := Yij (sI a - sI b - bI c)
theorem Ykm (c : Bool) : 0 ≤ bI c ∧ bI c ≤ 1 := by cases c <;> simp [bI]
theorem Yhn (x : Int) (h : 0 ≤ x ∧ x < 4294967296) : wrap32 x = sI x := by unfold wrap32 sI; split <;> omega
theorem Ygn (x : Int) (h : 0 ≤ x ∧ x < 4294967296) : -2147483648 ≤ sI x ∧ sI x < 2147483648 := by unfold sI; split <;> omega
theorem Yjs (c : Bool) (w : World) : Calls Tryz.prog 129 #[.bool c] w fun e w' => e = .returned (.int .u64 (bI c)) ∧ w = w' := by
 cases c
 all_goals
  go_enter Tryz.func129, Tryz.ntmps129
  go_wp2
  go_ret
  exact ⟨rfl, rfl⟩
theorem Yjy (n : Int) (w : World) : Calls Tryz.prog 130 #[.int .i64 n] w fun e w' => e = .returned (.bool (Yij n)) ∧ w = w' := by
 have q : wrap64 (wrap32 n) = wrap32 n := by unfold wrap64 wrap32; omega
 have e : (n != wrap32 n) = Yij n := by
  unfold Yij wrap32
  rw [Bool.eq_iff_iff]
  simp only [bne_iff_ne, ne_eq, Bool.not_eq_true', Bool.and_eq_false_iff, decide_eq_false_iff_not]
  omega
 go_enter Tryz.func130, Tryz.ntmps130
 go_wp2
 go_ret
 exact ⟨rfl, rfl⟩
theorem u64w (x : Int) : IntKind.u64.wrap x = x % 18446744073709551616 := by
 simp [IntKind.wrap, IntKind.bits, IntKind.signed]
theorem Yk4 (a b : Int) (c : Bool) (w : World) (ha : 0 ≤ a ∧ a < 4294967296) (hb : 0 ≤ b ∧ b < 4294967296) : Calls Tryz.prog 98 #[.int .u32 a, .int .u32 b, .bool c] w fun e w' => e = .returned (.tuple #[.int .u32 (Yek a b c), .bool (addC a b c), .bool (addO a b c)]) ∧ w = w' := by
 have hc := Ykm c
 have sa := Ygn a ha
 have sb := Ygn b hb
 have q0 : IntKind.u64.wrap a = a := by rw [u64w]; omega
 have q00 : IntKind.u64.wrap b = b := by rw [u64w]; omega
 have q1 : IntKind.u64.wrap (a + b) = a + b := by rw [u64w]; omega
 have q2 : IntKind.u64.wrap (a + b + bI c) = a + b + bI c := by rw [u64w]; omega
 have q3 := Yhn a ha
 have q4 := Yhn b hb
 have q5 : wrap64 (sI a) = sI a := by unfold wrap64; omega
 have q6 : wrap64 (sI b) = sI b := by unfold wrap64; omega
 have q7 : wrap64 (sI a + sI b) = sI a + sI b := by unfold wrap64; omega
 have q8 : wrap64 (bI c) = bI c := by unfold wrap64; omega
 have q9 : wrap64 (sI a + sI b + bI c) = sI a + sI b + bI c := by unfold wrap64; omega
 have hK : ((a + b + bI c) / 4294967296 != 0) = addC a b c := by
  rw [Bool.eq_iff_iff]
  simp only [bne_iff_ne, ne_eq, addC, decide_eq_true_eq]
  omega
 clear ha hb hc sa sb
 go_enter Tryz.func98, Tryz.ntmps98
 go_wp2_with (first | (go_at_call 129; refine (Yjs c _).mono ?_; rintro e w' ⟨rfl, rfl⟩) | (go_at_call 130; refine (Yjy _ _).mono ?_; rintro e w' ⟨rfl, rfl⟩))
 exact bodyPost_ret (Yao rfl (Yal 6 rfl) (Yal 7 rfl) (Yal 8 rfl)) rfl ⟨rfl, rfl⟩
theorem Ylc (a b : Int) (c : Bool) (w : World) (ha : 0 ≤ a ∧ a < 4294967296) (hb : 0 ≤ b ∧ b < 4294967296) : Calls Tryz.prog 99 #[.int .u32 a, .int .u32 b, .bool c] w fun e w' => e = .returned (.tuple #[.int .u32 (Yen a b c), .bool (subC a b c), .bool (subO a b c)]) ∧ w = w' := by
 have hc := Ykm c
 have sa := Ygn a ha
 have sb := Ygn b hb
 obtain ⟨x, hx⟩ : ∃ x, (a - b - bI c) % 18446744073709551616 = x := ⟨_, rfl⟩
 have q0 : IntKind.u64.wrap a = a := by rw [u64w]; omega
 have q00 : IntKind.u64.wrap b = b := by rw [u64w]; omega
 obtain ⟨y, hy⟩ : ∃ y, (a - b) % 18446744073709551616 = y := ⟨_, rfl⟩
 have q1 : IntKind.u64.wrap (a - b) = y := by rw [u64w]; exact hy
 have q2 : IntKind.u64.wrap (y - bI c) = x := by rw [u64w]; omega
 have q3 := Yhn a ha
 have q4 := Yhn b hb
 have q5 : wrap64 (sI a) = sI a := by unfold wrap64; omega
 have q6 : wrap64 (sI b) = sI b := by unfold wrap64; omega
 have q7 : wrap64 (sI a - sI b) = sI a - sI b := by unfold wrap64; omega
 have q8 : wrap64 (bI c) = bI c := by unfold wrap64; omega
 have q9 : wrap64 (sI a - sI b - bI c) = sI a - sI b - bI c := by unfold wrap64; omega
 have qv : x % 4294967296 = Yen a b c := by unfold Yen; omega
 have hK : (x / 4294967296 != 0) = subC a b c := by
  rw [Bool.eq_iff_iff]
  simp only [bne_iff_ne, ne_eq, subC, decide_eq_true_eq]
  omega
 clear ha hb hc sa sb hy hx
 go_enter Tryz.func99, Tryz.ntmps99
 go_wp2_with (first | (go_at_call 129; refine (Yjs c _).mono ?_; rintro e w' ⟨rfl, rfl⟩) | (go_at_call 130; refine (Yjy _ _).mono ?_; rintro e w' ⟨rfl, rfl⟩))
 exact bodyPost_ret (Yao rfl (Yal 6 rfl) (Yal 7 rfl) (Yal 8 rfl)) rfl ⟨rfl, rfl⟩
theorem and_one (v : Int) (h0 : 0 ≤ v) (h1 : v < 4294967296) : bits .and .u32 v 1 = v % 2 := by
 obtain ⟨v, rfl⟩ := Int.eq_ofNat_of_zero_le h0
 have := u32_and_nat v 1 (by omega) (by decide)
 rw [Nat.and_one_is_mod] at this
 exact this
def oddB (x : Int) : Nat → Bool
 |0 => false
 |k + 1 => oddB x k != (x / 2 ^ k % 2 == 1)
def parB (x : Int) : Bool := !oddB x 8
theorem Yoi (x : Int) (w : World) (hx : 0 ≤ x ∧ x < 4294967296) : Calls Tryz.prog 100 #[.int .u32 x] w fun e w' => e = .returned (.bool (parB x)) ∧ w = w' := by
 go_enter Tryz.func100, Tryz.ntmps100
 go_wp2_with fail
 go_loopw [3, 5] (fun o i wr => ∃ k : Nat, k ≤ 8 ∧ o = .bool (oddB x k) ∧ i = .int .i64 k ∧ w = wr) (fun _ i _ => 8 - (intOf i).toNat)
 case atStart => exact ⟨0, Nat.zero_le _, rfl, rfl, rfl⟩
 case round =>
  obtain ⟨k, hk, rfl, rfl, rfl⟩ := hrel
  by_cases hlt : k < 8
  ·have d1 : decide ((k : Int) < 8) = true := by simp; omega
   have hd := Int.ediv_nonneg hx.1 (show (0 : Int) ≤ 2 ^ k from Int.le_of_lt (Int.pow_pos (by decide)))
   have hd2 : x / 2 ^ k ≤ x := Int.ediv_le_self _ hx.1
   have qa := and_one (x / 2 ^ k) hd (by omega)
   have HX := Yh_ hx
   clear hd hd2 hx
   go_wp2_with fail
   exact ⟨⟨k + 1, by omega, by rw [oddB]; cases oddB x k <;> cases (x / 2 ^ k % 2 == 1) <;> rfl, rfl, trivial⟩, by simp [intOf]; omega⟩
  ·obtain rfl : k = 8 := by omega
   go_wp2_with fail
   go_ret
   exact ⟨rfl, rfl⟩
structure Fl where
 cf : Bool
 pf : Bool
 af : Bool
 zf : Bool
 sf : Bool
 of_ : Bool
def Fl.cells (f : Fl) : Array Value := #[.bool f.cf, .bool f.pf, .bool f.af, .bool f.zf, .bool f.sf, .bool f.of_]
def Fl.zero : Fl := ⟨false, false, false, false, false, false⟩
def St.fl (s : St) : Fl := ⟨s.cf, s.pf, s.af, s.zf, s.sf, s.of_⟩
def St.setFl (s : St) (f : Fl) : St := { s with cf := f.cf, pf := f.pf, af := f.af, zf := f.zf, sf := f.sf, of_ := f.of_ }
def Fl.by (f : Fl) (r : Int) : Fl := { f with zf := r == 0, sf := decide (2147483648 ≤ r), pf := parB r }
def addF (a b : Int) (c : Bool) : Fl := Fl.by ⟨addC a b c, false, decide (15 < Yek (a % 16) (b % 16) c), false, false, addO a b c⟩ (Yek a b c)
def Yfc (a b : Int) (c : Bool) : Fl := Fl.by ⟨subC a b c, false, subC (a % 16) (b % 16) c, false, false, subO a b c⟩ (Yen a b c)
def Yby (op a b : Int) (f : Fl) : Int :=
 if op = 3 then Yek a b false else if op = 5 then Yek a b f.cf else if op = 8 then Yen a b false else if op = 6 then Yen a b f.cf
 else if op = 7 then bits .and .u32 a b else if op = 4 then bits .or .u32 a b else if op = 9 then bits .xor .u32 a b
 else if op = 12 then Yek a 1 false else if op = 13 then Yen a 1 false else if op = 15 then Yen 0 a false else if op = 14 then bits .xor .u32 IntKind.u32.max a else a
def Ybm (op a b : Int) (f : Fl) : Fl :=
 if op = 3 then addF a b false else if op = 5 then addF a b f.cf else if op = 8 ∨ op = 10 then Yfc a b false else if op = 6 then Yfc a b f.cf
 else if op = 7 ∨ op = 11 then Fl.by Fl.zero (bits .and .u32 a b) else if op = 4 then Fl.by Fl.zero (bits .or .u32 a b) else if op = 9 then Fl.by Fl.zero (bits .xor .u32 a b)
 else if op = 12 then { addF a 1 false with cf := f.cf } else if op = 13 then { Yfc a 1 false with cf := f.cf } else if op = 15 then Yfc 0 a false else f
theorem Yja : (Tryz.prog.info? 25).map (·.size) = some 6 := by kernel_rfl
theorem Ycl {tmps : Array Value} {w : World} (a : Tmp) (b : Nat) (f : Fl) (ha : tmps.getD a undef = .pointer (some ⟨b, 0, none⟩)) (hb : w.heap[b]? = some (.cells f.cells 25 (0, 0))) :
  (Ybt tmps (.cell a 25)).run Tryz.prog w = .ok (.agg f.cells) w :=
 Ybe a 25 b _ _ ha hb Tryz.underlying25 rfl Yja
theorem Ygf (f : Fl) (r : Int) (w : World) (hr : 0 ≤ r ∧ r < 4294967296) : Calls Tryz.prog 63 #[.agg f.cells, .int .u32 r] w fun e w' => e = .returned (.agg (f.by r).cells) ∧ Upd [] w w' := by
 have qs : (r / 2147483648 == 1) = decide (2147483648 ≤ r) := by
  rw [Bool.eq_iff_iff]
  simp only [beq_iff_eq, decide_eq_true_eq]
  omega
 have HR := Yh_ hr
 obtain ⟨p, hp⟩ : ∃ p, parB r = p := ⟨_, rfl⟩
 have HP := Yh_ hp
 obtain ⟨c, d, e, z, n, o⟩ := f
 clear hr hp
 unfold Fl.cells
 go_enter Tryz.func63, Tryz.ntmps63
 go_wp2_with (go_at_call 100; refine (Yoi r _ HR.out).mono ?_; rintro e w' ⟨rfl, rfl⟩; rw [HP.out])
 refine bodyPost_ret (Yf rfl (Ycl 4 (w.heap.size + 1) (Fl.by ⟨c, d, e, z, n, o⟩ r) rfl ?_)) rfl ⟨rfl, ((Upd.refl [] w).alloc _).alloc _⟩
 rw [Fl.by, HP.out]
 exact heap_alloc2_new _ _ _
theorem Yii (v : Int) (h0 : 0 ≤ v) (h1 : v < 4294967296) : bits .and .u32 v 15 = v % 16 := by
 obtain ⟨v, rfl⟩ := Int.eq_ofNat_of_zero_le h0
 have := u32_and_nat v 15 (by omega) (by decide)
 rw [show (15 : Nat) = 2 ^ 4 - 1 from rfl, Nat.and_two_pow_sub_one_eq_mod] at this
 exact this
theorem Ych {w : World} {b : Nat} {t : TypeId} {a0 a1 a2 a3 a4 a5 : Value} (h : w.heap[b]? = some (.cells #[a0, a1, a2, a3, a4, a5] t (0, 0))) (u0 u1 u2 u3 u4 u5 : Value) :
  ((((((w.setCell ⟨b, 0, none⟩ u0).setCell ⟨b, 1, none⟩ u1).setCell ⟨b, 2, none⟩ u2).setCell ⟨b, 3, none⟩ u3).setCell ⟨b, 4, none⟩ u4).setCell ⟨b, 5, none⟩ u5).heap[b]? = some (.cells #[u0, u1, u2, u3, u4, u5] t (0, 0)) :=
 Yh (Yh (Yh (Yh (Yh (Yh h 0 u0) 1 u1) 2 u2) 3 u3) 4 u4) 5 u5
theorem Ybf {S : List Nat} {w0 w : World} {b : Nat} (h : Upd S w0 w) (hb : b ∈ S ∨ w0.heap.size ≤ b) (u0 u1 u2 u3 u4 u5 : Value) :
  Upd S w0 ((((((w.setCell ⟨b, 0, none⟩ u0).setCell ⟨b, 1, none⟩ u1).setCell ⟨b, 2, none⟩ u2).setCell ⟨b, 3, none⟩ u3).setCell ⟨b, 4, none⟩ u4).setCell ⟨b, 5, none⟩ u5) :=
 (((((h.setCell (p := ⟨b, 0, none⟩) hb _).setCell (p := ⟨b, 1, none⟩) hb _).setCell (p := ⟨b, 2, none⟩) hb _).setCell (p := ⟨b, 3, none⟩) hb _).setCell (p := ⟨b, 4, none⟩) hb _).setCell (p := ⟨b, 5, none⟩) hb _
theorem Yir (a b : Int) (c : Bool) : 0 ≤ Yek a b c ∧ Yek a b c < 4294967296 := by unfold Yek; omega
theorem Yiq (a b : Int) (c : Bool) : 0 ≤ Yen a b c ∧ Yen a b c < 4294967296 := by unfold Yen; omega
theorem Yid (a b : Int) (c : Bool) (w : World) (ha : 0 ≤ a ∧ a < 4294967296) (hb : 0 ≤ b ∧ b < 4294967296) : Calls Tryz.prog 61 #[.int .u32 a, .int .u32 b, .bool c] w fun e w' => e = .returned (.tuple #[.int .u32 (Yek a b c), .agg (addF a b c).cells]) ∧ Upd [] w w' := by
 have q1 := Yii a ha.1 ha.2
 have q2 := Yii b hb.1 hb.2
 have HA := Yh_ (And.intro ha hb)
 obtain ⟨⟨x0, x1, x2, x3, x4, x5⟩, hF⟩ : ∃ F, addF a b c = F := ⟨_, rfl⟩
 have HF := Yh_ hF
 have tok1 : True := trivial
 have tok2 : True := trivial
 have tok3 : True := trivial
 clear ha hb
 rw [hF]
 clear hF
 unfold Fl.cells
 go_enter Tryz.func61, Tryz.ntmps61
 go_wp2_with (first | (have _t := tok1; clear _t; go_at_call 98; refine (Yk4 a b c _ HA.out.1 HA.out.2).mono ?_; rintro e w' ⟨rfl, rfl⟩; clear tok1) | (have _t := tok2; clear _t; go_at_call 98; refine (Yk4 (a % 16) (b % 16) c _ (by omega) (by omega)).mono ?_; rintro e w' ⟨rfl, rfl⟩; clear tok2) | (have _t := tok3; clear _t; go_at_call 63; refine (Ygf ⟨addC a b c, false, decide (15 < Yek (a % 16) (b % 16) c), false, false, addO a b c⟩ (Yek a b c) _ (Yir a b c)).mono ?_; rintro e w1 ⟨rfl, hu⟩; rw [show Fl.by ⟨addC a b c, false, decide (15 < Yek (a % 16) (b % 16) c), false, false, addO a b c⟩ (Yek a b c) = addF a b c from rfl, HF.out]; unfold Fl.cells; have hg := hu.get (heap_alloc_new w _) (by simp); have ch := Ya hg; have fh := Yn hg; have U1 := Yh_ (And.intro hg (((Upd.refl [] w).alloc _).also hu (by simp))); clear hg hu tok3))
 exact bodyPost_ret (Yaz rfl (Yal 6 rfl) (Ycl 7 w.heap.size ⟨x0, x1, x2, x3, x4, x5⟩ rfl (Ych U1.out.1 _ _ _ _ _ _))) rfl ⟨rfl, Ybf U1.out.2 (.inr (Nat.le_refl _)) _ _ _ _ _ _⟩
theorem Yfa (a b : Int) (c : Bool) (w : World) (ha : 0 ≤ a ∧ a < 4294967296) (hb : 0 ≤ b ∧ b < 4294967296) : Calls Tryz.prog 62 #[.int .u32 a, .int .u32 b, .bool c] w fun e w' => e = .returned (.tuple #[.int .u32 (Yen a b c), .agg (Yfc a b c).cells]) ∧ Upd [] w w' := by
 have q1 := Yii a ha.1 ha.2
 have q2 := Yii b hb.1 hb.2
 have HA := Yh_ (And.intro ha hb)
 obtain ⟨⟨x0, x1, x2, x3, x4, x5⟩, hF⟩ : ∃ F, Yfc a b c = F := ⟨_, rfl⟩
 have HF := Yh_ hF
 have tok1 : True := trivial
 have tok2 : True := trivial
 have tok3 : True := trivial
 clear ha hb
 rw [hF]
 clear hF
 unfold Fl.cells
 go_enter Tryz.func62, Tryz.ntmps62
 go_wp2_with (first | (have _t := tok1; clear _t; go_at_call 99; refine (Ylc a b c _ HA.out.1 HA.out.2).mono ?_; rintro e w' ⟨rfl, rfl⟩; clear tok1) | (have _t := tok2; clear _t; go_at_call 99; refine (Ylc (a % 16) (b % 16) c _ (by omega) (by omega)).mono ?_; rintro e w' ⟨rfl, rfl⟩; clear tok2) | (have _t := tok3; clear _t; go_at_call 63; refine (Ygf ⟨subC a b c, false, subC (a % 16) (b % 16) c, false, false, subO a b c⟩ (Yen a b c) _ (Yiq a b c)).mono ?_; rintro e w1 ⟨rfl, hu⟩; rw [show Fl.by ⟨subC a b c, false, subC (a % 16) (b % 16) c, false, false, subO a b c⟩ (Yen a b c) = Yfc a b c from rfl, HF.out]; unfold Fl.cells; have hg := hu.get (heap_alloc_new w _) (by simp); have ch := Ya hg; have fh := Yn hg; have U1 := Yh_ (And.intro hg (((Upd.refl [] w).alloc _).also hu (by simp))); clear hg hu tok3))
 exact bodyPost_ret (Yaz rfl (Yal 6 rfl) (Ycl 7 w.heap.size ⟨x0, x1, x2, x3, x4, x5⟩ rfl (Ych U1.out.1 _ _ _ _ _ _))) rfl ⟨rfl, Ybf U1.out.2 (.inr (Nat.le_refl _)) _ _ _ _ _ _⟩
theorem Yi2 (a b : Int) (ha : 0 ≤ a ∧ a < 4294967296) (hb : 0 ≤ b ∧ b < 4294967296) : 0 ≤ bits .and .u32 a b ∧ bits .and .u32 a b < 4294967296 := by
 obtain ⟨a, rfl⟩ := Int.eq_ofNat_of_zero_le ha.1
 obtain ⟨b, rfl⟩ := Int.eq_ofNat_of_zero_le hb.1
 rw [u32_and_nat a b (by omega) (by omega)]
 have : a &&& b ≤ a := Nat.and_le_left
 omega
theorem or_u32 (a b : Int) (ha : 0 ≤ a ∧ a < 4294967296) (hb : 0 ≤ b ∧ b < 4294967296) : 0 ≤ bits .or .u32 a b ∧ bits .or .u32 a b < 4294967296 := by
 obtain ⟨a, rfl⟩ := Int.eq_ofNat_of_zero_le ha.1
 obtain ⟨b, rfl⟩ := Int.eq_ofNat_of_zero_le hb.1
 rw [u32_or_nat a b (by omega) (by omega)]
 have : a ||| b < 2 ^ 32 := Nat.or_lt_two_pow (by omega) (by omega)
 omega
theorem Yjf (a b : Int) (ha : 0 ≤ a ∧ a < 4294967296) (hb : 0 ≤ b ∧ b < 4294967296) : 0 ≤ bits .xor .u32 a b ∧ bits .xor .u32 a b < 4294967296 := by
 obtain ⟨a, rfl⟩ := Int.eq_ofNat_of_zero_le ha.1
 obtain ⟨b, rfl⟩ := Int.eq_ofNat_of_zero_le hb.1
 rw [u32_xor_nat a b (by omega) (by omega)]
 have : a ^^^ b < 2 ^ 32 := Nat.xor_lt_two_pow (by omega) (by omega)
 omega
structure AlS (w : World) (f : Fl) (w1 : World) : Prop where
 z7 : w1.heap[w.heap.size]? = some (.cells f.cells 25 (0, 0))
 z9 : w1.heap[w.heap.size + 1]? = some (.cells Fl.zero.cells 25 (0, 0))
 z10 : w1.heap[w.heap.size + 1 + 1]? = some (.cells f.cells 25 (0, 0))
 u : Upd [] w w1
theorem AlS.of {w w1 : World} {f : Fl} (hu : Upd [] (((w.alloc (.cells f.cells 25)).alloc (.cells Fl.zero.cells 25)).alloc (.cells f.cells 25)) w1) : AlS w f w1 := by
 have h2 := heap_alloc_new ((w.alloc (.cells f.cells 25)).alloc (.cells Fl.zero.cells 25)) (.cells f.cells 25)
 rw [show ((w.alloc (.cells f.cells 25)).alloc (.cells Fl.zero.cells 25)).heap.size = w.heap.size + 1 + 1 from by simp] at h2
 exact ⟨hu.get (Ym _ (heap_alloc2_old _ _ _)) (by simp), hu.get (Ym _ (heap_alloc2_new _ _ _)) (by simp), hu.get h2 (by simp), ((((Upd.refl [] w).alloc _).alloc _).alloc _).also hu (by simp)⟩
structure AlE (w : World) (f : Fl) (w1 : World) : Prop where
 r7 : w1.heap[w.heap.size]? = some (.cells f.cells 25 (0, 0))
 r9 : w1.heap[w.heap.size + 1]? = some (.cells Fl.zero.cells 25 (0, 0))
 u : Upd [] w w1
theorem AlE.drew {w w1 : World} {f : Fl} (h : AlE w f w1) : AlE w f w1.drew := by
 have u := (Upd.refl [] w1).drew
 exact ⟨u.get h.r7 (by simp), u.get h.r9 (by simp), h.u.drew⟩
theorem AlS.st {w w1 : World} {f : Fl} (h : AlS w f w1) (x0 x1 x2 x3 x4 x5 : Bool) : AlE w ⟨x0, x1, x2, x3, x4, x5⟩ ((((((w1.setCell ⟨w.heap.size, 0, none⟩ (.bool x0)).setCell ⟨w.heap.size, 1, none⟩ (.bool x1)).setCell ⟨w.heap.size, 2, none⟩ (.bool x2)).setCell ⟨w.heap.size, 3, none⟩ (.bool x3)).setCell ⟨w.heap.size, 4, none⟩ (.bool x4)).setCell ⟨w.heap.size, 5, none⟩ (.bool x5)) :=
 ⟨Ych h.z7 _ _ _ _ _ _, (Ybf (S := [w.heap.size]) (Upd.refl _ w1) (.inl (by simp)) _ _ _ _ _ _).get h.z9 (by simp), Ybf h.u (.inr (Nat.le_refl _)) _ _ _ _ _ _⟩
theorem AlE.cf {w w1 : World} {f : Fl} (h : AlE w f w1) (x : Bool) : AlE w { f with cf := x } (w1.setCell ⟨w.heap.size, 0, none⟩ (.bool x)) :=
 ⟨Yh h.r7 0 (.bool x), ((Upd.refl [w.heap.size] w1).setCell (p := ⟨w.heap.size, 0, none⟩) (.inl (by simp)) (.bool x)).get h.r9 (by simp), h.u.setCell (p := ⟨w.heap.size, 0, none⟩) (.inr (Nat.le_refl _)) _⟩
theorem AlE.start {w : World} {f : Fl} : AlE w f (((w.alloc (.cells f.cells 25)).alloc (.cells Fl.zero.cells 25)).alloc (.cells f.cells 25)) :=
 ⟨(AlS.of (Upd.refl [] _)).z7, (AlS.of (Upd.refl [] _)).z9, (AlS.of (Upd.refl [] _)).u⟩
theorem aluDo_3 (a b : Int) (f : Fl) (w : World) (ha : 0 ≤ a ∧ a < 4294967296) (hb : 0 ≤ b ∧ b < 4294967296) :
  Calls Tryz.prog 47 #[.int .i64 3, .int .u32 a, .int .u32 b, .agg f.cells] w fun e w' => e = .returned (.tuple #[.int .u32 (Yby 3 a b f), .agg (Ybm 3 a b f).cells]) ∧ Upd [] w w' := by
 obtain ⟨c, d, e', z, n, o⟩ := f
 have HA := Yh_ (And.intro ha hb)
 obtain ⟨⟨x0, x1, x2, x3, x4, x5⟩, hF⟩ : ∃ F, addF a b false = F := ⟨_, rfl⟩
 have HF := Yh_ hF
 have HV := Yh_ (show Ybm 3 a b ⟨c, d, e', z, n, o⟩ = ⟨x0, x1, x2, x3, x4, x5⟩ by simp [Ybm, hF])
 clear hF
 have tok : True := trivial
 clear ha hb
 rw [HV.out]
 simp only [Yby]
 unfold Fl.cells
 go_enter Tryz.func47, Tryz.ntmps47
 go_wp2_with (have _t := tok; clear _t; go_at_call 61; refine (Yid a b false _ HA.out.1 HA.out.2).mono ?_; rintro e w1 ⟨rfl, hu⟩; rw [HF.out]; unfold Fl.cells; have h1 := AlS.of (f := ⟨c, d, e', z, n, o⟩) hu; have ch := Ya h1.z7; have fh := Yn h1.z7; have c10 := Ya h1.z10; unfold Fl.cells at ch c10; have H1 := Yh_ h1; clear hu h1 tok)
 refine Yan 3 (AlE w ⟨x0, x1, x2, x3, x4, x5⟩) (fun _ _ => False) (by kernel_rfl) (by decide +kernel) ((H1.out.st x0 x1 x2 x3 x4 x5)).drew (fun _ _ _ h => h.elim) ?_
 simp only [List.take_succ_cons, List.take_zero, List.drop_succ_cons, List.drop_zero]
 iterate 3
  apply Yu rfl rfl
  ·intro K hK w5 hB1
   have c7 := Ya hB1.r7
   unfold Fl.cells at c7
   have HB := Yh_ hB1
   clear hB1
   go_wp2_with fail
   first
   |exact hK _ HB.out
   |exact HB.out
  ·exact ⟨_, rfl⟩
 refine Yaf (fun _ w5 hB1 => ?_)
 have c9 := Ya hB1.r9
 have f9 := Yn hB1.r9
 unfold Fl.cells Fl.zero at c9
 have HB := Yh_ hB1
 clear hB1
 go_wp2_with fail
 exact bodyPost_ret (Yaz rfl (Yal 8 rfl) (Ycl 9 (w.heap.size + 1) ⟨x0, x1, x2, x3, x4, x5⟩ rfl (Ych HB.out.r9 _ _ _ _ _ _))) rfl ⟨rfl, Ybf HB.out.u (.inr (by omega)) _ _ _ _ _ _⟩
theorem aluDo_5 (a b : Int) (f : Fl) (w : World) (ha : 0 ≤ a ∧ a < 4294967296) (hb : 0 ≤ b ∧ b < 4294967296) :
  Calls Tryz.prog 47 #[.int .i64 5, .int .u32 a, .int .u32 b, .agg f.cells] w fun e w' => e = .returned (.tuple #[.int .u32 (Yby 5 a b f), .agg (Ybm 5 a b f).cells]) ∧ Upd [] w w' := by
 obtain ⟨c, d, e', z, n, o⟩ := f
 have HA := Yh_ (And.intro ha hb)
 obtain ⟨⟨x0, x1, x2, x3, x4, x5⟩, hF⟩ : ∃ F, addF a b c = F := ⟨_, rfl⟩
 have HF := Yh_ hF
 have HV := Yh_ (show Ybm 5 a b ⟨c, d, e', z, n, o⟩ = ⟨x0, x1, x2, x3, x4, x5⟩ by simp [Ybm, hF])
 clear hF
 have tok : True := trivial
 clear ha hb
 rw [HV.out]
 simp only [Yby]
 unfold Fl.cells
 go_enter Tryz.func47, Tryz.ntmps47
 go_wp2_with (have _t := tok; clear _t; go_at_call 61; refine (Yid a b c _ HA.out.1 HA.out.2).mono ?_; rintro e w1 ⟨rfl, hu⟩; rw [HF.out]; unfold Fl.cells; have h1 := AlS.of (f := ⟨c, d, e', z, n, o⟩) hu; have ch := Ya h1.z7; have fh := Yn h1.z7; have c10 := Ya h1.z10; unfold Fl.cells at ch c10; have H1 := Yh_ h1; clear hu h1 tok)
 refine Yan 3 (AlE w ⟨x0, x1, x2, x3, x4, x5⟩) (fun _ _ => False) (by kernel_rfl) (by decide +kernel) ((H1.out.st x0 x1 x2 x3 x4 x5)).drew (fun _ _ _ h => h.elim) ?_
 simp only [List.take_succ_cons, List.take_zero, List.drop_succ_cons, List.drop_zero]
 iterate 3
  apply Yu rfl rfl
  ·intro K hK w5 hB1
   have c7 := Ya hB1.r7
   unfold Fl.cells at c7
   have HB := Yh_ hB1
   clear hB1
   go_wp2_with fail
   first
   |exact hK _ HB.out
   |exact HB.out
  ·exact ⟨_, rfl⟩
 refine Yaf (fun _ w5 hB1 => ?_)
 have c9 := Ya hB1.r9
 have f9 := Yn hB1.r9
 unfold Fl.cells Fl.zero at c9
 have HB := Yh_ hB1
 clear hB1
 go_wp2_with fail
 exact bodyPost_ret (Yaz rfl (Yal 8 rfl) (Ycl 9 (w.heap.size + 1) ⟨x0, x1, x2, x3, x4, x5⟩ rfl (Ych HB.out.r9 _ _ _ _ _ _))) rfl ⟨rfl, Ybf HB.out.u (.inr (by omega)) _ _ _ _ _ _⟩
theorem aluDo_8 (a b : Int) (f : Fl) (w : World) (ha : 0 ≤ a ∧ a < 4294967296) (hb : 0 ≤ b ∧ b < 4294967296) :
  Calls Tryz.prog 47 #[.int .i64 8, .int .u32 a, .int .u32 b, .agg f.cells] w fun e w' => e = .returned (.tuple #[.int .u32 (Yby 8 a b f), .agg (Ybm 8 a b f).cells]) ∧ Upd [] w w' := by
 obtain ⟨c, d, e', z, n, o⟩ := f
 have HA := Yh_ (And.intro ha hb)
 obtain ⟨⟨x0, x1, x2, x3, x4, x5⟩, hF⟩ : ∃ F, Yfc a b false = F := ⟨_, rfl⟩
 have HF := Yh_ hF
 have HV := Yh_ (show Ybm 8 a b ⟨c, d, e', z, n, o⟩ = ⟨x0, x1, x2, x3, x4, x5⟩ by simp [Ybm, hF])
 clear hF
 have tok : True := trivial
 clear ha hb
 rw [HV.out]
 simp only [Yby]
 unfold Fl.cells
 go_enter Tryz.func47, Tryz.ntmps47
 go_wp2_with (have _t := tok; clear _t; go_at_call 62; refine (Yfa a b false _ HA.out.1 HA.out.2).mono ?_; rintro e w1 ⟨rfl, hu⟩; rw [HF.out]; unfold Fl.cells; have h1 := AlS.of (f := ⟨c, d, e', z, n, o⟩) hu; have ch := Ya h1.z7; have fh := Yn h1.z7; have c10 := Ya h1.z10; unfold Fl.cells at ch c10; have H1 := Yh_ h1; clear hu h1 tok)
 refine Yan 3 (AlE w ⟨x0, x1, x2, x3, x4, x5⟩) (fun _ _ => False) (by kernel_rfl) (by decide +kernel) ((H1.out.st x0 x1 x2 x3 x4 x5)).drew (fun _ _ _ h => h.elim) ?_
 simp only [List.take_succ_cons, List.take_zero, List.drop_succ_cons, List.drop_zero]
 iterate 3
  apply Yu rfl rfl
  ·intro K hK w5 hB1
   have c7 := Ya hB1.r7
   unfold Fl.cells at c7
   have HB := Yh_ hB1
   clear hB1
   go_wp2_with fail
   first
   |exact hK _ HB.out
   |exact HB.out
  ·exact ⟨_, rfl⟩
 refine Yaf (fun _ w5 hB1 => ?_)
 have c9 := Ya hB1.r9
 have f9 := Yn hB1.r9
 unfold Fl.cells Fl.zero at c9
 have HB := Yh_ hB1
 clear hB1
 go_wp2_with fail
 exact bodyPost_ret (Yaz rfl (Yal 8 rfl) (Ycl 9 (w.heap.size + 1) ⟨x0, x1, x2, x3, x4, x5⟩ rfl (Ych HB.out.r9 _ _ _ _ _ _))) rfl ⟨rfl, Ybf HB.out.u (.inr (by omega)) _ _ _ _ _ _⟩
theorem aluDo_6 (a b : Int) (f : Fl) (w : World) (ha : 0 ≤ a ∧ a < 4294967296) (hb : 0 ≤ b ∧ b < 4294967296) :
  Calls Tryz.prog 47 #[.int .i64 6, .int .u32 a, .int .u32 b, .agg f.cells] w fun e w' => e = .returned (.tuple #[.int .u32 (Yby 6 a b f), .agg (Ybm 6 a b f).cells]) ∧ Upd [] w w' := by
 obtain ⟨c, d, e', z, n, o⟩ := f
 have HA := Yh_ (And.intro ha hb)
 obtain ⟨⟨x0, x1, x2, x3, x4, x5⟩, hF⟩ : ∃ F, Yfc a b c = F := ⟨_, rfl⟩
 have HF := Yh_ hF
 have HV := Yh_ (show Ybm 6 a b ⟨c, d, e', z, n, o⟩ = ⟨x0, x1, x2, x3, x4, x5⟩ by simp [Ybm, hF])
 clear hF
 have tok : True := trivial
 clear ha hb
 rw [HV.out]
 simp only [Yby]
 unfold Fl.cells
 go_enter Tryz.func47, Tryz.ntmps47
 go_wp2_with (have _t := tok; clear _t; go_at_call 62; refine (Yfa a b c _ HA.out.1 HA.out.2).mono ?_; rintro e w1 ⟨rfl, hu⟩; rw [HF.out]; unfold Fl.cells; have h1 := AlS.of (f := ⟨c, d, e', z, n, o⟩) hu; have ch := Ya h1.z7; have fh := Yn h1.z7; have c10 := Ya h1.z10; unfold Fl.cells at ch c10; have H1 := Yh_ h1; clear hu h1 tok)
 refine Yan 3 (AlE w ⟨x0, x1, x2, x3, x4, x5⟩) (fun _ _ => False) (by kernel_rfl) (by decide +kernel) ((H1.out.st x0 x1 x2 x3 x4 x5)).drew (fun _ _ _ h => h.elim) ?_
 simp only [List.take_succ_cons, List.take_zero, List.drop_succ_cons, List.drop_zero]
 iterate 3
  apply Yu rfl rfl
  ·intro K hK w5 hB1
   have c7 := Ya hB1.r7
   unfold Fl.cells at c7
   have HB := Yh_ hB1
   clear hB1
   go_wp2_with fail
   first
   |exact hK _ HB.out
   |exact HB.out
  ·exact ⟨_, rfl⟩
 refine Yaf (fun _ w5 hB1 => ?_)
 have c9 := Ya hB1.r9
 have f9 := Yn hB1.r9
 unfold Fl.cells Fl.zero at c9
 have HB := Yh_ hB1
 clear hB1
 go_wp2_with fail
 exact bodyPost_ret (Yaz rfl (Yal 8 rfl) (Ycl 9 (w.heap.size + 1) ⟨x0, x1, x2, x3, x4, x5⟩ rfl (Ych HB.out.r9 _ _ _ _ _ _))) rfl ⟨rfl, Ybf HB.out.u (.inr (by omega)) _ _ _ _ _ _⟩
theorem aluDo_10 (a b : Int) (f : Fl) (w : World) (ha : 0 ≤ a ∧ a < 4294967296) (hb : 0 ≤ b ∧ b < 4294967296) :
  Calls Tryz.prog 47 #[.int .i64 10, .int .u32 a, .int .u32 b, .agg f.cells] w fun e w' => e = .returned (.tuple #[.int .u32 (Yby 10 a b f), .agg (Ybm 10 a b f).cells]) ∧ Upd [] w w' := by
 obtain ⟨c, d, e', z, n, o⟩ := f
 have HA := Yh_ (And.intro ha hb)
 obtain ⟨⟨x0, x1, x2, x3, x4, x5⟩, hF⟩ : ∃ F, Yfc a b false = F := ⟨_, rfl⟩
 have HF := Yh_ hF
 have HV := Yh_ (show Ybm 10 a b ⟨c, d, e', z, n, o⟩ = ⟨x0, x1, x2, x3, x4, x5⟩ by simp [Ybm, hF])
 clear hF
 have tok : True := trivial
 clear ha hb
 rw [HV.out]
 simp only [Yby]
 unfold Fl.cells
 go_enter Tryz.func47, Tryz.ntmps47
 go_wp2_with (have _t := tok; clear _t; go_at_call 62; refine (Yfa a b false _ HA.out.1 HA.out.2).mono ?_; rintro e w1 ⟨rfl, hu⟩; rw [HF.out]; unfold Fl.cells; have h1 := AlS.of (f := ⟨c, d, e', z, n, o⟩) hu; have ch := Ya h1.z7; have fh := Yn h1.z7; have c10 := Ya h1.z10; unfold Fl.cells at ch c10; have H1 := Yh_ h1; clear hu h1 tok)
 refine Yan 3 (AlE w ⟨x0, x1, x2, x3, x4, x5⟩) (fun _ _ => False) (by kernel_rfl) (by decide +kernel) ((H1.out.st x0 x1 x2 x3 x4 x5)).drew (fun _ _ _ h => h.elim) ?_
 simp only [List.take_succ_cons, List.take_zero, List.drop_succ_cons, List.drop_zero]
 iterate 3
  apply Yu rfl rfl
  ·intro K hK w5 hB1
   have c7 := Ya hB1.r7
   unfold Fl.cells at c7
   have HB := Yh_ hB1
   clear hB1
   go_wp2_with fail
   first
   |exact hK _ HB.out
   |exact HB.out
  ·exact ⟨_, rfl⟩
 refine Yaf (fun _ w5 hB1 => ?_)
 have c9 := Ya hB1.r9
 have f9 := Yn hB1.r9
 unfold Fl.cells Fl.zero at c9
 have HB := Yh_ hB1
 clear hB1
 go_wp2_with fail
 exact bodyPost_ret (Yaz rfl (Yal 8 rfl) (Ycl 9 (w.heap.size + 1) ⟨x0, x1, x2, x3, x4, x5⟩ rfl (Ych HB.out.r9 _ _ _ _ _ _))) rfl ⟨rfl, Ybf HB.out.u (.inr (by omega)) _ _ _ _ _ _⟩
theorem aluDo_12 (a b : Int) (f : Fl) (w : World) (ha : 0 ≤ a ∧ a < 4294967296) (hb : 0 ≤ b ∧ b < 4294967296) :
  Calls Tryz.prog 47 #[.int .i64 12, .int .u32 a, .int .u32 b, .agg f.cells] w fun e w' => e = .returned (.tuple #[.int .u32 (Yby 12 a b f), .agg (Ybm 12 a b f).cells]) ∧ Upd [] w w' := by
 obtain ⟨c, d, e', z, n, o⟩ := f
 have HA := Yh_ (And.intro ha hb)
 obtain ⟨⟨x0, x1, x2, x3, x4, x5⟩, hF⟩ : ∃ F, addF a 1 false = F := ⟨_, rfl⟩
 have HF := Yh_ hF
 have HV := Yh_ (show Ybm 12 a b ⟨c, d, e', z, n, o⟩ = ⟨c, x1, x2, x3, x4, x5⟩ by simp [Ybm, hF])
 clear hF
 have tok : True := trivial
 clear ha hb
 rw [HV.out]
 simp only [Yby]
 unfold Fl.cells
 go_enter Tryz.func47, Tryz.ntmps47
 go_wp2_with (have _t := tok; clear _t; go_at_call 61; refine (Yid a 1 false _ HA.out.1 (by decide)).mono ?_; rintro e w1 ⟨rfl, hu⟩; rw [HF.out]; unfold Fl.cells; have h1 := AlS.of (f := ⟨c, d, e', z, n, o⟩) hu; have ch := Ya h1.z7; have fh := Yn h1.z7; have c10 := Ya h1.z10; unfold Fl.cells at ch c10; have H1 := Yh_ h1; clear hu h1 tok)
 refine Yan 3 (AlE w ⟨c, x1, x2, x3, x4, x5⟩) (fun _ _ => False) (by kernel_rfl) (by decide +kernel) (((H1.out.st x0 x1 x2 x3 x4 x5).cf c)).drew (fun _ _ _ h => h.elim) ?_
 simp only [List.take_succ_cons, List.take_zero, List.drop_succ_cons, List.drop_zero]
 iterate 3
  apply Yu rfl rfl
  ·intro K hK w5 hB1
   have c7 := Ya hB1.r7
   unfold Fl.cells at c7
   have HB := Yh_ hB1
   clear hB1
   go_wp2_with fail
   first
   |exact hK _ HB.out
   |exact HB.out
  ·exact ⟨_, rfl⟩
 refine Yaf (fun _ w5 hB1 => ?_)
 have c9 := Ya hB1.r9
 have f9 := Yn hB1.r9
 unfold Fl.cells Fl.zero at c9
 have HB := Yh_ hB1
 clear hB1
 go_wp2_with fail
 exact bodyPost_ret (Yaz rfl (Yal 8 rfl) (Ycl 9 (w.heap.size + 1) ⟨c, x1, x2, x3, x4, x5⟩ rfl (Ych HB.out.r9 _ _ _ _ _ _))) rfl ⟨rfl, Ybf HB.out.u (.inr (by omega)) _ _ _ _ _ _⟩
theorem aluDo_13 (a b : Int) (f : Fl) (w : World) (ha : 0 ≤ a ∧ a < 4294967296) (hb : 0 ≤ b ∧ b < 4294967296) :
  Calls Tryz.prog 47 #[.int .i64 13, .int .u32 a, .int .u32 b, .agg f.cells] w fun e w' => e = .returned (.tuple #[.int .u32 (Yby 13 a b f), .agg (Ybm 13 a b f).cells]) ∧ Upd [] w w' := by
 obtain ⟨c, d, e', z, n, o⟩ := f
 have HA := Yh_ (And.intro ha hb)
 obtain ⟨⟨x0, x1, x2, x3, x4, x5⟩, hF⟩ : ∃ F, Yfc a 1 false = F := ⟨_, rfl⟩
 have HF := Yh_ hF
 have HV := Yh_ (show Ybm 13 a b ⟨c, d, e', z, n, o⟩ = ⟨c, x1, x2, x3, x4, x5⟩ by simp [Ybm, hF])
 clear hF
 have tok : True := trivial
 clear ha hb
 rw [HV.out]
 simp only [Yby]
 unfold Fl.cells
 go_enter Tryz.func47, Tryz.ntmps47
 go_wp2_with (have _t := tok; clear _t; go_at_call 62; refine (Yfa a 1 false _ HA.out.1 (by decide)).mono ?_; rintro e w1 ⟨rfl, hu⟩; rw [HF.out]; unfold Fl.cells; have h1 := AlS.of (f := ⟨c, d, e', z, n, o⟩) hu; have ch := Ya h1.z7; have fh := Yn h1.z7; have c10 := Ya h1.z10; unfold Fl.cells at ch c10; have H1 := Yh_ h1; clear hu h1 tok)
 refine Yan 3 (AlE w ⟨c, x1, x2, x3, x4, x5⟩) (fun _ _ => False) (by kernel_rfl) (by decide +kernel) (((H1.out.st x0 x1 x2 x3 x4 x5).cf c)).drew (fun _ _ _ h => h.elim) ?_
 simp only [List.take_succ_cons, List.take_zero, List.drop_succ_cons, List.drop_zero]
 iterate 3
  apply Yu rfl rfl
  ·intro K hK w5 hB1
   have c7 := Ya hB1.r7
   unfold Fl.cells at c7
   have HB := Yh_ hB1
   clear hB1
   go_wp2_with fail
   first
   |exact hK _ HB.out
   |exact HB.out
  ·exact ⟨_, rfl⟩
 refine Yaf (fun _ w5 hB1 => ?_)
 have c9 := Ya hB1.r9
 have f9 := Yn hB1.r9
 unfold Fl.cells Fl.zero at c9
 have HB := Yh_ hB1
 clear hB1
 go_wp2_with fail
 exact bodyPost_ret (Yaz rfl (Yal 8 rfl) (Ycl 9 (w.heap.size + 1) ⟨c, x1, x2, x3, x4, x5⟩ rfl (Ych HB.out.r9 _ _ _ _ _ _))) rfl ⟨rfl, Ybf HB.out.u (.inr (by omega)) _ _ _ _ _ _⟩
theorem aluDo_15 (a b : Int) (f : Fl) (w : World) (ha : 0 ≤ a ∧ a < 4294967296) (hb : 0 ≤ b ∧ b < 4294967296) :
  Calls Tryz.prog 47 #[.int .i64 15, .int .u32 a, .int .u32 b, .agg f.cells] w fun e w' => e = .returned (.tuple #[.int .u32 (Yby 15 a b f), .agg (Ybm 15 a b f).cells]) ∧ Upd [] w w' := by
 obtain ⟨c, d, e', z, n, o⟩ := f
 have HA := Yh_ (And.intro ha hb)
 obtain ⟨⟨x0, x1, x2, x3, x4, x5⟩, hF⟩ : ∃ F, Yfc 0 a false = F := ⟨_, rfl⟩
 have HF := Yh_ hF
 have HV := Yh_ (show Ybm 15 a b ⟨c, d, e', z, n, o⟩ = ⟨x0, x1, x2, x3, x4, x5⟩ by simp [Ybm, hF])
 clear hF
 have tok : True := trivial
 clear ha hb
 rw [HV.out]
 simp only [Yby]
 unfold Fl.cells
 go_enter Tryz.func47, Tryz.ntmps47
 go_wp2_with (have _t := tok; clear _t; go_at_call 62; refine (Yfa 0 a false _ (by decide) HA.out.1).mono ?_; rintro e w1 ⟨rfl, hu⟩; rw [HF.out]; unfold Fl.cells; have h1 := AlS.of (f := ⟨c, d, e', z, n, o⟩) hu; have ch := Ya h1.z7; have fh := Yn h1.z7; have c10 := Ya h1.z10; unfold Fl.cells at ch c10; have H1 := Yh_ h1; clear hu h1 tok)
 refine Yan 3 (AlE w ⟨x0, x1, x2, x3, x4, x5⟩) (fun _ _ => False) (by kernel_rfl) (by decide +kernel) ((H1.out.st x0 x1 x2 x3 x4 x5)).drew (fun _ _ _ h => h.elim) ?_
 simp only [List.take_succ_cons, List.take_zero, List.drop_succ_cons, List.drop_zero]
 iterate 3
  apply Yu rfl rfl
  ·intro K hK w5 hB1
   have c7 := Ya hB1.r7
   unfold Fl.cells at c7
   have HB := Yh_ hB1
   clear hB1
   go_wp2_with fail
   first
   |exact hK _ HB.out
   |exact HB.out
  ·exact ⟨_, rfl⟩
 refine Yaf (fun _ w5 hB1 => ?_)
 have c9 := Ya hB1.r9
 have f9 := Yn hB1.r9
 unfold Fl.cells Fl.zero at c9
 have HB := Yh_ hB1
 clear hB1
 go_wp2_with fail
 exact bodyPost_ret (Yaz rfl (Yal 8 rfl) (Ycl 9 (w.heap.size + 1) ⟨x0, x1, x2, x3, x4, x5⟩ rfl (Ych HB.out.r9 _ _ _ _ _ _))) rfl ⟨rfl, Ybf HB.out.u (.inr (by omega)) _ _ _ _ _ _⟩
theorem aluDo_7 (a b : Int) (f : Fl) (w : World) (ha : 0 ≤ a ∧ a < 4294967296) (hb : 0 ≤ b ∧ b < 4294967296) :
  Calls Tryz.prog 47 #[.int .i64 7, .int .u32 a, .int .u32 b, .agg f.cells] w fun e w' => e = .returned (.tuple #[.int .u32 (Yby 7 a b f), .agg (Ybm 7 a b f).cells]) ∧ Upd [] w w' := by
 obtain ⟨c, d, e', z, n, o⟩ := f
 have HA := Yh_ (And.intro ha hb)
 obtain ⟨⟨x0, x1, x2, x3, x4, x5⟩, hF⟩ : ∃ F, Fl.by Fl.zero (bits .and .u32 a b) = F := ⟨_, rfl⟩
 have HF := Yh_ hF
 have HV := Yh_ (show Ybm 7 a b ⟨c, d, e', z, n, o⟩ = ⟨x0, x1, x2, x3, x4, x5⟩ by simp [Ybm, hF])
 clear hF
 have tok : True := trivial
 clear ha hb
 rw [HV.out]
 simp only [Yby]
 unfold Fl.cells
 go_enter Tryz.func47, Tryz.ntmps47
 go_wp2_with (have _t := tok; clear _t; go_at_call 63; refine (Ygf Fl.zero (bits .and .u32 a b) _ (Yi2 a b HA.out.1 HA.out.2)).mono ?_; rintro e w1 ⟨rfl, hu⟩; rw [HF.out]; unfold Fl.cells; have h1 := AlS.of (f := ⟨c, d, e', z, n, o⟩) hu; have ch := Ya h1.z7; have fh := Yn h1.z7; unfold Fl.cells at ch; have H1 := Yh_ h1; clear hu h1 tok)
 refine Yan 3 (AlE w ⟨x0, x1, x2, x3, x4, x5⟩) (fun _ _ => False) (by kernel_rfl) (by decide +kernel) ((H1.out.st x0 x1 x2 x3 x4 x5)).drew (fun _ _ _ h => h.elim) ?_
 simp only [List.take_succ_cons, List.take_zero, List.drop_succ_cons, List.drop_zero]
 iterate 3
  apply Yu rfl rfl
  ·intro K hK w5 hB1
   have c7 := Ya hB1.r7
   unfold Fl.cells at c7
   have HB := Yh_ hB1
   clear hB1
   go_wp2_with fail
   first
   |exact hK _ HB.out
   |exact HB.out
  ·exact ⟨_, rfl⟩
 refine Yaf (fun _ w5 hB1 => ?_)
 have c9 := Ya hB1.r9
 have f9 := Yn hB1.r9
 unfold Fl.cells Fl.zero at c9
 have HB := Yh_ hB1
 clear hB1
 go_wp2_with fail
 exact bodyPost_ret (Yaz rfl (Yal 8 rfl) (Ycl 9 (w.heap.size + 1) ⟨x0, x1, x2, x3, x4, x5⟩ rfl (Ych HB.out.r9 _ _ _ _ _ _))) rfl ⟨rfl, Ybf HB.out.u (.inr (by omega)) _ _ _ _ _ _⟩
theorem aluDo_4 (a b : Int) (f : Fl) (w : World) (ha : 0 ≤ a ∧ a < 4294967296) (hb : 0 ≤ b ∧ b < 4294967296) :
  Calls Tryz.prog 47 #[.int .i64 4, .int .u32 a, .int .u32 b, .agg f.cells] w fun e w' => e = .returned (.tuple #[.int .u32 (Yby 4 a b f), .agg (Ybm 4 a b f).cells]) ∧ Upd [] w w' := by
 obtain ⟨c, d, e', z, n, o⟩ := f
 have HA := Yh_ (And.intro ha hb)
 obtain ⟨⟨x0, x1, x2, x3, x4, x5⟩, hF⟩ : ∃ F, Fl.by Fl.zero (bits .or .u32 a b) = F := ⟨_, rfl⟩
 have HF := Yh_ hF
 have HV := Yh_ (show Ybm 4 a b ⟨c, d, e', z, n, o⟩ = ⟨x0, x1, x2, x3, x4, x5⟩ by simp [Ybm, hF])
 clear hF
 have tok : True := trivial
 clear ha hb
 rw [HV.out]
 simp only [Yby]
 unfold Fl.cells
 go_enter Tryz.func47, Tryz.ntmps47
 go_wp2_with (have _t := tok; clear _t; go_at_call 63; refine (Ygf Fl.zero (bits .or .u32 a b) _ (or_u32 a b HA.out.1 HA.out.2)).mono ?_; rintro e w1 ⟨rfl, hu⟩; rw [HF.out]; unfold Fl.cells; have h1 := AlS.of (f := ⟨c, d, e', z, n, o⟩) hu; have ch := Ya h1.z7; have fh := Yn h1.z7; unfold Fl.cells at ch; have H1 := Yh_ h1; clear hu h1 tok)
 refine Yan 3 (AlE w ⟨x0, x1, x2, x3, x4, x5⟩) (fun _ _ => False) (by kernel_rfl) (by decide +kernel) ((H1.out.st x0 x1 x2 x3 x4 x5)).drew (fun _ _ _ h => h.elim) ?_
 simp only [List.take_succ_cons, List.take_zero, List.drop_succ_cons, List.drop_zero]
 iterate 3
  apply Yu rfl rfl
  ·intro K hK w5 hB1
   have c7 := Ya hB1.r7
   unfold Fl.cells at c7
   have HB := Yh_ hB1
   clear hB1
   go_wp2_with fail
   first
   |exact hK _ HB.out
   |exact HB.out
  ·exact ⟨_, rfl⟩
 refine Yaf (fun _ w5 hB1 => ?_)
 have c9 := Ya hB1.r9
 have f9 := Yn hB1.r9
 unfold Fl.cells Fl.zero at c9
 have HB := Yh_ hB1
 clear hB1
 go_wp2_with fail
 exact bodyPost_ret (Yaz rfl (Yal 8 rfl) (Ycl 9 (w.heap.size + 1) ⟨x0, x1, x2, x3, x4, x5⟩ rfl (Ych HB.out.r9 _ _ _ _ _ _))) rfl ⟨rfl, Ybf HB.out.u (.inr (by omega)) _ _ _ _ _ _⟩
theorem aluDo_9 (a b : Int) (f : Fl) (w : World) (ha : 0 ≤ a ∧ a < 4294967296) (hb : 0 ≤ b ∧ b < 4294967296) :
  Calls Tryz.prog 47 #[.int .i64 9, .int .u32 a, .int .u32 b, .agg f.cells] w fun e w' => e = .returned (.tuple #[.int .u32 (Yby 9 a b f), .agg (Ybm 9 a b f).cells]) ∧ Upd [] w w' := by
 obtain ⟨c, d, e', z, n, o⟩ := f
 have HA := Yh_ (And.intro ha hb)
 obtain ⟨⟨x0, x1, x2, x3, x4, x5⟩, hF⟩ : ∃ F, Fl.by Fl.zero (bits .xor .u32 a b) = F := ⟨_, rfl⟩
 have HF := Yh_ hF
 have HV := Yh_ (show Ybm 9 a b ⟨c, d, e', z, n, o⟩ = ⟨x0, x1, x2, x3, x4, x5⟩ by simp [Ybm, hF])
 clear hF
 have tok : True := trivial
 clear ha hb
 rw [HV.out]
 simp only [Yby]
 unfold Fl.cells
 go_enter Tryz.func47, Tryz.ntmps47
 go_wp2_with (have _t := tok; clear _t; go_at_call 63; refine (Ygf Fl.zero (bits .xor .u32 a b) _ (Yjf a b HA.out.1 HA.out.2)).mono ?_; rintro e w1 ⟨rfl, hu⟩; rw [HF.out]; unfold Fl.cells; have h1 := AlS.of (f := ⟨c, d, e', z, n, o⟩) hu; have ch := Ya h1.z7; have fh := Yn h1.z7; unfold Fl.cells at ch; have H1 := Yh_ h1; clear hu h1 tok)
 refine Yan 3 (AlE w ⟨x0, x1, x2, x3, x4, x5⟩) (fun _ _ => False) (by kernel_rfl) (by decide +kernel) ((H1.out.st x0 x1 x2 x3 x4 x5)).drew (fun _ _ _ h => h.elim) ?_
 simp only [List.take_succ_cons, List.take_zero, List.drop_succ_cons, List.drop_zero]
 iterate 3
  apply Yu rfl rfl
  ·intro K hK w5 hB1
   have c7 := Ya hB1.r7
   unfold Fl.cells at c7
   have HB := Yh_ hB1
   clear hB1
   go_wp2_with fail
   first
   |exact hK _ HB.out
   |exact HB.out
  ·exact ⟨_, rfl⟩
 refine Yaf (fun _ w5 hB1 => ?_)
 have c9 := Ya hB1.r9
 have f9 := Yn hB1.r9
 unfold Fl.cells Fl.zero at c9
 have HB := Yh_ hB1
 clear hB1
 go_wp2_with fail
 exact bodyPost_ret (Yaz rfl (Yal 8 rfl) (Ycl 9 (w.heap.size + 1) ⟨x0, x1, x2, x3, x4, x5⟩ rfl (Ych HB.out.r9 _ _ _ _ _ _))) rfl ⟨rfl, Ybf HB.out.u (.inr (by omega)) _ _ _ _ _ _⟩
theorem aluDo_11 (a b : Int) (f : Fl) (w : World) (ha : 0 ≤ a ∧ a < 4294967296) (hb : 0 ≤ b ∧ b < 4294967296) :
  Calls Tryz.prog 47 #[.int .i64 11, .int .u32 a, .int .u32 b, .agg f.cells] w fun e w' => e = .returned (.tuple #[.int .u32 (Yby 11 a b f), .agg (Ybm 11 a b f).cells]) ∧ Upd [] w w' := by
 obtain ⟨c, d, e', z, n, o⟩ := f
 have HA := Yh_ (And.intro ha hb)
 obtain ⟨⟨x0, x1, x2, x3, x4, x5⟩, hF⟩ : ∃ F, Fl.by Fl.zero (bits .and .u32 a b) = F := ⟨_, rfl⟩
 have HF := Yh_ hF
 have HV := Yh_ (show Ybm 11 a b ⟨c, d, e', z, n, o⟩ = ⟨x0, x1, x2, x3, x4, x5⟩ by simp [Ybm, hF])
 clear hF
 have tok : True := trivial
 clear ha hb
 rw [HV.out]
 simp only [Yby]
 unfold Fl.cells
 go_enter Tryz.func47, Tryz.ntmps47
 go_wp2_with (have _t := tok; clear _t; go_at_call 63; refine (Ygf Fl.zero (bits .and .u32 a b) _ (Yi2 a b HA.out.1 HA.out.2)).mono ?_; rintro e w1 ⟨rfl, hu⟩; rw [HF.out]; unfold Fl.cells; have h1 := AlS.of (f := ⟨c, d, e', z, n, o⟩) hu; have ch := Ya h1.z7; have fh := Yn h1.z7; unfold Fl.cells at ch; have H1 := Yh_ h1; clear hu h1 tok)
 refine Yan 3 (AlE w ⟨x0, x1, x2, x3, x4, x5⟩) (fun _ _ => False) (by kernel_rfl) (by decide +kernel) ((H1.out.st x0 x1 x2 x3 x4 x5)).drew (fun _ _ _ h => h.elim) ?_
 simp only [List.take_succ_cons, List.take_zero, List.drop_succ_cons, List.drop_zero]
 iterate 3
  apply Yu rfl rfl
  ·intro K hK w5 hB1
   have c7 := Ya hB1.r7
   unfold Fl.cells at c7
   have HB := Yh_ hB1
   clear hB1
   go_wp2_with fail
   first
   |exact hK _ HB.out
   |exact HB.out
  ·exact ⟨_, rfl⟩
 refine Yaf (fun _ w5 hB1 => ?_)
 have c9 := Ya hB1.r9
 have f9 := Yn hB1.r9
 unfold Fl.cells Fl.zero at c9
 have HB := Yh_ hB1
 clear hB1
 go_wp2_with fail
 exact bodyPost_ret (Yaz rfl (Yal 8 rfl) (Ycl 9 (w.heap.size + 1) ⟨x0, x1, x2, x3, x4, x5⟩ rfl (Ych HB.out.r9 _ _ _ _ _ _))) rfl ⟨rfl, Ybf HB.out.u (.inr (by omega)) _ _ _ _ _ _⟩
theorem aluDo_14 (a b : Int) (f : Fl) (w : World) (ha : 0 ≤ a ∧ a < 4294967296) (hb : 0 ≤ b ∧ b < 4294967296) :
  Calls Tryz.prog 47 #[.int .i64 14, .int .u32 a, .int .u32 b, .agg f.cells] w fun e w' => e = .returned (.tuple #[.int .u32 (Yby 14 a b f), .agg (Ybm 14 a b f).cells]) ∧ Upd [] w w' := by
 obtain ⟨c, d, e', z, n, o⟩ := f
 have HA := Yh_ (And.intro ha hb)
 have HV := Yh_ (show Ybm 14 a b ⟨c, d, e', z, n, o⟩ = ⟨c, d, e', z, n, o⟩ by simp [Ybm])
 have tok : True := trivial
 clear ha hb
 rw [HV.out]
 simp only [Yby]
 unfold Fl.cells
 go_enter Tryz.func47, Tryz.ntmps47
 go_wp2_with fail
 refine Yan 3 (AlE w ⟨c, d, e', z, n, o⟩) (fun _ _ => False) (by kernel_rfl) (by decide +kernel) (AlE.start).drew (fun _ _ _ h => h.elim) ?_
 simp only [List.take_succ_cons, List.take_zero, List.drop_succ_cons, List.drop_zero]
 iterate 3
  apply Yu rfl rfl
  ·intro K hK w5 hB1
   have c7 := Ya hB1.r7
   unfold Fl.cells at c7
   have HB := Yh_ hB1
   clear hB1
   go_wp2_with fail
   first
   |exact hK _ HB.out
   |exact HB.out
  ·exact ⟨_, rfl⟩
 refine Yaf (fun _ w5 hB1 => ?_)
 have c9 := Ya hB1.r9
 have f9 := Yn hB1.r9
 unfold Fl.cells Fl.zero at c9
 have HB := Yh_ hB1
 clear hB1
 go_wp2_with fail
 exact bodyPost_ret (Yaz rfl (Yal 8 rfl) (Ycl 9 (w.heap.size + 1) ⟨c, d, e', z, n, o⟩ rfl (Ych HB.out.r9 _ _ _ _ _ _))) rfl ⟨rfl, Ybf HB.out.u (.inr (by omega)) _ _ _ _ _ _⟩
def Yiw (op : Int) : Bool := (decide (3 ≤ op) && decide (op ≤ 15))
theorem Ypx (op a b : Int) (f : Fl) (w : World) (hop : Yiw op = true) (ha : 0 ≤ a ∧ a < 4294967296) (hb : 0 ≤ b ∧ b < 4294967296) :
  Calls Tryz.prog 47 #[.int .i64 op, .int .u32 a, .int .u32 b, .agg f.cells] w fun e w' => e = .returned (.tuple #[.int .u32 (Yby op a b f), .agg (Ybm op a b f).cells]) ∧ Upd [] w w' := by
 have h : op = 3 ∨ op = 4 ∨ op = 5 ∨ op = 6 ∨ op = 7 ∨ op = 8 ∨ op = 9 ∨ op = 10 ∨ op = 11 ∨ op = 12 ∨ op = 13 ∨ op = 14 ∨ op = 15 := by
  simp only [Yiw, Bool.and_eq_true, decide_eq_true_eq] at hop
  omega
 rcases h with rfl | rfl | rfl | rfl | rfl | rfl | rfl | rfl | rfl | rfl | rfl | rfl | rfl
 ·exact aluDo_3 a b f w ha hb
 ·exact aluDo_4 a b f w ha hb
 ·exact aluDo_5 a b f w ha hb
 ·exact aluDo_6 a b f w ha hb
 ·exact aluDo_7 a b f w ha hb
 ·exact aluDo_8 a b f w ha hb
 ·exact aluDo_9 a b f w ha hb
 ·exact aluDo_10 a b f w ha hb
 ·exact aluDo_11 a b f w ha hb
 ·exact aluDo_12 a b f w ha hb
 ·exact aluDo_13 a b f w ha hb
 ·exact aluDo_14 a b f w ha hb
 ·exact aluDo_15 a b f w ha hb
theorem Yos (op a b : Int) (f : Fl) (ha : 0 ≤ a ∧ a < 4294967296) (hb : 0 ≤ b ∧ b < 4294967296) : 0 ≤ Yby op a b f ∧ Yby op a b f < 4294967296 := by
 unfold Yby
 repeat' split
 all_goals first | exact Yir _ _ _ | exact Yiq _ _ _ | exact Yi2 a b ha hb | exact or_u32 a b ha hb | exact Yjf a b ha hb | exact Yjf 4294967295 a (by decide) ha | exact ha
section
structure Dq (w : World) (d a pb : Nat) (s : St) (i : Ins) (M : Mem) (L : List (Nat × Obj)) (w1 : World) : Prop where
 b : Yq w1 d a pb s i M
 o : ∀ p ∈ L, w1.heap[p.1]? = some p.2
 u : Upd [d, pb] w w1
 n : ∀ p ∈ L, p.1 ≠ d ∧ p.1 ≠ pb
section
variable {w w1 w2 : World} {d a pb : Nat} {s s2 : St} {i : Ins} {M M2 : Mem} {L : List (Nat × Obj)}
theorem Dq.quiet (h : Dq w d a pb s i M L w1) (u : Upd [] w1 w2) : Dq w d a pb s i M L w2 :=
 ⟨h.b.keep u (by simp) (by simp) (by simp), fun p hp => u.get (h.o p hp) (by simp), h.u.also u (by simp), h.n⟩
theorem Dq.drew (h : Dq w d a pb s i M L w1) : Dq w d a pb s i M L w1.drew := h.quiet (Upd.refl [] w1).drew
theorem Dq.next (h : Dq w d a pb s i M L w1) (hd : Yq w2 d a pb s2 i M2) (u : Upd [d, pb] w1 w2) : Dq w d a pb s2 i M2 L w2 :=
 ⟨hd, fun p hp => u.get (h.o p hp) (by have := h.n p hp; simp; exact ⟨this.1, this.2⟩), h.u.also u (fun x hx => .inl hx), h.n⟩
theorem Dq.of (h : Yq w d a pb s i M) : Dq w d a pb s i M [] w := ⟨h, by simp, Upd.refl _ _, by simp⟩
theorem Dq.one {b : Nat} {c : Array Value} {t : TypeId} {f : Nat × Nat} (h : Dq w d a pb s i M ((b, .cells c t f) :: L) w1) : w1.heap[b]? = some (.cells c t f) := h.o (b, .cells c t f) (by simp)
theorem Dq.ins {g : Nat} (h : Dq w d a pb s i M ((g, .cells i.cells 41 (0, 0)) :: L) w1) : ∀ o, w1.cell? ⟨g, o, none⟩ = i.cells[o]? := Ya h.one
theorem Dq.lts (h : Dq w d a pb s i M L w1) : d < w1.heap.size ∧ a < w1.heap.size ∧ pb < w1.heap.size ∧ ∀ p ∈ L, p.1 < w1.heap.size :=
 ⟨h.b.lt, by obtain ⟨C, _, hc⟩ := h.b.m.hd; exact Yj hc, by obtain ⟨C, _, hc⟩ := h.b.m.pg; exact Yj hc, fun p hp => Yj (h.o p hp)⟩
theorem Dq.lay (h : Dq w d a pb s i M L w1) (c : Array Value) (t : TypeId) : Dq w d a pb s i M ((w1.heap.size, .cells c t (0, 0)) :: L) (w1.alloc (.cells c t)) := by
 have h' := h.quiet ((Upd.refl [] w1).alloc (.cells c t))
 refine ⟨h'.b, fun p hp => ?_, h'.u, fun p hp => ?_⟩
 ·rcases List.mem_cons.1 hp with rfl | hp
  ·exact heap_alloc_new w1 _
  ·exact h'.o p hp
 ·rcases List.mem_cons.1 hp with rfl | hp
  ·have := h.lts; exact ⟨by dsimp only; omega, by dsimp only; omega⟩
  ·exact h.n p hp
theorem Dq.add (h : Dq w d a pb s i M L w1) {g : Nat} {o : Obj} (hg : w1.heap[g]? = some o) (h1 : g ≠ d) (h2 : g ≠ pb) : Dq w d a pb s i M ((g, o) :: L) w1 := by
 refine ⟨h.b, fun p hp => ?_, h.u, fun p hp => ?_⟩
 ·rcases List.mem_cons.1 hp with rfl | hp
  ·exact hg
  ·exact h.o p hp
 ·rcases List.mem_cons.1 hp with rfl | hp
  ·exact ⟨h1, h2⟩
  ·exact h.n p hp
theorem Dq.put {b : Nat} {c v : Array Value} {t : TypeId} (h : Dq w d a pb s i M ((b, .cells c t (0, 0)) :: L) w1) (hb : w.heap.size ≤ b) (hba : b ≠ a) (hL : ∀ p ∈ L, p.1 ≠ b) (hv : wr c 0 v.toList = v) (hw : w1.setCells b 0 v.toList = w2) : Dq w d a pb s i M ((b, .cells v t (0, 0)) :: L) w2 := by
 subst hw
 have u := (Upd.refl [b] w1).setCells (q := b) (.inl (by simp)) v.toList 0
 have hn := h.n (b, .cells c t (0, 0)) (by simp)
 refine ⟨h.b.keep u (by simpa using fun e => hn.1 e.symm) (by simpa using fun e => hba e.symm) (by simpa using fun e => hn.2 e.symm), fun p hp => ?_, h.u.also u (fun x hx => .inr (by rw [List.mem_singleton.1 hx]; exact hb)), fun p hp => ?_⟩
 ·rcases List.mem_cons.1 hp with rfl | hp
  ·rw [Yag _ _ _ _ h.one, hv]
  ·exact u.get (h.o p (by simp [hp])) (by simpa using hL p hp)
 ·rcases List.mem_cons.1 hp with rfl | hp
  ·exact hn
  ·exact h.n p (by simp [hp])
theorem Dq.tail {p : Nat × Obj} (h : Dq w d a pb s i M (p :: L) w1) : Dq w d a pb s i M L w1 := ⟨h.b, fun q hq => h.o q (by simp [hq]), h.u, fun q hq => h.n q (by simp [hq])⟩
end
structure Dg (w : World) (d a pb : Nat) (s : St) (i : Ins) (M : Mem) (L : List (Nat × Obj)) (n0 k m : Nat) (T : TypeId) (Z V : Array Value) (dn : Nat → Bool) (r : Nat → Value) (w1 : World) : Prop where
 q : Dq w d a pb s i M L w1
 b : n0 ≤ w1.heap.size
 lt : (d < n0 ∧ a < n0 ∧ pb < n0 ∧ ∀ p ∈ L, p.1 < n0) ∧ w.heap.size ≤ n0
 x : dn k = true → ∃ g, r k = .pointer (some ⟨g, 0, none⟩) ∧ n0 ≤ g ∧ w1.heap[g]? = some (.cells (if dn m then V else Z) T (0, 0))
 xo : dn m = true → dn k = true
section
variable {w w1 w2 : World} {d a pb n0 k m : Nat} {s s2 : St} {i : Ins} {M M2 : Mem} {L : List (Nat × Obj)} {T : TypeId} {Z V : Array Value} {dn : Nat → Bool} {r : Nat → Value}
theorem Dg.start (h : Dq w d a pb s i M L w1) (k m : Nat) (T : TypeId) (Z V : Array Value) (r : Nat → Value) : Dg w d a pb s i M L w1.heap.size k m T Z V (fun _ => false) r w1.drew :=
 ⟨h.drew, ((Upd.refl [] w1).drew).size, ⟨h.lts, h.u.size⟩, fun h => (by cases h), fun h => (by cases h)⟩
theorem Dg.quiet (h : Dg w d a pb s i M L n0 k m T Z V dn r w1) (u : Upd [] w1 w2) (j : Nat) (h1 : k ≠ j) (h2 : m ≠ j) : Dg w d a pb s i M L n0 k m T Z V (Yah dn j) r w2 := by
 refine ⟨h.q.quiet u, Nat.le_trans h.b u.size, h.lt, fun hx => ?_, fun hx => ?_⟩
 ·rw [Yp h1] at hx
  obtain ⟨g, e1, e2, e3⟩ := h.x hx
  exact ⟨g, e1, e2, by rw [Yp h2]; exact u.get e3 (by simp)⟩
 ·rw [Yp h2] at hx; rw [Yp h1]; exact h.xo hx
theorem Dg.same (h : Dg w d a pb s i M L n0 k m T Z V dn r w1) (j : Nat) (h1 : k ≠ j) (h2 : m ≠ j) : Dg w d a pb s i M L n0 k m T Z V (Yah dn j) r w1 := h.quiet (Upd.refl [] w1) j h1 h2
theorem Dg.lay (h : Dg w d a pb s i M L n0 k m T Z V dn r w1) (hd : dn k = false) (hkm : m ≠ k) : Dg w d a pb s i M L n0 k m T Z V (Yah dn k) (Ycw r k (.pointer (some ⟨w1.heap.size, 0, none⟩))) (w1.alloc (.cells Z T)) := by
 have hdm : dn m = false := by
  cases e : dn m with
  |false => rfl
  |true => rw [h.xo e] at hd; cases hd
 have u := (Upd.refl [] w1).alloc (.cells Z T)
 refine ⟨h.q.quiet u, Nat.le_trans h.b u.size, h.lt, fun _ => ⟨_, Yf9, h.b, ?_⟩, fun _ => Yc4⟩
 rw [Yp hkm, hdm]
 exact heap_alloc_new _ _
theorem Dg.put (h : Dg w d a pb s i M L n0 k m T Z V dn r w1) (hd : dn k = true) {g : Nat} (e1 : r k = .pointer (some ⟨g, 0, none⟩)) (hv : ∀ c, (c = V ∨ c = Z) → wr c 0 V.toList = V) (hkm : k ≠ m) : Dg w d a pb s i M L n0 k m T Z V (Yah dn m) r (w1.setCells g 0 V.toList) := by
 obtain ⟨g', e1', e2, e3⟩ := h.x hd
 obtain rfl : g' = g := by rw [e1] at e1'; injection e1' with e; injection e with e; injection e with e; exact e.symm
 have u := (Upd.refl [g'] w1).setCells (q := g') (.inl (by simp)) V.toList 0
 have hl := h.lt.1
 refine ⟨⟨h.q.b.keep u (by simp; omega) (by simp; omega) (by simp; omega), fun p hp => u.get (h.q.o p hp) (by have := hl.2.2.2 p hp; simp; omega), h.q.u.also u (fun x hx => .inr (by rw [List.mem_singleton.1 hx]; exact Nat.le_trans h.lt.2 e2)), h.q.n⟩, Nat.le_trans h.b u.size, h.lt, fun _ => ⟨g', e1, e2, ?_⟩, fun _ => by rw [Yp hkm]; exact hd⟩
 rw [Yc4, if_pos rfl, Yag _ _ _ _ e3, hv _ (by split <;> simp)]
theorem Dg.fin (h : Dg w d a pb s i M L n0 k m T Z V dn r w1) (hk : dn k = true) : ∃ g, r k = .pointer (some ⟨g, 0, none⟩) ∧ Dq w d a pb s i M ((g, .cells (if dn m then V else Z) T (0, 0)) :: L) w1 ∧ (w.heap.size ≤ g ∧ g ≠ a ∧ ∀ p ∈ L, p.1 ≠ g) := by
 obtain ⟨g, e1, e2, e3⟩ := h.x hk
 have hl := h.lt
 exact ⟨g, e1, h.q.add e3 (by omega) (by omega), by omega, by omega, fun p hp => by have := hl.1.2.2.2 p hp; omega⟩
end
end
end Go.Proofs.YthakgjpejhjaoaaGreat
