/-
  Parts of the proof (their names shortened by a program). No condition.
-/
import Derived.Test.YtjkolegknpflfaaDoorMg01
import Derived.Test.YtjkolegknpflfaaDoorMg15
import Derived.ChangeSlices
import Derived.Test.YtjkolegknpflfaaDoorMg04
namespace Go.Proofs.YtjkolegknpflfaaDoor
open Go Go.RowKit
set_option linter.unusedVariables false
set_option linter.unusedSimpArgs false
set_option maxRecDepth 100000
set_option maxHeartbeats 16000000
theorem MSl.off {w : World} {v : Value} {l : List Mi} {g pb : Nat} (h : MSl w v l g) (hp : w.heap.size ≤ pb) : ∃ g', MSl w v l g' ∧ g' ≠ pb := by
 rcases h with h | ⟨o, c, h1, h2, h3⟩
 ·exact ⟨pb + 1, .inl h, by omega⟩
 ·exact ⟨g, .inr ⟨o, c, h1, h2, h3⟩, by omega⟩
theorem Kr.start {w w2 w3 : World} {ma pb : Nat} {o : Obj} (hm : Yi w3 ma pb Mem.zero) (u : Upd [] w w3) (ho : w3.heap[w.heap.size]? = some o) (ha : w2.heap.size ≤ ma) (hp : w2.heap.size ≤ pb) (hlt : w.heap.size < w2.heap.size) : Kr w ma pb [(w.heap.size, o)] w3 :=
 ⟨⟨u, fun p hp => by rw [List.mem_singleton.1 hp]; exact ho, List.pairwise_singleton _ _, fun p hp => by rw [List.mem_singleton.1 hp]; exact .inr (Nat.le_refl _)⟩, hm, by omega, fun p hp => by rw [List.mem_singleton.1 hp]; dsimp only; omega⟩
theorem Kr.more {w w1 : World} {ma pb y : Nat} {L : List (Nat × Obj)} {o : Obj} (h : Kr w ma pb L w1) (ho : w1.heap[y]? = some o) (hy : w.heap.size ≤ y) (hpq : y ≠ pb ∧ y ≠ ma) (hne : ∀ p ∈ L, y ≠ p.1) : Kr w ma pb ((y, o) :: L) w1 := by
 refine ⟨⟨h.h.u, fun p hp => ?_, List.pairwise_cons.2 ⟨fun p hp => hne p hp, h.h.s⟩, fun p hp => ?_⟩, h.m, h.f, fun p hp => ?_⟩
 ·rcases List.mem_cons.1 hp with rfl | hp
  ·exact ho
  ·exact h.h.v p hp
 ·rcases List.mem_cons.1 hp with rfl | hp
  ·exact .inr hy
  ·exact h.h.t p hp
 ·rcases List.mem_cons.1 hp with rfl | hp'
  ·exact hpq
  ·exact h.d p hp'
theorem Yh5 (s : St) (w : World) : (binOp .eql 28 (.agg s.cells) (.agg s.cells)).run Tryd.prog w = .ok (.bool true) w := by rw [Yio, St.eqB_self]
theorem Yix (s : St) (v1 v2 : Value) (l k : List Mi) (g1 g2 : Nat) (w : World) (hs : s.Ok) (h1 : MSl w v1 l g1) (h2 : MSl w v2 k g2) (ok1 : ∀ x ∈ l, x.Ok) (ok2 : ∀ x ∈ k, x.Ok) (n1 : l.length ≤ maxLen) (n2 : k.length ≤ maxLen) (q : 60 < (l.length : Int)) : Calls Tryd.prog 3 #[.agg s.cells, v1, v2] w fun e w' => e = .returned (.bool true) ∧ Upd [] w w' := by
 obtain ⟨b1, c1, rfl⟩ := h1.form
 obtain ⟨b2, c2, rfl⟩ := h2.form
 obtain ⟨ln, hln⟩ : ∃ ln : Int, ln = (l.length : Int) := ⟨_, rfl⟩
 obtain ⟨kn, hkn⟩ : ∃ kn : Int, kn = (k.length : Int) := ⟨_, rfl⟩
 have ec : ((l.length : Nat) : Int) = ln := hln.symm
 have ec2 : ((k.length : Nat) : Int) = kn := hkn.symm
 have HA := Yh_ (And.intro h1 (And.intro ok1 n1))
 have HB0 := Yh_ (And.intro h2 (And.intro ok2 n2))
 have HL := Yh_ (And.intro hln hkn)
 have tok : True := trivial
 rw [← hln] at q
 have d0 : decide (60 < ln) = true := by simp; omega
 clear q
 clear h1 h2 ok1 ok2 n1 n2 hln hkn
 go_enter Tryd.func3, Tryd.ntmps3
 go_wp2_with (have _t := tok; clear _t; go_at_call 7; refine (Yco _).mono ?_; rintro e w0 ⟨rfl, hu0⟩; have H0 := Yh_ (And.intro (((Upd.refl [] w).alloc (.cells s.cells 28)).also hu0 (by simp)) (hu0.get (heap_alloc_new w (.cells s.cells 28)) (by simp))); clear hu0 tok)
 go_ret
 exact ⟨rfl, H0.out.1⟩
theorem Yjt (s : St) (v1 v2 : Value) (l k : List Mi) (g1 g2 : Nat) (w : World) (hs : s.Ok) (h1 : MSl w v1 l g1) (h2 : MSl w v2 k g2) (ok1 : ∀ x ∈ l, x.Ok) (ok2 : ∀ x ∈ k, x.Ok) (n1 : l.length ≤ maxLen) (n2 : k.length ≤ maxLen) (q3 : ¬ 60 < (l.length : Int)) (q : 60 < (k.length : Int)) : Calls Tryd.prog 3 #[.agg s.cells, v1, v2] w fun e w' => e = .returned (.bool true) ∧ Upd [] w w' := by
 obtain ⟨b1, c1, rfl⟩ := h1.form
 obtain ⟨b2, c2, rfl⟩ := h2.form
 obtain ⟨ln, hln⟩ : ∃ ln : Int, ln = (l.length : Int) := ⟨_, rfl⟩
 obtain ⟨kn, hkn⟩ : ∃ kn : Int, kn = (k.length : Int) := ⟨_, rfl⟩
 have ec : ((l.length : Nat) : Int) = ln := hln.symm
 have ec2 : ((k.length : Nat) : Int) = kn := hkn.symm
 have HA := Yh_ (And.intro h1 (And.intro ok1 n1))
 have HB0 := Yh_ (And.intro h2 (And.intro ok2 n2))
 have HL := Yh_ (And.intro hln hkn)
 have tok : True := trivial
 rw [← hln] at q3
 have d0 : decide (60 < ln) = false := by simp; omega
 clear q3
 rw [← hkn] at q
 have d1 : decide (60 < kn) = true := by simp; omega
 clear q
 clear h1 h2 ok1 ok2 n1 n2 hln hkn
 go_enter Tryd.func3, Tryd.ntmps3
 go_wp2_with (have _t := tok; clear _t; go_at_call 7; refine (Yco _).mono ?_; rintro e w0 ⟨rfl, hu0⟩; have H0 := Yh_ (And.intro (((Upd.refl [] w).alloc (.cells s.cells 28)).also hu0 (by simp)) (hu0.get (heap_alloc_new w (.cells s.cells 28)) (by simp))); clear hu0 tok)
 go_ret
 exact ⟨rfl, H0.out.1⟩
theorem Yjp (s : St) (v1 v2 : Value) (l k : List Mi) (g1 g2 : Nat) (w : World) (hs : s.Ok) (h1 : MSl w v1 l g1) (h2 : MSl w v2 k g2) (ok1 : ∀ x ∈ l, x.Ok) (ok2 : ∀ x ∈ k, x.Ok) (n1 : l.length ≤ maxLen) (n2 : k.length ≤ maxLen) (q3 : ¬ 60 < (l.length : Int)) (q4 : ¬ 60 < (k.length : Int)) (hi : isL l = false) : Calls Tryd.prog 3 #[.agg s.cells, v1, v2] w fun e w' => e = .returned (.bool true) ∧ Upd [] w w' := by
 obtain ⟨b1, c1, rfl⟩ := h1.form
 obtain ⟨b2, c2, rfl⟩ := h2.form
 obtain ⟨ln, hln⟩ : ∃ ln : Int, ln = (l.length : Int) := ⟨_, rfl⟩
 obtain ⟨kn, hkn⟩ : ∃ kn : Int, kn = (k.length : Int) := ⟨_, rfl⟩
 have ec : ((l.length : Nat) : Int) = ln := hln.symm
 have ec2 : ((k.length : Nat) : Int) = kn := hkn.symm
 have HA := Yh_ (And.intro h1 (And.intro ok1 n1))
 have HB0 := Yh_ (And.intro h2 (And.intro ok2 n2))
 have HL := Yh_ (And.intro hln hkn)
 have tok : True := trivial
 rw [← hln] at q3
 have d0 : decide (60 < ln) = false := by simp; omega
 clear q3
 rw [← hkn] at q4
 have d1 : decide (60 < kn) = false := by simp; omega
 clear q4
 have HI1 := Yh_ hi
 clear hi
 clear h1 h2 ok1 ok2 n1 n2 hln hkn
 go_enter Tryd.func3, Tryd.ntmps3
 go_wp2_with (first | (have _t := tok; clear _t; go_at_call 7; refine (Yco _).mono ?_; rintro e w0 ⟨rfl, hu0⟩; have H0 := Yh_ (And.intro (((Upd.refl [] w).alloc (.cells s.cells 28)).also hu0 (by simp)) (hu0.get (heap_alloc_new w (.cells s.cells 28)) (by simp))); clear hu0 tok) | (have _t := H0; clear _t; go_at_call 8; refine (Yda _ l g1 _ (HA.out.1.keep H0.out.1 (by simp)) HA.out.2.1 HA.out.2.2).mono ?_; rintro e w1 ⟨rfl, hu⟩; rw [HI1.out]; have H1 := Yh_ (And.intro (H0.out.1.also hu (by simp)) (hu.get H0.out.2 (by simp))); clear hu H0))
 go_ret
 exact ⟨rfl, H1.out.1⟩
theorem Yiy (s : St) (v1 v2 : Value) (l k : List Mi) (g1 g2 : Nat) (w : World) (hs : s.Ok) (h1 : MSl w v1 l g1) (h2 : MSl w v2 k g2) (ok1 : ∀ x ∈ l, x.Ok) (ok2 : ∀ x ∈ k, x.Ok) (n1 : l.length ≤ maxLen) (n2 : k.length ≤ maxLen) (q3 : ¬ 60 < (l.length : Int)) (q4 : ¬ 60 < (k.length : Int)) (hi : isL l = true) (hj : isL k = false) : Calls Tryd.prog 3 #[.agg s.cells, v1, v2] w fun e w' => e = .returned (.bool true) ∧ Upd [] w w' := by
 obtain ⟨b1, c1, rfl⟩ := h1.form
 obtain ⟨b2, c2, rfl⟩ := h2.form
 obtain ⟨ln, hln⟩ : ∃ ln : Int, ln = (l.length : Int) := ⟨_, rfl⟩
 obtain ⟨kn, hkn⟩ : ∃ kn : Int, kn = (k.length : Int) := ⟨_, rfl⟩
 have ec : ((l.length : Nat) : Int) = ln := hln.symm
 have ec2 : ((k.length : Nat) : Int) = kn := hkn.symm
 have HA := Yh_ (And.intro h1 (And.intro ok1 n1))
 have HB0 := Yh_ (And.intro h2 (And.intro ok2 n2))
 have HL := Yh_ (And.intro hln hkn)
 have tok : True := trivial
 rw [← hln] at q3
 have d0 : decide (60 < ln) = false := by simp; omega
 clear q3
 rw [← hkn] at q4
 have d1 : decide (60 < kn) = false := by simp; omega
 clear q4
 have HI1 := Yh_ hi
 clear hi
 have HI2 := Yh_ hj
 clear hj
 clear h1 h2 ok1 ok2 n1 n2 hln hkn
 go_enter Tryd.func3, Tryd.ntmps3
 go_wp2_with (first | (have _t := tok; clear _t; go_at_call 7; refine (Yco _).mono ?_; rintro e w0 ⟨rfl, hu0⟩; have H0 := Yh_ (And.intro (((Upd.refl [] w).alloc (.cells s.cells 28)).also hu0 (by simp)) (hu0.get (heap_alloc_new w (.cells s.cells 28)) (by simp))); clear hu0 tok) | (have _t := H0; clear _t; go_at_call 8; refine (Yda _ l g1 _ (HA.out.1.keep H0.out.1 (by simp)) HA.out.2.1 HA.out.2.2).mono ?_; rintro e w1 ⟨rfl, hu⟩; rw [HI1.out]; have H1 := Yh_ (And.intro (H0.out.1.also hu (by simp)) (hu.get H0.out.2 (by simp))); clear hu H0) | (have _t := H1; clear _t; go_at_call 8; refine (Yda _ k g2 _ (HB0.out.1.keep H1.out.1 (by simp)) HB0.out.2.1 HB0.out.2.2).mono ?_; rintro e w2 ⟨rfl, hu⟩; rw [HI2.out]; have H2 := Yh_ (And.intro (H1.out.1.also hu (by simp)) (hu.get H1.out.2 (by simp))); clear hu H1))
 go_ret
 exact ⟨rfl, H2.out.1⟩
theorem Yhf (s : St) (v1 v2 : Value) (l k : List Mi) (g1 g2 : Nat) (w : World) (hs : s.Ok) (h1 : MSl w v1 l g1) (h2 : MSl w v2 k g2) (ok1 : ∀ x ∈ l, x.Ok) (ok2 : ∀ x ∈ k, x.Ok) (n1 : l.length ≤ maxLen) (n2 : k.length ≤ maxLen) (q3' : ¬ 60 < (l.length : Int)) (q4' : ¬ 60 < (k.length : Int)) (hi : isL l = true) (hj : isL k = true) (S1 S2 S3 : St) (F1 F2 F3 : Flt) (k1 k2 k3 q1 q2 q3 : Bool)
  (r1 : (Ybi (Yu (Yh D1) ((l ++ clL 64) ++ k) (rn0 s)) = S1 ∧ Ycg (Yu (Yh D1) ((l ++ clL 64) ++ k) (rn0 s)) = F1 ∧ Yb3 (Yu (Yh D1) ((l ++ clL 64) ++ k) (rn0 s)) = k1 ∧ Ycd (Yu (Yh D1) ((l ++ clL 64) ++ k) (rn0 s)) = q1)) (r2 : (Ybi (Yu (Yh D1) l (rn0 s)) = S2 ∧ Ycg (Yu (Yh D1) l (rn0 s)) = F2 ∧ Yb3 (Yu (Yh D1) l (rn0 s)) = k2 ∧ Ycd (Yu (Yh D1) l (rn0 s)) = q2)) (r3 : (Ybi (Yu (Yh D1) k (rn0 S2)) = S3 ∧ Ycg (Yu (Yh D1) k (rn0 S2)) = F3 ∧ Yb3 (Yu (Yh D1) k (rn0 S2)) = k3 ∧ Ycd (Yu (Yh D1) k (rn0 S2)) = q3)) (hs2 : S2.Ok)
  (cA : k2 = false ∨ q2 = true → S1 = S2 ∧ F1 = F2 ∧ k1 = k2 ∧ q1 = q2) (cB : k2 = true → q2 = false → k3 = false → k1 = false ∧ F1.k = F3.k ∧ F1.a = F3.a) (cC : k2 = true → q2 = false → k3 = true → k1 = true ∧ S1 = S3 ∧ q1 = q3) : Calls Tryd.prog 3 #[.agg s.cells, v1, v2] w fun e w' => e = .returned (.bool true) ∧ Upd [] w w' := by
 obtain ⟨b1, c1, rfl⟩ := h1.form
 obtain ⟨b2, c2, rfl⟩ := h2.form
 obtain ⟨ln, hln⟩ : ∃ ln : Int, ln = (l.length : Int) := ⟨_, rfl⟩
 obtain ⟨kn, hkn⟩ : ∃ kn : Int, kn = (k.length : Int) := ⟨_, rfl⟩
 have ec : ((l.length : Nat) : Int) = ln := hln.symm
 have ec2 : ((k.length : Nat) : Int) = kn := hkn.symm
 have HA := Yh_ (And.intro h1 (And.intro ok1 n1))
 have HB0 := Yh_ (And.intro h2 (And.intro ok2 n2))
 have HL := Yh_ (And.intro hln hkn)
 have tok : True := trivial
 rw [← hln] at q3'
 rw [← hkn] at q4'
 have d0 : decide (60 < ln) = false := by simp; omega
 have d1 : decide (60 < kn) = false := by simp; omega
 have HI1 := Yh_ hi
 have HI2 := Yh_ hj
 have is1 : ∀ x ∈ l, x.is = true ∧ x.Ok := fun x hx => by
  unfold isL at hi; rw [Bool.and_eq_true, List.all_eq_true] at hi; exact ⟨hi.1 x hx, ok1 x hx⟩
 have is2 : ∀ x ∈ k, x.is = true ∧ x.Ok := fun x hx => by
  unfold isL at hj; rw [Bool.and_eq_true, List.all_eq_true] at hj; exact ⟨hj.1 x hx, ok2 x hx⟩
 have is3 : ∀ x ∈ (l ++ clL 64) ++ k, x.is = true ∧ x.Ok := fun x hx => by
  rcases List.mem_append.1 hx with hx | hx
  ·rcases List.mem_append.1 hx with hx | hx
   ·exact is1 x hx
   ·exact clL_is x hx
  ·exact is2 x hx
 have HIS := Yh_ (And.intro is1 (And.intro is2 is3))
 have HLN := Yh_ (show l.length ≤ 60 ∧ k.length ≤ 60 ∧ ((l ++ clL 64) ++ k).length ≤ 200 ∧ (l ++ clL 64).length ≤ 200 by rw [List.length_append, List.length_append, Yeq]; omega)
 have HSS := Yh_ (And.intro hs hs2)
 obtain ⟨f1k, f1p, f1a, f1w⟩ := F1
 obtain ⟨f2k, f2p, f2a, f2w⟩ := F2
 obtain ⟨f3k, f3p, f3a, f3w⟩ := F3
 have HR1 := Yh_ r1
 have HR2 := Yh_ r2
 have HR3 := Yh_ r3
 have HC := Yh_ (And.intro cA (And.intro cB cC))
 clear hi hj is1 is2 is3 hs hs2 r1 r2 r3 cA cB cC q3' q4'
 clear h1 h2 ok1 ok2 n1 n2 hln hkn
 go_enter Tryd.func3, Tryd.ntmps3
 go_wp2_with (first | (have _t := tok; clear _t; go_at_call 7; refine (Yco _).mono ?_; rintro e w0 ⟨rfl, hu0⟩; have H0 := Yh_ (And.intro (((Upd.refl [] w).alloc (.cells s.cells 28)).also hu0 (by simp)) (hu0.get (heap_alloc_new w (.cells s.cells 28)) (by simp))); clear hu0 tok) | (have _t := H0; clear _t; go_at_call 8; refine (Yda _ l g1 _ (HA.out.1.keep H0.out.1 (by simp)) HA.out.2.1 HA.out.2.2).mono ?_; rintro e w1 ⟨rfl, hu⟩; rw [HI1.out]; have H1 := Yh_ (And.intro (H0.out.1.also hu (by simp)) (hu.get H0.out.2 (by simp))); clear hu H0) | (have _t := H1; clear _t; go_at_call 8; refine (Yda _ k g2 _ (HB0.out.1.keep H1.out.1 (by simp)) HB0.out.2.1 HB0.out.2.2).mono ?_; rintro e w2 ⟨rfl, hu⟩; rw [HI2.out]; have H2 := Yh_ (And.intro (H1.out.1.also hu (by simp)) (hu.get H1.out.2 (by simp))); clear hu H1) | (have _t := H2; clear _t; go_at_call 9; refine (Yj7 _).mono ?_; rintro e w3 ⟨ma, pb, rfl, ha, hp, hM1, hu1⟩; have K0 := Yh_ (Kr.start hM1 (H2.out.1.also hu1 (by simp)) (hu1.get H2.out.2 (by simp)) ha hp (Yr H2.out.2)); have HPB := Yh_ (And.intro hM1.pl hM1.al); clear ha hp hM1 hu1 H2))
 clear d0 d1
 obtain ⟨g1', hm1, hne1⟩ := HA.out.1.off K0.out.f.1
 obtain ⟨g2', hm2, hne2⟩ := HB0.out.1.off K0.out.f.1
 have HM1 := Yh_ (And.intro hm1 hne1)
 have HM2 := Yh_ (And.intro hm2 hne2)
 clear hm1 hm2 hne1 hne2
 go_loopw [8, 9] (fun v i wr => ∃ q : Int, i = .int .i64 q ∧ Hid (0 ≤ q ∧ q ≤ 64) ∧ Hid (Ybc wr w3.heap.size v (clL q.toNat)) ∧ Hid (Upd [] w3 wr)) (fun _ i _ => (64 - intOf i).toNat)
 case atStart => exact ⟨0, rfl, Yh_ (by decide), Yh_ (Ygt _ _), Yh_ (Upd.refl _ _)⟩
 case round =>
  obtain ⟨q, rfl, hq, O4, U4⟩ := hrel
  by_cases hlt : q < 64
  ·have dlt : decide (q < 64) = true := by simp [hlt]
   have hqq := hq.out
   have HI := Yh_ (show (0 ≤ q ∧ q < 64) ∧ clL (q + 1).toNat = clL q.toNat ++ [⟨1, q, 0, 0, 0, 0, false⟩] ∧ (clL q.toNat).length + 1 ≤ 10000 by
    refine ⟨by omega, ?_, by rw [Yeq]; omega⟩
    rw [show (q + 1).toNat = q.toNat + 1 by omega, Yji]
    unfold clM
    rw [show ((q.toNat : Nat) : Int) = q by omega])
   have ewq : wrap64 (q + 1) = q + 1 := by unfold wrap64; omega
   have tkB : True := trivial
   clear hqq hlt
   go_wp2_with (have _t := tkB; clear _t; at_builtin; refine Ycs rfl _ _ rfl w3.heap.size u8 (clL q.toNat) rfl (O4.out.old ((Upd.refl [] wr).alloc (.cells (Yas [⟨1, q, 0, 0, 0, 0, false⟩]).toArray 35)) (by simp)) _ [⟨1, q, 0, 0, 0, 0, false⟩] wr.heap.size rfl (Ycv (l := [⟨1, q, 0, 0, 0, 0, false⟩]) (c := 1) (T := 35) (f := (0, 0)) (heap_alloc_new wr (.cells (Yas [⟨1, q, 0, 0, 0, 0, false⟩]).toArray 35))) HI.out.2.2 (Nat.le_trans U4.out.size (by simp)) ?_; intro v5 w5 hg; have hb := O4.out.block; have U5 := Yh_ ((U4.out.alloc (.cells (Yas [⟨1, q, 0, 0, 0, 0, false⟩]).toArray 35)).new hg.u (fun x hx => (hb x (by simpa using hx)).1)); have O5 := Yh_ (show Ybc w5 w3.heap.size v5 (clL (q + 1).toNat) by rw [HI.out.2.1]; exact hg.o); clear hg hb tkB O4 U4)
   try simp only [ewq]
   go_roundw
   case rel => exact ⟨q + 1, by first | rfl | rw [ewq], Yh_ (by have := HI.out.1; omega), O5, U5⟩
   case measure => have := HI.out.1; simp only [intOf]; omega
  ·have hqn : q = 64 := by have := hq.out; omega
   subst hqn
   have dlt : decide ((64 : Int) < 64) = false := by decide
   clear hlt hq
   have K1 := Yh_ (K0.out.quiet U4.out)
   have hsl := O4.out.sl
   obtain ⟨gc, hmc, _, hgc⟩ := hsl
   have HMC := Yh_ (show MSl wr u8 (clL 64) gc ∧ gc ≠ pb from ⟨hmc, by have h1 := hgc (by intro e; have h2 := Yeq 64; have e' : clL 64 = [] := e; rw [e'] at h2; cases h2); have h3 := HPB.out.1; omega⟩)
   have HU4 := Yh_ (show Upd [] w wr from K1.out.h.u)
   clear hmc hgc K0
   go_upto_region 11 with fail
   refine Yeb 20 (Kb wr ma pb l (clL 64) k S1 ⟨f1k, f1p, f1a, f1w⟩) (fun _ _ => False) (by kernel_rfl) (by decide +kernel) (fun r0 => Kb.start K1.out.m r0) (fun _ _ _ h => h.elim) ?_
   simp only [List.take_succ_cons, List.take_zero, List.drop_succ_cons, List.drop_zero]
   apply Yab rfl rfl
   ·intro dn r0 K hd hdep hK w5 hB1
    have HB := Yh_ (hB1.same 0 (by decide))
    clear hB1 hdep
    go_wp2_with fail
    first | exact hK _ HB.out | exact HB.out
   ·exact ⟨_, rfl⟩
   apply Yab rfl rfl
   ·intro dn r0 K hd hdep hK w5 hB1
    refine Ydx s w.heap.size _ rfl rfl (hB1.u.get (K1.out.get 0 rfl) (by have h := (K1.out.d _ (List.mem_singleton.2 rfl)).1; simpa using h)) ?_
    exact hK _ (hB1.same 1 (by decide))
   ·exact ⟨_, rfl⟩
   apply Yab rfl rfl
   ·intro dn r0 K hd hdep hK w5 hB1
    have HB := Yh_ (hB1.same 2 (by decide))
    clear hB1 hdep
    go_wp2_with fail
    first | exact hK _ HB.out | exact HB.out
   ·exact ⟨_, rfl⟩
   refine Yeo rfl (fun _ => rfl) 56 rfl (by simp [Act.put]) ?_ ?_
   ·intro dn r0 K hd hdep w5 hB2 hK
    refine Yd7 _ _ rfl wr.heap.size (.slice none 0 0) [] rfl (Ygt _ _) _ l g1' rfl ((HM1.out.1.keep HU4.out (by simp)).keep hB2.u (by simpa using HM1.out.2)) (by have := HLN.out.1; simp; omega) hB2.u.size ?_
    intro v' w6 hg
    exact hK _ _ (hB2.ap3 hd (by have h := hg.o; rw [List.nil_append] at h; exact h) hg.u)
   apply Yaq rfl (fun _ => rfl)
   ·intro dn r0 K hd hdep hK w5 hB2
    have HB := Yh_ (hB2.same 4 (by decide))
    clear hB2 hdep
    simp only [Yq, Act.put, List.getElem?_toArray, List.getElem?_cons_succ, List.getElem?_cons_zero, Option.bind_some, List.setIfInBounds_toArray, List.set_cons_succ, List.set_cons_zero]
    go_wp2_with fail
    first | exact hK _ HB.out | exact HB.out
   ·exact ⟨_, fun _ => rfl, Eq.symm (by go_simp; exact rfl)⟩
   refine Yeo rfl (fun _ => rfl) 58 rfl (by simp [Act.put]) ?_ ?_
   ·intro dn r0 K hd hdep w5 hB2 hK
    have h3 : dn 3 = true := hdep ⟨3, .data⟩ (by simp) rfl
    refine Yd7 _ _ rfl wr.heap.size (r0 3) l rfl (hB2.a3 hd h3) _ (clL 64) gc rfl (HMC.out.1.keep hB2.u (by simpa using HMC.out.2)) (by have := HLN.out.1; rw [Yeq]; omega) hB2.u.size ?_
    intro v' w6 hg
    exact hK _ _ (hB2.ap5 hd h3 hg.o hg.u)
   apply Yaq rfl (fun _ => rfl)
   ·intro dn r0 K hd hdep hK w5 hB2
    have HB := Yh_ (hB2.same 6 (by decide))
    clear hB2 hdep
    simp only [Yq, Act.put, List.getElem?_toArray, List.getElem?_cons_succ, List.getElem?_cons_zero, Option.bind_some, List.setIfInBounds_toArray, List.set_cons_succ, List.set_cons_zero]
    go_wp2_with fail
    first | exact hK _ HB.out | exact HB.out
   ·exact ⟨_, fun _ => rfl, Eq.symm (by go_simp; exact rfl)⟩
   refine Yeo rfl (fun _ => rfl) 60 rfl (by simp [Act.put]) ?_ ?_
   ·intro dn r0 K hd hdep w5 hB2 hK
    have h5 : dn 5 = true := hdep ⟨5, .data⟩ (by simp) rfl
    refine Yd7 _ _ rfl wr.heap.size (r0 5) (l ++ clL 64) rfl (hB2.a5 hd h5) _ k g2' rfl ((HM2.out.1.keep HU4.out (by simp)).keep hB2.u (by simpa using HM2.out.2)) (by have := HLN.out; omega) hB2.u.size ?_
    intro v' w6 hg
    exact hK _ _ (hB2.ap7 hd h5 hg.o hg.u)
   apply Yaq rfl (fun _ => rfl)
   ·intro dn r0 K hd hdep hK w5 hB2
    have h7 : dn 7 = true := hdep ⟨7, .data⟩ (by simp) rfl
    have hsp := (hB2.a7 h7).sl.choose_spec
    generalize (hB2.a7 h7).sl.choose = gx at hsp
    have hgx : gx ≠ pb := by
     have h1 := hsp.2.2 (by intro e; have h2 := congrArg List.length e; rw [List.length_append, List.length_append, Yeq] at h2; simp at h2)
     have h3 := hB2.lt.1
     omega
    have HB := Yh_ (And.intro hB2 (And.intro hsp.1 hgx))
    clear hB2 hdep hsp hgx
    simp only [Yq]
    go_wp2_with (go_at_call 10; refine (Yfi ma pb gx s (r0 7) ((l ++ clL 64) ++ k) _ HB.out.1.m HSS.out.1 HB.out.2.1 HIS.out.2.2 HLN.out.2.2.1 HB.out.2.2).mono ?_; rintro e w6 ⟨rfl, hm, hu⟩; rw [HR1.out.1, HR1.out.2.1, HR1.out.2.2.1, HR1.out.2.2.2]; unfold Flt.val; have HB2 := Yh_ ((HB.out.1.run hu hm).same 8 (by decide)); clear hm hu)
    first | exact hK _ HB2.out | exact HB2.out
   ·exact ⟨_, fun _ => rfl, Eq.symm (by go_simp; exact rfl)⟩
   apply Yaq rfl (fun _ => rfl)
   ·intro dn r0 K hd hdep hK w5 hB2
    have HB := Yh_ (hB2.same 9 (by decide))
    clear hB2 hdep
    simp only [Yq, Act.put, List.getElem?_toArray, List.getElem?_cons_succ, List.getElem?_cons_zero, Option.bind_some, List.setIfInBounds_toArray, List.set_cons_succ, List.set_cons_zero]
    go_wp2_with fail
    first | exact hK _ HB.out | exact HB.out
   ·exact ⟨_, fun _ => rfl, Eq.symm (by go_simp; exact rfl)⟩
   apply Yaq rfl (fun _ => rfl)
   ·intro dn r0 K hd hdep hK w5 hB2
    have HB := Yh_ (hB2.same 10 (by decide))
    clear hB2 hdep
    simp only [Yq, Act.put, List.getElem?_toArray, List.getElem?_cons_succ, List.getElem?_cons_zero, Option.bind_some, List.setIfInBounds_toArray, List.set_cons_succ, List.set_cons_zero]
    go_wp2_with fail
    first | exact hK _ HB.out | exact HB.out
   ·exact ⟨_, fun _ => rfl, Eq.symm (by go_simp; exact rfl)⟩
   apply Yaq rfl (fun _ => rfl)
   ·intro dn r0 K hd hdep hK w5 hB2
    have HB := Yh_ (hB2.same 11 (by decide))
    clear hB2 hdep
    simp only [Yq, Act.put, List.getElem?_toArray, List.getElem?_cons_succ, List.getElem?_cons_zero, Option.bind_some, List.setIfInBounds_toArray, List.set_cons_succ, List.set_cons_zero]
    go_wp2_with fail
    first | exact hK _ HB.out | exact HB.out
   ·exact ⟨_, fun _ => rfl, Eq.symm (by go_simp; exact rfl)⟩
   apply Yaq rfl (fun _ => rfl)
   ·intro dn r0 K hd hdep hK w5 hB2
    have HB := Yh_ (hB2.same 12 (by decide))
    clear hB2 hdep
    simp only [Yq, Act.put, List.getElem?_toArray, List.getElem?_cons_succ, List.getElem?_cons_zero, Option.bind_some, List.setIfInBounds_toArray, List.set_cons_succ, List.set_cons_zero]
    go_wp2_with fail
    first | exact hK _ HB.out | exact HB.out
   ·exact ⟨_, fun _ => rfl, Eq.symm (by go_simp; exact rfl)⟩
   apply Yaq rfl (fun _ => rfl)
   ·intro dn r0 K hd hdep hK w5 hB2
    have HB := Yh_ (hB2.same 13 (by decide))
    clear hB2 hdep
    simp only [Yq, Act.put, List.getElem?_toArray, List.getElem?_cons_succ, List.getElem?_cons_zero, Option.bind_some, List.setIfInBounds_toArray, List.set_cons_succ, List.set_cons_zero]
    go_wp2_with fail
    first | exact hK _ HB.out | exact HB.out
   ·exact ⟨_, fun _ => rfl, Eq.symm (by go_simp; exact rfl)⟩
   refine Yc4 rfl (fun _ => rfl) 10 rfl (by simp [Act.put]) ?_ ?_
   ·intro dn r0 K hd w5 hB2 hK
    have HB := Yh_ hB2
    clear hB2
    simp only [Yq]
    go_wp2_with fail
    first
    |exact hK (.pointer (some ⟨w5.heap.size, 0, none⟩)) _ (HB.out.layS hd)
    |exact HB.out.layS hd
   refine Yc4 rfl (fun _ => rfl) 11 rfl (by simp [Act.put]) ?_ ?_
   ·intro dn r0 K hd w5 hB2 hK
    have HB := Yh_ hB2
    clear hB2
    simp only [Yq]
    go_wp2_with fail
    first
    |exact hK (.pointer (some ⟨w5.heap.size, 0, none⟩)) _ (HB.out.layF hd)
    |exact HB.out.layF hd
   apply Yaq rfl (fun _ => rfl)
   ·intro dn r0 K hd hdep hK w5 hB2
    have h14 : dn 14 = true := hdep ⟨14, .data⟩ (by simp) rfl
    have hx := (hB2.x h14).choose_spec
    generalize (hB2.x h14).choose = g0 at hx
    rw [hd, if_neg (by decide)] at hx
    simp only [Yq, Act.put, List.getElem?_toArray, List.getElem?_cons_succ, List.getElem?_cons_zero, Option.bind_some, List.setIfInBounds_toArray, List.set_cons_succ, List.set_cons_zero]
    refine Yhq S1 g0 _ _ rfl (by show r0 14 = _; exact hx.1) rfl hx.2.2 rfl ?_
    intro w6 hw; rw [← hw]
    exact hK _ (hB2.putS hd h14 hx.1)
   ·exact ⟨undef, fun _ => rfl, Eq.symm (by go_simp; exact rfl)⟩
   apply Yaq rfl (fun _ => rfl)
   ·intro dn r0 K hd hdep hK w5 hB2
    have h15 : dn 15 = true := hdep ⟨15, .data⟩ (by simp) rfl
    have hy := (hB2.y h15).choose_spec
    generalize (hB2.y h15).choose = g0 at hy
    rw [hd, if_neg (by decide)] at hy
    simp only [Yq, Act.put, List.getElem?_toArray, List.getElem?_cons_succ, List.getElem?_cons_zero, Option.bind_some, List.setIfInBounds_toArray, List.set_cons_succ, List.set_cons_zero]
    refine Ybu ⟨f1k, f1p, f1a, f1w⟩ Flt.zero g0 _ _ rfl (by show r0 15 = _; exact hy.1) rfl hy.2.2 ?_
    exact hK _ (hB2.putF hd h15 hy.1)
   ·exact ⟨undef, fun _ => rfl, Eq.symm (by go_simp; exact rfl)⟩
   apply Yaq rfl (fun _ => rfl)
   ·intro dn r0 K hd hdep hK w5 hB2
    have HB := Yh_ (hB2.same 18 (by decide))
    clear hB2 hdep
    simp only [Yq, Act.put, List.getElem?_toArray, List.getElem?_cons_succ, List.getElem?_cons_zero, Option.bind_some, List.setIfInBounds_toArray, List.set_cons_succ, List.set_cons_zero]
    go_wp2_with fail
    first | exact hK _ HB.out | exact HB.out
   ·exact ⟨_, fun _ => rfl, Eq.symm (by go_simp; exact rfl)⟩
   apply Yaq rfl (fun _ => rfl)
   ·intro dn r0 K hd hdep hK w5 hB2
    have HB := Yh_ (hB2.same 19 (by decide))
    clear hB2 hdep
    simp only [Yq, Act.put, List.getElem?_toArray, List.getElem?_cons_succ, List.getElem?_cons_zero, Option.bind_some, List.setIfInBounds_toArray, List.set_cons_succ, List.set_cons_zero]
    go_wp2_with fail
    first | exact hK _ HB.out | exact HB.out
   ·exact ⟨_, fun _ => rfl, Eq.symm (by go_simp; exact rfl)⟩
   refine Yds (fun _ r0 wB dn hall hB2 => ?_)
   obtain ⟨ga, e1, ha1, ha2⟩ := hB2.x (hall 14 (by decide))
   obtain ⟨gb, e2, hb1, hb2⟩ := hB2.y (hall 15 (by decide))
   rw [if_pos (hall 16 (by decide))] at ha2
   rw [if_pos (hall 17 (by decide))] at hb2
   have hne : gb ≠ ga := by
    rintro rfl
    rw [ha2] at hb2
    injection hb2 with hb2
    injection hb2 with _ hb2
    exact absurd hb2 (by decide)
   have hlt := hB2.lt
   have hwz := Yr (K1.out.get 0 rfl)
   have hsz := K1.out.h.u.size
   have hK2 := ((K1.out.run hB2.m hB2.u).more ha2 (by omega) (by omega) (fun p hp => by rw [List.mem_singleton.1 hp]; dsimp only; omega)).more hb2 (by omega) (by omega) (fun p hp => by
    rcases List.mem_cons.1 hp with rfl | hp
    ·exact hne
    ·rw [List.mem_singleton.1 hp]; dsimp only; omega)
   have K2 := Yh_ (show Kr w ma pb [(gb, .cells (Yj ⟨f1k, f1p, f1a, f1w⟩) 37 (0, 0)), (ga, .cells (St.cells S1) 28 (0, 0)), (w.heap.size, .cells s.cells 28 (0, 0))] wB from hK2)
   clear ha1 ha2 hb1 hb2 hall hB2 hne hlt hwz hsz hK2 K1 O4 U4 HMC HU4
   simp only [Yq]
   rw [e1, e2]
   clear e1 e2
   generalize r0 3 = z3 at *
   generalize r0 5 = z5 at *
   generalize r0 7 = z7 at *
   have taa : True := trivial
   go_upto_region 13 with (first
    |(have _t := taa; clear _t; refine Yaa 28 rfl ?_; refine Yb1 s w.heap.size rfl _ rfl rfl (K2.out.get 2 rfl) ?_; clear taa)
    |(have _t := K2; clear _t; go_at_call 10; refine (Yfi ma pb g1' s _ l _ K2.out.m HSS.out.1 (HM1.out.1.keep K2.out.h.u (by simp)) HIS.out.1 (by have := HLN.out.1; omega) HM1.out.2).mono ?_; rintro e wx2 ⟨rfl, hm, hu⟩; rw [HR2.out.1, HR2.out.2.1, HR2.out.2.2.1, HR2.out.2.2.2]; unfold Flt.val; have KX2 := Yh_ (K2.out.run hm hu); clear hm hu K2)
    |(have _t := KX2; clear _t; refine Yag 28 rfl ?_; refine Yax S2 wx2.heap.size rfl _ _ rfl rfl rfl (heap_alloc2_old wx2 _ _) rfl ?_; intro wy2 hw; have KY2 := Yh_ (KX2.out.two hw); clear hw KX2)
    |(have _t := KY2; clear _t; refine Yag 37 rfl ?_; refine wpList_plain rfl (fun _ hK => Ybu ⟨f2k, f2p, f2a, f2w⟩ Flt.zero (wx2.heap.size + 1) _ _ rfl rfl rfl (KY2.out.get 0 rfl) (hK _ _ ?_)); have KZ2 := Yh_ (KY2.out.flt ⟨f2k, f2p, f2a, f2w⟩); clear KY2))
   generalize wx2.heap.size = gs2 at KZ2 ⊢
   refine Yy (B := fun w9 => Kr w ma pb [((gs2 + 1), .cells (Yj ⟨f2k, f2p, f2a, f2w⟩) 37 (0, 0)), (gs2, .cells (St.cells S2) 28 (0, 0)), (gb, .cells (Yj ⟨f1k, f1p, f1a, f1w⟩) 37 (0, 0)), (ga, .cells (St.cells S1) 28 (0, 0)), (w.heap.size, .cells s.cells 28 (0, 0))] w9) KZ2.out ?_
   intro wz2 hk9
   have KW2 := Yh_ hk9
   clear hk9 KZ2
   cases k2
   ·obtain ⟨cS, cF, ck, cq⟩ := HC.out.1 (by simp)
    injection cF with c1' c2' c3' c4'
    subst c1' c2' c3' c4' cS ck cq
    have hES := Yh5 S1
    have hEF := fun w => Ykd ⟨f1k, f1p, f1a, f1w⟩ w
    unfold Flt.val at hEF
    have cf1 := Ya (KW2.out.get 2 rfl)
    have cf2 := Ya (KW2.out.get 0 rfl)
    unfold Yj at cf1 cf2
    have tk1 : True := trivial
    have tk2 : True := trivial
    go_wp2_with (first
     |(have _t := tk1; clear _t; refine Yaa 28 rfl ?_; refine Ya4 S1 ga rfl _ rfl rfl (KW2.out.get 3 rfl) ?_; clear tk1)
     |(have _t := tk2; clear _t; refine Yaa 28 rfl ?_; refine Ya4 S1 gs2 rfl _ rfl rfl (KW2.out.get 1 rfl) ?_; clear tk2))
    go_ret
    exact ⟨rfl, KW2.out.h.u⟩
   ·cases q2
    ·have tkq : True := trivial
     have tba : True := trivial
     go_upto_region 16 with (first
      |(have _t := tba; clear _t; refine Yaa 28 rfl ?_; refine Yb1 S2 gs2 rfl _ rfl rfl (KW2.out.get 1 rfl) ?_; clear tba)
      |(have _t := KW2; clear _t; go_at_call 10; refine (Yfi ma pb g2' S2 _ k _ KW2.out.m HSS.out.2 (HM2.out.1.keep KW2.out.h.u (by simp)) HIS.out.2.1 (by have := HLN.out.2.1; omega) HM2.out.2).mono ?_; rintro e wx3 ⟨rfl, hm, hu⟩; rw [HR3.out.1, HR3.out.2.1, HR3.out.2.2.1, HR3.out.2.2.2]; unfold Flt.val; have KX3 := Yh_ (KW2.out.run hm hu); clear hm hu KW2)
      |(have _t := KX3; clear _t; refine Yag 28 rfl ?_; refine Yax S3 wx3.heap.size rfl _ _ rfl rfl rfl (heap_alloc2_old wx3 _ _) rfl ?_; intro wy3 hw; have KY3 := Yh_ (KX3.out.two hw); clear hw KX3)
      |(have _t := KY3; clear _t; refine Yag 37 rfl ?_; refine wpList_plain rfl (fun _ hK => Ybu ⟨f3k, f3p, f3a, f3w⟩ Flt.zero (wx3.heap.size + 1) _ _ rfl rfl rfl (KY3.out.get 0 rfl) (hK _ _ ?_)); have KZ3 := Yh_ (KY3.out.flt ⟨f3k, f3p, f3a, f3w⟩); clear KY3))
     generalize wx3.heap.size = gs3 at KZ3 ⊢
     refine Yy (B := fun w9 => Kr w ma pb [((gs3 + 1), .cells (Yj ⟨f3k, f3p, f3a, f3w⟩) 37 (0, 0)), (gs3, .cells (St.cells S3) 28 (0, 0)), ((gs2 + 1), .cells (Yj ⟨f2k, f2p, f2a, f2w⟩) 37 (0, 0)), (gs2, .cells (St.cells S2) 28 (0, 0)), (gb, .cells (Yj ⟨f1k, f1p, f1a, f1w⟩) 37 (0, 0)), (ga, .cells (St.cells S1) 28 (0, 0)), (w.heap.size, .cells s.cells 28 (0, 0))] w9) KZ3.out ?_
     intro wz3 hk9
     have KW3 := Yh_ hk9
     clear hk9 KZ3
     cases k3
     ·obtain ⟨ck, cf, ca⟩ := HC.out.2.1 (by simp) (by simp) (by simp)
      try dsimp only at cf ca
      subst ck cf ca
      have cf1 := Ya (KW3.out.get 4 rfl)
      have cf2 := Ya (KW3.out.get 0 rfl)
      unfold Yj at cf1 cf2
      dsimp only at cf1 cf2
      go_wp2_with fail
      go_ret
      exact ⟨rfl, KW3.out.h.u⟩
     ·obtain ⟨ck, cS, cq⟩ := HC.out.2.2 (by simp) (by simp) (by simp)
      subst ck cS cq
      have hES := Yh5 S1
      have tk1 : True := trivial
      have tk2 : True := trivial
      go_wp2_with (first
       |(have _t := tk1; clear _t; refine Yaa 28 rfl ?_; refine Ya4 S1 ga rfl _ rfl rfl (KW3.out.get 5 rfl) ?_; clear tk1)
       |(have _t := tk2; clear _t; refine Yaa 28 rfl ?_; refine Ya4 S1 gs3 rfl _ rfl rfl (KW3.out.get 1 rfl) ?_; clear tk2))
      go_ret
      exact ⟨by simp, KW3.out.h.u⟩
    ·obtain ⟨cS, cF, ck, cq⟩ := HC.out.1 (by simp)
     injection cF with c1' c2' c3' c4'
     subst c1' c2' c3' c4' cS ck cq
     have hES := Yh5 S1
     have hEF := fun w => Ykd ⟨f1k, f1p, f1a, f1w⟩ w
     unfold Flt.val at hEF
     have cf1 := Ya (KW2.out.get 2 rfl)
     have cf2 := Ya (KW2.out.get 0 rfl)
     unfold Yj at cf1 cf2
     have tk1 : True := trivial
     have tk2 : True := trivial
     go_wp2_with (first
      |(have _t := tk1; clear _t; refine Yaa 28 rfl ?_; refine Ya4 S1 ga rfl _ rfl rfl (KW2.out.get 3 rfl) ?_; clear tk1)
      |(have _t := tk2; clear _t; refine Yaa 28 rfl ?_; refine Ya4 S1 gs2 rfl _ rfl rfl (KW2.out.get 1 rfl) ?_; clear tk2))
     go_ret
     exact ⟨rfl, KW2.out.h.u⟩
theorem runD_3 {f : Mi → Rn → MO} (hf : ∀ x r, (f x r).k = 0 ∨ (f x r).k = 1 ∨ (f x r).k = 2) : ∀ (l : List Mi) (r : Rn), (Yu f l r).k = 0 ∨ (Yu f l r).k = 1 ∨ (Yu f l r).k = 2
 |[], r => .inl rfl
 |x :: l, r => by
  unfold Yu
  split
  ·exact runD_3 hf l _
  ·exact hf x r
theorem k_of {l : List Mi} {r : Rn} (h1 : Yb3 (Yu (Yh D1) l r) = true) (h2 : Ycd (Yu (Yh D1) l r) = false) : (Yu (Yh D1) l r).k = 0 := by
 rcases runD_3 (Yga D1_3) l r with e | e | e
 ·exact e
 ·unfold Yb3 at h1; rw [e] at h1; cases h1
 ·unfold Ycd at h2; rw [e] at h2; cases h2
theorem Yhm (s : St) (v1 v2 : Value) (l k : List Mi) (g1 g2 : Nat) (w : World) (hs : s.Ok) (h1 : MSl w v1 l g1) (h2 : MSl w v2 k g2) (ok1 : ∀ x ∈ l, x.Ok) (ok2 : ∀ x ∈ k, x.Ok) (n1 : l.length ≤ maxLen) (n2 : k.length ≤ maxLen) : Calls Tryd.prog 3 #[.agg s.cells, v1, v2] w fun e w' => e = .returned (.bool true) ∧ Upd [] w w' := by
 by_cases q3 : 60 < (l.length : Int)
 ·exact Yix s v1 v2 l k g1 g2 w hs h1 h2 ok1 ok2 n1 n2 q3
 by_cases q4 : 60 < (k.length : Int)
 ·exact Yjt s v1 v2 l k g1 g2 w hs h1 h2 ok1 ok2 n1 n2 q3 q4
 cases hi : isL l
 ·exact Yjp s v1 v2 l k g1 g2 w hs h1 h2 ok1 ok2 n1 n2 q3 q4 hi
 cases hj : isL k
 ·exact Yiy s v1 v2 l k g1 g2 w hs h1 h2 ok1 ok2 n1 n2 q3 q4 hi hj
 have is2 : ∀ x ∈ k, x.is = true ∧ x.Ok := fun x hx => by
  have hj' := hj
  unfold isL at hj'; rw [Bool.and_eq_true, List.all_eq_true] at hj'; exact ⟨hj'.1 x hx, ok2 x hx⟩
 have hs2 : (Ybi (Yu (Yh D1) l (rn0 s))).Ok := by
  have h := Yja l ok1 (rn0 s) (rn0_ok hs)
  unfold Ybi; split
  ·exact h.p
  ·exact h.s
 refine Yhf s v1 v2 l k g1 g2 w hs h1 h2 ok1 ok2 n1 n2 q3 q4 hi hj _ _ _ _ _ _ _ _ _ _ _ _ ⟨rfl, rfl, rfl, rfl⟩ ⟨rfl, rfl, rfl, rfl⟩ ⟨rfl, rfl, rfl, rfl⟩ hs2 ?_ ?_ ?_
 ·intro h
  have h0 : (Yu (Yh D1) l (rn0 s)).k ≠ 0 := by
   intro e
   unfold Yb3 Ycd at h
   rw [e] at h
   rcases h with h | h <;> cases h
  rw [Ykv l k s h0]
  exact ⟨rfl, rfl, rfl, rfl⟩
 ·intro ha hb hc
  have h0 : (Yu (Yh D1) l (rn0 s)).k = 0 := k_of ha hb
  have hE := Yi0 l k s is2 h0
  have e2 : (Yu (Yh D1) l (rn0 s)).r.s = Ybi (Yu (Yh D1) l (rn0 s)) := by unfold Ybi; rw [h0]; rfl
  rw [e2] at hE
  exact ⟨by rw [(Yhx hE).1]; exact hc, outF_eq hE⟩
 ·intro ha hb hc
  have h0 : (Yu (Yh D1) l (rn0 s)).k = 0 := k_of ha hb
  have hE := Yi0 l k s is2 h0
  have e2 : (Yu (Yh D1) l (rn0 s)).r.s = Ybi (Yu (Yh D1) l (rn0 s)) := by unfold Ybi; rw [h0]; rfl
  rw [e2] at hE
  exact ⟨by rw [(Yhx hE).1]; exact hc, outS_eq hE hc, (Yhx hE).2⟩
section
open Go.WideShapes Go.ChangeShapes
def Rp (w : World) (v : Value) (l : List Int) (g : Nat) : Prop :=
 (v = .slice none 0 0 ∧ l = []) ∨ ∃ o c C T f, v = .slice (some ⟨g, o, none⟩) l.length c ∧ l.length ≤ c ∧ w.heap[g]? = some (.cells C T f) ∧ ∀ i, i < l.length → C[o + i]? = some (.int .u32 (l.getD i 0))
theorem Rp.form {w : World} {v : Value} {l : List Int} {g : Nat} (h : Rp w v l g) : ∃ b c, v = .slice b l.length c := by
 rcases h with ⟨h1, h2⟩ | ⟨o, c, _, _, _, h1, _⟩
 ·exact ⟨none, 0, by rw [h1, h2]; rfl⟩
 ·exact ⟨_, _, h1⟩
theorem Rp.keep {w w' : World} {v : Value} {l : List Int} {g : Nat} {S : List Nat} (h : Rp w v l g) (u : Upd S w w') (hg : g ∉ S) : Rp w' v l g := by
 rcases h with h | ⟨o, c, C, T, f, h1, h2, h3, h4⟩
 ·exact .inl h
 ·exact .inr ⟨o, c, C, T, f, h1, h2, u.get h3 hg, h4⟩
theorem Rp.old {w w' : World} {v : Value} {l : List Int} {g : Nat} (h : Rp w v l g) (u : Upd [] w w') : Rp w' v l g := h.keep u (by simp)
theorem Rp.cell {w : World} {b : Option Addr} {n c : Nat} {l : List Int} {g : Nat} (h : Rp w (.slice b n c) l g) (hl : 0 < l.length) : ∃ o, b = some ⟨g, o, none⟩ ∧ n = l.length ∧ ∀ i, i < l.length → w.cell? ⟨g, o + i, none⟩ = some (.int .u32 (l.getD i 0)) := by
 rcases h with ⟨h1, h2⟩ | ⟨o, c', C, T, f, h1, h2, h3, h4⟩
 ·rw [h2] at hl; cases hl
 ·injection h1 with e1 e2 e3
  exact ⟨o, e1, e2, fun i hi => by rw [Ya h3]; exact h4 i hi⟩
theorem wf_word {z : Int} (h : (Lit.int .u32 z).wf = true) : 0 ≤ z ∧ z < 4294967296 := by
 simp [Lit.wf, IntKind.min, IntKind.max, IntKind.signed, IntKind.bits] at h
 omega
end
section
open Go.WideShapes Go.ChangeShapes
theorem Yj2 {H : Type} {enc : TypeId × Value → H} {w : World} {base : Nat} {spare : Nat → Bool} {held : Bool} {n : Nat} {g o : Nat} {y : DataW H × List MemPlace}
  (h : (w.cells? base ⟨g, o, none⟩ (Tryd.prog.cellsOf 35)).bind (DataW.trod enc Tryd.prog w base spare held n 35) = some y) :
  ∃ x : Mi, x.Ok ∧ ∀ j, j < 7 → w.cell? ⟨g, o + j, none⟩ = x.cells.toList[j]? := by
 rw [show Tryd.prog.cellsOf 35 = 7 by kernel_rfl, Option.bind_eq_some_iff] at h
 obtain ⟨cs, hcs, hy⟩ := h
 obtain ⟨_, hl, hc⟩ := World.cells?_some hcs
 have c : ∀ j, j < 7 → ∀ lf, Yex Tryd.prog 8 35 j = some lf → ∃ x, w.cell? ⟨g, o + j, none⟩ = some x ∧ Yiu lf x := by
  intro j hj lf hlf
  obtain ⟨x, hx, hok⟩ := Yei 8 _ _ _ _ j lf hy hlf
  refine ⟨x, ?_, hok⟩
  have := hc j hj
  rw [Addr.add_lit] at this
  rw [this, hx]
 obtain ⟨x0, h0, z0, rfl, w0⟩ := c 0 (by decide) (.int .i64) (by kernel_rfl)
 obtain ⟨x1, h1, z1, rfl, w1⟩ := c 1 (by decide) (.int .i64) (by kernel_rfl)
 obtain ⟨x2, h2, z2, rfl, w2⟩ := c 2 (by decide) (.int .i64) (by kernel_rfl)
 obtain ⟨x3, h3, z3, rfl, w3⟩ := c 3 (by decide) (.int .i64) (by kernel_rfl)
 obtain ⟨x4, h4, z4, rfl, w4⟩ := c 4 (by decide) (.int .i64) (by kernel_rfl)
 obtain ⟨x5, h5, z5, rfl, w5⟩ := c 5 (by decide) (.int .u32) (by kernel_rfl)
 obtain ⟨x6, h6, b6, rfl⟩ := c 6 (by decide) .bool (by kernel_rfl)
 refine ⟨⟨z0, z1, z2, z3, z4, z5, b6⟩, ⟨wf_word w5⟩, fun j hj => ?_⟩
 have hj' : j = 0 ∨ j = 1 ∨ j = 2 ∨ j = 3 ∨ j = 4 ∨ j = 5 ∨ j = 6 := by omega
 rcases hj' with rfl | rfl | rfl | rfl | rfl | rfl | rfl
 ·exact h0
 ·exact h1
 ·exact h2
 ·exact h3
 ·exact h4
 ·exact h5
 ·exact h6
theorem Ykr {l : List Mi} {k : Nat} {u : Value} (h : (Yas l)[k]? = some u) : ∃ i x, l[i]? = some x ∧ k = i * 7 + k % 7 ∧ x.cells.toList[k % 7]? = some u := by
 have hk : k < l.length * 7 := by rw [← Yih]; exact (List.getElem?_eq_some_iff.1 h).1
 have hi : k / 7 < l.length := by omega
 refine ⟨k / 7, l[k / 7], List.getElem?_eq_getElem hi, by omega, ?_⟩
 rw [← Yh8 (List.getElem?_eq_getElem hi) (k % 7) (by omega), show k / 7 * 7 + k % 7 = k by omega]
 exact h
theorem Yil {H : Type} {enc : TypeId × Value → H} {w : World} {t : TypeId} (ht : Tryd.prog.underlying t = some (.slice 35)) {base b0 fuel : Nat} {spare : Nat → Bool} {held : Bool} {r : Reach} {v : Value} {x : DataW H × List MemPlace}
  (hval : Value.okWide Tryd.prog w r b0 t v) (hf : DataW.trod enc Tryd.prog w base spare held fuel t v.cells.toList = some x) : ∃ l g, MSl w v l g ∧ (∀ x ∈ l, x.Ok) ∧ l.length ≤ maxLen := by
 obtain ⟨a1, len, cap, rfl⟩ := okWide_slice ht hval
 rcases DataW.trod_slice ht hf with ⟨hcs, hx⟩ | ⟨a, len', cap', elems, rest, n, _, hcs, _, _, hl, hm, hel, he, _, _⟩
 ·simp [Value.cells] at hcs
  obtain ⟨rfl, rfl, rfl⟩ := hcs
  exact ⟨[], 0, .inl ⟨_, _, rfl, rfl⟩, by simp, by simp⟩
 ·simp [Value.cells] at hcs
  obtain ⟨rfl, rfl, rfl⟩ := hcs
  simp only [Value.okWide, ht, Cell.okWide, Cell.ok, World.has] at hval
  obtain ⟨_, _, _, hsp, row, cells, hsh, _⟩ := hval
  obtain ⟨ab, ao, spot⟩ := a
  simp only at hsp
  subst hsp
  have hlt : ab < w.heap.size := by
   unfold World.shape? at hsh
   split at hsh
   ·rename_i c e f hh
    exact Yr hh
   ·cases hsh
  have hc7 : Tryd.prog.cellsOf 35 = 7 := by kernel_rfl
  have each : ∀ i, ∃ x : Mi, i < len → x.Ok ∧ ∀ j, j < 7 → w.cell? ⟨ab, ao + i * 7 + j, none⟩ = x.cells.toList[j]? := fun i => by
   by_cases hi : i < len
   ·have h := he i hi
    obtain ⟨y, hy⟩ : ∃ y, elems[i]? = some y := ⟨_, List.getElem?_eq_getElem (by omega)⟩
    rw [hy, Addr.add_lit] at h
    have h2 := Yj2 h
    rw [hc7] at h2
    obtain ⟨x, hx⟩ := h2
    exact ⟨x, fun _ => hx⟩
   ·exact ⟨Mi.zero, fun h => absurd h hi⟩
  obtain ⟨F, hF⟩ := Classical.axiomOfChoice each
  have hl2 : ((List.range len).map F).length = len := by simp
  refine ⟨(List.range len).map F, ab, .inr ⟨ao, cap, by rw [hl2], hlt, fun k u hk => ?_⟩, fun s hs => ?_, by rw [hl2]; omega⟩
  ·obtain ⟨i, x, h1, h2, h3⟩ := Ykr hk
   have hi : i < len := by
    have := (List.getElem?_eq_some_iff.1 h1).1
    rwa [hl2] at this
   rw [List.getElem?_map, List.getElem?_range hi] at h1
   simp only [Option.map_some, Option.some.injEq] at h1
   subst h1
   rw [h2, ← Nat.add_assoc, (hF i hi).2 (k % 7) (Nat.mod_lt _ (by decide))]
   exact h3
  ·obtain ⟨i, hi, rfl⟩ := List.mem_map.1 hs
   exact (hF i (List.mem_range.1 hi)).1
theorem Ygl {H : Type} {enc : TypeId × Value → H} {w : World} {t : TypeId} (ht : Tryd.prog.underlying t = some (.slice 35)) {b0 : Nat} {v : Value} {d : DataW H} {p : List MemPlace}
  (hval : Value.okWide Tryd.prog w .any b0 t v) (h : DataW.Trod enc Tryd.prog w 0 (fun _ => true) true t v d p) : ∃ l g, MSl w v l g ∧ (∀ x ∈ l, x.Ok) ∧ l.length ≤ maxLen := by
 obtain ⟨fuel, hf⟩ := h
 exact Yil ht hval hf
end
end Go.Proofs.YtjkolegknpflfaaDoor
