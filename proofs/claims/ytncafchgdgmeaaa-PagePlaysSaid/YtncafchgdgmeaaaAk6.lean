/-
  The laws of layer 6: both memories alike, both loaded, few spans: each by its contract. No condition.
-/
import Derived.Test.YtncafchgdgmeaaaRfH
import Derived.Test.YtncafchgdgmeaaaStr
import Derived.Test.YtncafchgdgmeaaaSpn
import Derived.Test.YtncafchgdgmeaaaPgV
import Derived.Test.YtncafchgdgmeaaaDraw3
namespace Go.Proofs.Ytncafchgdgmeaaa
open Go Go.RowKit
set_option linter.unusedVariables false
set_option linter.unusedSimpArgs false

structure AkB (w0 : World) (a pb rr : Nat) (M : Mem) (L : List Int) (d : Nat → Bool) (r : Nat → Value) (w : World) : Prop where
  m : IsMem w a pb M
  f : IsRef w rr M
  u : Upd [] w0 w
  p : d 15 = true → ∃ g, BySl w (r 15) L g
  q : d 21 = true → ∃ g, BySl w (r 21) L g

theorem AkB.same {w0 : World} {a pb rr : Nat} {M : Mem} {L : List Int} {d : Nat → Bool} {r : Nat → Value} {w : World} (h : AkB w0 a pb rr M L d r w) (i : Nat) (h1 : i ≠ 15) (h2 : i ≠ 21) : AkB w0 a pb rr M L (updD d i) r w :=
  ⟨h.m, h.f, h.u, fun e => h.p (by simpa [updD, h1.symm] using e), fun e => h.q (by simpa [updD, h2.symm] using e)⟩

theorem AkB.putP {w0 : World} {a pb rr : Nat} {M : Mem} {L : List Int} {d : Nat → Bool} {r : Nat → Value} {w w1 : World} (h : AkB w0 a pb rr M L d r w) (u : Upd [] w w1) {v : Value} (hv : ∃ g, BySl w1 v L g) : AkB w0 a pb rr M L (updD d 15) (updV r 15 v) w1 :=
  ⟨h.m.keep u (by simp) (by simp), h.f.keep u (by simp), h.u.also u (by simp), fun _ => by simpa [updV] using hv, fun e => by
    obtain ⟨g, hg⟩ := h.q (by simpa [updD] using e)
    exact ⟨g, by simpa [updV] using hg.keep u (by simp)⟩⟩

theorem AkB.putQ {w0 : World} {a pb rr : Nat} {M : Mem} {L : List Int} {d : Nat → Bool} {r : Nat → Value} {w w1 : World} (h : AkB w0 a pb rr M L d r w) (u : Upd [] w w1) {v : Value} (hv : ∃ g, BySl w1 v L g) : AkB w0 a pb rr M L (updD d 21) (updV r 21 v) w1 :=
  ⟨h.m.keep u (by simp) (by simp), h.f.keep u (by simp), h.u.also u (by simp), fun e => by
    obtain ⟨g, hg⟩ := h.p (by simpa [updD] using e)
    exact ⟨g, by simpa [updV] using hg.keep u (by simp)⟩, fun _ => by simpa [updV] using hv⟩

theorem rights_at (M : Mem) (x : Int) (h0 : 0 ≤ x) (h : x < 64) : M.rights x = M.R x.toNat := by rw [Mem.rights, if_neg (by omega)]

set_option maxRecDepth 100000 in
set_option maxHeartbeats 4000000 in
theorem alike6_any (M : Mem) (a pb rr : Nat) (w : World) (hM : IsMem w a pb M) (hR : IsRef w rr M) :
    Calls Try.prog 25 #[.pointer (some ⟨a, 0, none⟩), .pointer (some ⟨rr, 0, none⟩)] w fun e w' => e = .returned (.bool true) ∧ Upd [] w w' := by
  have hmo : Try.prog.follows .mixedOrders = true := by kernel_rfl
  have HM := Lib.hid hM
  have HR := Lib.hid hR
  clear hM hR
  go_enter Try.func25, Try.ntmps25
  go_wp2_with fail
  go_loopw [5] (fun i wr => ∃ x : Int, 0 ≤ x ∧ x ≤ 64 ∧ i = .int .i64 x ∧ Upd [] w wr) (fun i _ => 64 - (intOf i).toNat)
  case atStart => exact ⟨0, by decide, by decide, rfl, Upd.refl _ _⟩
  case round =>
    obtain ⟨x, hx0, hx1, rfl, hU⟩ := hrel
    have HU := Lib.hid hU
    clear hU
    by_cases hlt : x < 64
    · have HRi := Lib.hid (rights_at M x hx0 hlt)
      have q1 : x * 256 % 4294967296 = x * 256 := by omega
      have q2 : 0 ≤ x * 256 := by omega
      have q3 : x * 256 < 4294967296 := by omega
      obtain ⟨S, hS⟩ : ∃ S, strOfNums (M.peek (x * 256) 256) = S := ⟨_, rfl⟩
      have HS := Lib.hid hS
      clear hS
      go_wp2_with fail
      refine wp_drawE 25 (AkB w a pb rr M (M.peek (x * 256) 256)) (fun _ _ => False) (by kernel_rfl) (by kernel_rfl) (fun r0 => ⟨(HM.out.keep HU.out (by simp) (by simp)).drew, (HR.out.keep HU.out (by simp)).drew, HU.out.drew, by simp, by simp⟩) (fun _ _ _ h => h.elim) ?_
      simp only [List.take_succ_cons, List.take_zero, List.drop_succ_cons, List.drop_zero]
      iterate 15
        apply headE_val0 rfl rfl
        · intro d r0 K hd hdep hK w1 hB1
          have cR := hB1.f.cR x.toNat (by omega)
          have HB := Lib.hid hB1
          clear hB1 hdep
          go_wp2_with (go_at_call 23; refine (Rights_any a pb x _ M HB.out.m).mono ?_; rintro e w2 ⟨rfl, rfl⟩; rw [HRi.out])
          first
          | exact hK _ (HB.out.same _ (by decide) (by decide))
          | exact HB.out.same _ (by decide) (by decide)
        · exact ⟨_, rfl⟩
      refine headE_free rfl (fun _ => rfl) 25 rfl (by simp [Act.put]) ?_ ?_
      · intro d r0 K hd w1 hB1 hK
        have HB := Lib.hid hB1
        clear hB1
        simp only [fillE]
        go_wp2_with fail
        refine (Peek_any M a pb (x * 256) 256 _ HB.out.m q2 q3 (by decide) (by decide)).mono ?_
        rintro e w2 ⟨v, rfl, ho, hu⟩
        exact hK v w2 (HB.out.putP hu (own_bysl ho))
      apply headE_val rfl (fun _ => rfl)
      · intro d r0 K hd hdep hK w1 hB1
        have h15 : d 15 = true := hdep ⟨15, .data⟩ (by simp) rfl
        obtain ⟨g, hg⟩ := hB1.p h15
        have hcv := bysl_string hg
        rw [HS.out] at hcv
        have HB := Lib.hid hB1
        clear hB1 hdep hg
        show Oper.wp _ _ (Act.put (fillE _ _ [] _) (some 25) (r0 15)) _ _ _
        simp only [fillE]
        go_wp2_with fail
        first
        | exact hK _ (HB.out.same _ (by decide) (by decide))
        | exact HB.out.same _ (by decide) (by decide)
      · exact ⟨_, fun _ => rfl, Eq.symm (by go_simp; exact rfl)⟩
      iterate 4
        apply headE_val rfl (fun _ => rfl)
        · intro d r0 K hd hdep hK w1 hB1
          have HB := Lib.hid hB1
          clear hB1 hdep
          show Oper.wp _ _ (Act.put (fillE _ _ [] _) (some 25) (r0 15)) _ _ _
          simp only [fillE]
          go_wp2_with fail
          first
          | exact hK _ (HB.out.same _ (by decide) (by decide))
          | exact HB.out.same _ (by decide) (by decide)
        · exact ⟨_, fun _ => rfl, Eq.symm (by go_simp; exact rfl)⟩
      refine headE_free rfl (fun _ => rfl) 31 rfl (by simp [Act.put]) ?_ ?_
      · intro d r0 K hd w1 hB1 hK
        have HB := Lib.hid hB1
        clear hB1
        show Oper.wp _ _ (Act.put (fillE _ _ [] _) (some 25) (r0 15)) _ _ _
        simp only [fillE]
        go_wp2_with fail
        refine (Peek_ref M rr (x * 256) 256 _ HB.out.f q2 q3).mono ?_
        rintro e w2 ⟨v, rfl, ho, hu⟩
        exact hK v w2 (HB.out.putQ hu (own_bysl ho))
      apply headE_val rfl (fun _ => rfl)
      · intro d r0 K hd hdep hK w1 hB1
        have h21 : d 21 = true := hdep ⟨21, .data⟩ (by simp) rfl
        obtain ⟨g, hg⟩ := hB1.q h21
        have hcv := bysl_string hg
        rw [HS.out] at hcv
        have HB := Lib.hid hB1
        clear hB1 hdep hg
        show Oper.wp _ _ (Act.put (Act.put (fillE _ _ [] _) (some 25) (r0 15)) (some 31) (r0 21)) _ _ _
        simp only [fillE]
        go_wp2_with fail
        first
        | exact hK _ (HB.out.same _ (by decide) (by decide))
        | exact HB.out.same _ (by decide) (by decide)
      · exact ⟨_, fun _ => rfl, Eq.symm (by go_simp; exact rfl)⟩
      iterate 2
        apply headE_val rfl (fun _ => rfl)
        · intro d r0 K hd hdep hK w1 hB1
          have HB := Lib.hid hB1
          clear hB1 hdep
          show Oper.wp _ _ (Act.put (Act.put (fillE _ _ [] _) (some 25) (r0 15)) (some 31) (r0 21)) _ _ _
          simp only [fillE]
          go_wp2_with fail
          first
          | exact hK _ (HB.out.same _ (by decide) (by decide))
          | exact HB.out.same _ (by decide) (by decide)
        · exact ⟨_, fun _ => rfl, Eq.symm (by go_simp; exact rfl)⟩
      refine headE_nil (fun _ r0 w1 d hall hB1 => ?_)
      show wpList _ _ _ _ (Act.put (Act.put (fillE _ _ [] _) (some 25) (r0 15)) (some 31) (r0 21)) _
      simp only [fillE]
      have HB := Lib.hid hB1
      clear hB1
      go_wp2_with fail
      go_roundw
      case rel => exact ⟨x + 1, by omega, by omega, rfl, HB.out.u⟩
      case measure => simp [intOf]; omega
    · have h1 := Lib.hid (show M.rights (-1) = 0 by rw [Mem.rights, if_pos (by omega)])
      have h2 := Lib.hid (show M.rights 64 = 0 by rw [Mem.rights, if_pos (by omega)])
      have tok1 : True := trivial
      go_wp2_with (first | (have _t := tok1; clear _t; go_at_call 23; refine (Rights_any a pb (-1) _ M (HM.out.keep HU.out (by simp) (by simp))).mono ?_; rintro e w2 ⟨rfl, rfl⟩; rw [h1.out]; clear tok1) | (go_at_call 23; refine (Rights_any a pb 64 _ M (HM.out.keep HU.out (by simp) (by simp))).mono ?_; rintro e w2 ⟨rfl, rfl⟩; rw [h2.out]))
      go_ret
      exact ⟨rfl, HU.out⟩

end Go.Proofs.Ytncafchgdgmeaaa
