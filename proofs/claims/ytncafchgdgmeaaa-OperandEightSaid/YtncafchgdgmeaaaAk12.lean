/-
  The laws of layer 12: both memories alike, both loaded, few spans: each by its contract. No condition.
-/
import Derived.Test.YtncafchgdgmeaaaRfH
import Derived.Test.YtncafchgdgmeaaaStr
import Derived.Test.YtncafchgdgmeaaaSpn
import Derived.Test.YtncafchgdgmeaaaPgV
import Derived.Test.YtncafchgdgmeaaaDraw3
namespace Go.Proofs.Ytncafchgdgmeaaa
open Go Go.RowKit
set_option linter.unusedVariables false
set_option linter.unusedSimpArgs false

structure AkB (w0 : World) (a pb rr : Nat) (M : Mem) (L : List Int) (d : Nat → Bool) (r : Nat → Value) (w : World) : Prop where
  m : IsMem w a pb M
  f : IsRef w rr M
  u : Upd [] w0 w
  p : d 15 = true → ∃ g, BySl w (r 15) L g
  q : d 21 = true → ∃ g, BySl w (r 21) L g

theorem AkB.same {w0 : World} {a pb rr : Nat} {M : Mem} {L : List Int} {d : Nat → Bool} {r : Nat → Value} {w : World} (h : AkB w0 a pb rr M L d r w) (i : Nat) (h1 : i ≠ 15) (h2 : i ≠ 21) : AkB w0 a pb rr M L (updD d i) r w :=
  ⟨h.m, h.f, h.u, fun e => h.p (by simpa [updD, h1.symm] using e), fun e => h.q (by simpa [updD, h2.symm] using e)⟩

theorem AkB.putP {w0 : World} {a pb rr : Nat} {M : Mem} {L : List Int} {d : Nat → Bool} {r : Nat → Value} {w w1 : World} (h : AkB w0 a pb rr M L d r w) (u : Upd [] w w1) {v : Value} (hv : ∃ g, BySl w1 v L g) : AkB w0 a pb rr M L (updD d 15) (updV r 15 v) w1 :=
  ⟨h.m.keep u (by simp) (by simp), h.f.keep u (by simp), h.u.also u (by simp), fun _ => by simpa [updV] using hv, fun e => by
    obtain ⟨g, hg⟩ := h.q (by simpa [updD] using e)
    exact ⟨g, by simpa [updV] using hg.keep u (by simp)⟩⟩

theorem AkB.putQ {w0 : World} {a pb rr : Nat} {M : Mem} {L : List Int} {d : Nat → Bool} {r : Nat → Value} {w w1 : World} (h : AkB w0 a pb rr M L d r w) (u : Upd [] w w1) {v : Value} (hv : ∃ g, BySl w1 v L g) : AkB w0 a pb rr M L (updD d 21) (updV r 21 v) w1 :=
  ⟨h.m.keep u (by simp) (by simp), h.f.keep u (by simp), h.u.also u (by simp), fun e => by
    obtain ⟨g, hg⟩ := h.p (by simpa [updD] using e)
    exact ⟨g, by simpa [updV] using hg.keep u (by simp)⟩, fun _ => by simpa [updV] using hv⟩

theorem rights_at (M : Mem) (x : Int) (h0 : 0 ≤ x) (h : x < 64) : M.rights x = M.R x.toNat := by rw [Mem.rights, if_neg (by omega)]

set_option maxRecDepth 100000 in
set_option maxHeartbeats 4000000 in
theorem alike12_any (M : Mem) (a pb rr : Nat) (w : World) (hM : IsMem w a pb M) (hR : IsRef w rr M) :
    Calls Try.prog 39 #[.pointer (some ⟨a, 0, none⟩), .pointer (some ⟨rr, 0, none⟩)] w fun e w' => e = .returned (.bool true) ∧ Upd [] w w' := by
  have hmo : Try.prog.follows .mixedOrders = true := by kernel_rfl
  have HM := Lib.hid hM
  have HR := Lib.hid hR
  clear hM hR
  go_enter Try.func39, Try.ntmps39
  go_wp2_with fail
  go_loopw [5] (fun i wr => ∃ x : Int, 0 ≤ x ∧ x ≤ 64 ∧ i = .int .i64 x ∧ Upd [] w wr) (fun i _ => 64 - (intOf i).toNat)
  case atStart => exact ⟨0, by decide, by decide, rfl, Upd.refl _ _⟩
  case round =>
    obtain ⟨x, hx0, hx1, rfl, hU⟩ := hrel
    have HU := Lib.hid hU
    clear hU
    by_cases hlt : x < 64
    · have HRi := Lib.hid (rights_at M x hx0 hlt)
      have q1 : x * 256 % 4294967296 = x * 256 := by omega
      have q2 : 0 ≤ x * 256 := by omega
      have q3 : x * 256 < 4294967296 := by omega
      obtain ⟨S, hS⟩ : ∃ S, strOfNums (M.peek (x * 256) 256) = S := ⟨_, rfl⟩
      have HS := Lib.hid hS
      clear hS
      go_wp2_with fail
      refine wp_drawE 25 (AkB w a pb rr M (M.peek (x * 256) 256)) (fun _ _ => False) (by kernel_rfl) (by kernel_rfl) (fun r0 => ⟨(HM.out.keep HU.out (by simp) (by simp)).drew, (HR.out.keep HU.out (by simp)).drew, HU.out.drew, by simp, by simp⟩) (fun _ _ _ h => h.elim) ?_
      simp only [List.take_succ_cons, List.take_zero, List.drop_succ_cons, List.drop_zero]
      iterate 15
        apply headE_val0 rfl rfl
        · intro d r0 K hd hdep hK w1 hB1
          have cR := hB1.f.cR x.toNat (by omega)
          have HB := Lib.hid hB1
          clear hB1 hdep
          go_wp2_with (go_at_call 23; refine (Rights_any a pb x _ M HB.out.m).mono ?_; rintro e w2 ⟨rfl, rfl⟩; rw [HRi.out])
          first
          | exact hK _ (HB.out.same _ (by decide) (by decide))
          | exact HB.out.same _ (by decide) (by decide)
        · exact ⟨_, rfl⟩
      refine headE_free rfl (fun _ => rfl) 25 rfl (by simp [Act.put]) ?_ ?_
      · intro d r0 K hd w1 hB1 hK
        have HB := Lib.hid hB1
        clear hB1
        simp only [fillE]
        go_wp2_with fail
        refine (Peek_any M a pb (x * 256) 256 _ HB.out.m q2 q3 (by decide) (by decide)).mono ?_
        rintro e w2 ⟨v, rfl, ho, hu⟩
        exact hK v w2 (HB.out.putP hu (own_bysl ho))
      apply headE_val rfl (fun _ => rfl)
      · intro d r0 K hd hdep hK w1 hB1
        have h15 : d 15 = true := hdep ⟨15, .data⟩ (by simp) rfl
        obtain ⟨g, hg⟩ := hB1.p h15
        have hcv := bysl_string hg
        rw [HS.out] at hcv
        have HB := Lib.hid hB1
        clear hB1 hdep hg
        show Oper.wp _ _ (Act.put (fillE _ _ [] _) (some 25) (r0 15)) _ _ _
        simp only [fillE]
        go_wp2_with fail
        first
        | exact hK _ (HB.out.same _ (by decide) (by decide))
        | exact HB.out.same _ (by decide) (by decide)
      · exact ⟨_, fun _ => rfl, Eq.symm (by go_simp; exact rfl)⟩
      iterate 4
        apply headE_val rfl (fun _ => rfl)
        · intro d r0 K hd hdep hK w1 hB1
          have HB := Lib.hid hB1
          clear hB1 hdep
          show Oper.wp _ _ (Act.put (fillE _ _ [] _) (some 25) (r0 15)) _ _ _
          simp only [fillE]
          go_wp2_with fail
          first
          | exact hK _ (HB.out.same _ (by decide) (by decide))
          | exact HB.out.same _ (by decide) (by decide)
        · exact ⟨_, fun _ => rfl, Eq.symm (by go_simp; exact rfl)⟩
      refine headE_free rfl (fun _ => rfl) 31 rfl (by simp [Act.put]) ?_ ?_
      · intro d r0 K hd w1 hB1 hK
        have HB := Lib.hid hB1
        clear hB1
        show Oper.wp _ _ (Act.put (fillE _ _ [] _) (some 25) (r0 15)) _ _ _
        simp only [fillE]
        go_wp2_with fail
        refine (Peek_ref M rr (x * 256) 256 _ HB.out.f q2 q3).mono ?_
        rintro e w2 ⟨v, rfl, ho, hu⟩
        exact hK v w2 (HB.out.putQ hu (own_bysl ho))
      apply headE_val rfl (fun _ => rfl)
      · intro d r0 K hd hdep hK w1 hB1
        have h21 : d 21 = true := hdep ⟨21, .data⟩ (by simp) rfl
        obtain ⟨g, hg⟩ := hB1.q h21
        have hcv := bysl_string hg
        rw [HS.out] at hcv
        have HB := Lib.hid hB1
        clear hB1 hdep hg
        show Oper.wp _ _ (Act.put (Act.put (fillE _ _ [] _) (some 25) (r0 15)) (some 31) (r0 21)) _ _ _
        simp only [fillE]
        go_wp2_with fail
        first
        | exact hK _ (HB.out.same _ (by decide) (by decide))
        | exact HB.out.same _ (by decide) (by decide)
      · exact ⟨_, fun _ => rfl, Eq.symm (by go_simp; exact rfl)⟩
      iterate 2
        apply headE_val rfl (fun _ => rfl)
        · intro d r0 K hd hdep hK w1 hB1
          have HB := Lib.hid hB1
          clear hB1 hdep
          show Oper.wp _ _ (Act.put (Act.put (fillE _ _ [] _) (some 25) (r0 15)) (some 31) (r0 21)) _ _ _
          simp only [fillE]
          go_wp2_with fail
          first
          | exact hK _ (HB.out.same _ (by decide) (by decide))
          | exact HB.out.same _ (by decide) (by decide)
        · exact ⟨_, fun _ => rfl, Eq.symm (by go_simp; exact rfl)⟩
      refine headE_nil (fun _ r0 w1 d hall hB1 => ?_)
      show wpList _ _ _ _ (Act.put (Act.put (fillE _ _ [] _) (some 25) (r0 15)) (some 31) (r0 21)) _
      simp only [fillE]
      have HB := Lib.hid hB1
      clear hB1
      go_wp2_with fail
      go_roundw
      case rel => exact ⟨x + 1, by omega, by omega, rfl, HB.out.u⟩
      case measure => simp [intOf]; omega
    · go_wp2_with fail
      go_ret
      exact ⟨rfl, HU.out⟩

set_option maxRecDepth 100000 in
set_option maxHeartbeats 1000000 in
theorem both12_any (v : Value) (L : List SpanV) (g : Nat) (w : World) (h : SArg w v L g) :
    Calls Try.prog 35 #[v] w fun e w' => ∃ a pb rr, e = .returned (.tuple #[.pointer (some ⟨a, 0, none⟩), .pointer (some ⟨rr, 0, none⟩), .bool (loadB L)]) ∧ IsMem w' a pb (loadR L Mem.zero) ∧ IsRef w' rr (loadR L Mem.zero) ∧ Upd [] w w' ∧ rr ≠ a ∧ rr ≠ pb ∧ w.heap.size ≤ a ∧ w.heap.size ≤ pb ∧ w.heap.size ≤ rr := by
  obtain ⟨Z, hZ, hbuild⟩ := run_build_ref
  have HZ := Lib.hid hZ
  have HBu := Lib.hid hbuild
  have HS := Lib.hid h
  have HO := Lib.hid (show ∀ s, s ∈ L → s.ok from fun s hs => (h.ok s hs).ct)
  clear hZ hbuild h
  cases hb : loadB L
  · have HB := Lib.hid hb
    clear hb
    go_enter Try.func35, Try.ntmps35
    go_wp2_with (first | (go_at_call 15; refine (New_any _).mono ?_; rintro e w1 ⟨a, pb, rfl, ha, hp, hm, hu⟩; have HM := Lib.hid hm; have HU := Lib.hid hu; have HA := Lib.hid (And.intro ha hp); clear hm hu ha hp) | (refine wpList_build rfl 52 [] rfl [] rfl (.agg Z) (HBu.out _) ?_) | (go_at_call 21; refine (Load_any Mem.zero a pb g v L _ (HM.out.keep ((Upd.refl [] _).alloc _) (by simp) (by simp)) (HS.out.sp.keep (HU.out.alloc _) (by simp)) HO.out).mono ?_; rintro e w2 ⟨rfl, hm, hu⟩; rw [HB.out]; have HM2 := Lib.hid hm; have HU2 := Lib.hid hu; clear hm hu))
    obtain ⟨qb, hq, hm⟩ := HM2.out.ex
    have hal := HM.out.al
    have hpl := HM.out.pl
    have hUA := (HU.out.alloc (.cells Z 52)).also HU2.out (by have := HA.out; simp; omega)
    refine bodyPost_ret (v := .tuple #[.pointer (some ⟨a, 0, none⟩), .pointer (some ⟨w1.heap.size, 0, none⟩), .bool false]) (results_three' rfl (res_tmp 2 rfl) (res_tmp 3 rfl) (res_tmp 4 rfl)) rfl ⟨a, qb, w1.heap.size, rfl, hm, ?_, hUA, by omega, ?_, HA.out.1, ?_, HU.out.size⟩
    · rw [loadR_no HB.out]
      exact (IsRef.new HZ.out Mem.zero_ok).keep HU2.out (by simp; omega)
    · rcases hq with rfl | hq
      · omega
      · have : w1.heap.size < (w1.alloc (.cells Z 52)).heap.size := by simp
        omega
    · have := HA.out.2
      have h1 := HU.out.size
      rcases hq with rfl | hq
      · omega
      · simp at hq; omega
  · have HB := Lib.hid hb
    clear hb
    go_enter Try.func35, Try.ntmps35
    go_wp2_with (first | (go_at_call 15; refine (New_any _).mono ?_; rintro e w1 ⟨a, pb, rfl, ha, hp, hm, hu⟩; have HM := Lib.hid hm; have HU := Lib.hid hu; have HA := Lib.hid (And.intro ha hp); clear hm hu ha hp) | (refine wpList_build rfl 52 [] rfl [] rfl (.agg Z) (HBu.out _) ?_) | (go_at_call 21; refine (Load_any Mem.zero a pb g v L _ (HM.out.keep ((Upd.refl [] _).alloc _) (by simp) (by simp)) (HS.out.sp.keep (HU.out.alloc _) (by simp)) HO.out).mono ?_; rintro e w2 ⟨rfl, hm, hu⟩; rw [HB.out]; have HM2 := Lib.hid hm; have HU2 := Lib.hid hu; clear hm hu) | (go_at_call 71; refine (Load_ref Mem.zero w1.heap.size g v L _ ((IsRef.new HZ.out Mem.zero_ok).keep HU2.out (by have := HM.out.al; simp; omega)) (HS.out.sp.keep ((HU.out.alloc _).also HU2.out (by have := HA.out; simp; omega)) (by simp)) HO.out).mono ?_; rintro e w3 ⟨rfl, hr, hu⟩; rw [HB.out]; have HR3 := Lib.hid hr; have HU3 := Lib.hid hu; clear hr hu))
    obtain ⟨qb, hq, hm⟩ := HM2.out.ex
    have hal := HM.out.al
    have hpl := HM.out.pl
    have hqb : qb ≠ w1.heap.size := by
      rcases hq with rfl | hq
      · omega
      · have : w1.heap.size < (w1.alloc (.cells Z 52)).heap.size := by simp
        omega
    have hqn : w.heap.size ≤ qb := by
      have := HA.out.2
      have h1 := HU.out.size
      rcases hq with rfl | hq
      · omega
      · simp at hq; omega
    have hUA := (HU.out.alloc (.cells Z 52)).also HU2.out (by have := HA.out; simp; omega)
    have hUB := hUA.also HU3.out (by have := HU.out.size; simp; omega)
    refine bodyPost_ret (v := .tuple #[.pointer (some ⟨a, 0, none⟩), .pointer (some ⟨w1.heap.size, 0, none⟩), .bool true]) (results_three' rfl (res_tmp 2 rfl) (res_tmp 3 rfl) (res_tmp 4 rfl)) rfl ⟨a, qb, w1.heap.size, rfl, hm.keep HU3.out (by simp; omega) (by simpa using hqb), HR3.out, hUB, by omega, by omega, HA.out.1, hqn, HU.out.size⟩

def fewB (L : List SpanV) : Bool := (L.all fun s => decide (s.by_.size ≤ 3000)) && decide (L.length ≤ 8)

set_option maxRecDepth 100000 in
set_option maxHeartbeats 1000000 in
theorem few12_any (v : Value) (L : List SpanV) (g : Nat) (w : World) (h : SArg w v L g) :
    Calls Try.prog 36 #[v] w fun e w' => e = .returned (.bool (fewB L)) ∧ w = w' := by
  have HS := Lib.hid h
  have hlen := h.len
  unfold maxLen at hlen
  have hsp := h.sp
  clear h
  rcases hsp with ⟨b, c, rfl, rfl⟩ | ⟨o, c, rfl, hg, hlen2, hc⟩
  · have HF := Lib.hid (show fewB [] = true from rfl)
    go_enter Try.func36, Try.ntmps36
    go_wp2_with fail
    go_loop [3] (fun i => i = .int .i64 0) (fun _ => 0)
    case atStart => exact rfl
    case round =>
      subst hrel
      go_wp2_with fail
      go_ret
      exact ⟨by rw [HF.out]; rfl, rfl⟩
  · have HC := Lib.hid hc
    clear hc
    go_enter Try.func36, Try.ntmps36
    go_wp2_with fail
    go_loop [3] (fun i => ∃ j : Nat, j ≤ L.length ∧ i = .int .i64 j ∧ ∀ k, k < j → (L.getD k default).by_.size ≤ 3000) (fun i => L.length - (intOf i).toNat)
    case atStart => exact ⟨0, Nat.zero_le _, rfl, by omega⟩
    case round =>
      obtain ⟨j, hj, rfl, hall⟩ := hrel
      have HA := Lib.hid hall
      clear hall
      by_cases hlt : j < L.length
      · have hd : decide ((j : Int) < L.length) = true := by simp; omega
        obtain ⟨s, hs⟩ : ∃ s, L[j]? = some s := ⟨L[j], List.getElem?_eq_getElem hlt⟩
        have hsd : L.getD j default = s := by rw [List.getD_eq_getElem?_getD, hs]; rfl
        have c3 := (HC.out j s hs).2.2.2
        have HSD := Lib.hid hsd
        have HSS := Lib.hid hs
        clear hs hsd
        by_cases hz : s.by_.size ≤ 3000
        · have hz1 : decide (3000 < (s.by_.size : Int)) = false := by simp; omega
          have HZ := Lib.hid hz
          clear hz
          go_wp2_with fail
          go_round
          case rel => exact ⟨j + 1, by omega, by go_num, fun k hk => by
              by_cases e : k = j
              · subst e; rw [HSD.out]; exact HZ.out
              · exact HA.out k (by omega)⟩
          case measure => simp [intOf]; omega
        · have hz1 : decide (3000 < (s.by_.size : Int)) = true := by simp; omega
          have HF := Lib.hid (show fewB L = false by
            rw [fewB, Bool.and_eq_false_iff]
            refine .inl ?_
            rw [List.all_eq_false]
            exact ⟨s, List.mem_of_getElem? HSS.out, by simpa using hz⟩)
          clear hz
          go_wp2_with fail
          go_ret
          exact ⟨by rw [HF.out]; rfl, rfl⟩
      · have hd : decide ((j : Int) < L.length) = false := by simp; omega
        have hall : (L.all fun s => decide (s.by_.size ≤ 3000)) = true := by
          rw [List.all_eq_true]
          intro s hs
          obtain ⟨k, hk⟩ := List.getElem?_of_mem hs
          have hkl := (List.getElem?_eq_some_iff.1 hk).1
          have := HA.out k (by omega)
          rw [List.getD_eq_getElem?_getD, hk] at this
          simpa using this
        by_cases h8 : L.length ≤ 8
        · have h81 : decide ((L.length : Int) ≤ 8) = true := by simp; omega
          have HF := Lib.hid (show fewB L = true by rw [fewB, hall, Bool.true_and]; simpa using h8)
          clear h8 hall
          go_wp2_with fail
          go_ret
          exact ⟨by rw [HF.out]; rfl, rfl⟩
        · have h81 : decide ((L.length : Int) ≤ 8) = false := by simp; omega
          have HF := Lib.hid (show fewB L = false by rw [fewB, hall, Bool.true_and]; simpa using h8)
          clear h8 hall
          go_wp2_with fail
          go_ret
          exact ⟨by rw [HF.out]; rfl, rfl⟩

end Go.Proofs.Ytncafchgdgmeaaa
