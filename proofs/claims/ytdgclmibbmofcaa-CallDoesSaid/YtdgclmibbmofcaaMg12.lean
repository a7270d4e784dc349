/-
  The laws of layer 14: both memories alike, both loaded, few spans: each by its contract. No condition.
-/
import Derived.Test.YtdgclmibbmofcaaMg06
import Derived.Test.YtdgclmibbmofcaaMg07
import Derived.Test.YtdgclmibbmofcaaMg04
import Derived.Test.YtdgclmibbmofcaaMg11
import Derived.Maps.AppendAt
import Derived.Test.YtdgclmibbmofcaaMg05
namespace Go.Proofs.Ytdgclmibbmofcaa
open Go Go.RowKit
set_option linter.unusedVariables false
set_option linter.unusedSimpArgs false

structure AlB (w0 : World) (a pb rr : Nat) (M : Mem) (L : List Int) (d : Nat → Bool) (r : Nat → Value) (w : World) : Prop where
  m : IsMem w a pb M
  f : IsRef w rr M
  u : Upd [] w0 w
  p : d 15 = true → ∃ g, BySl w (r 15) L g
  q : d 21 = true → ∃ g, BySl w (r 21) L g

theorem AlB.same {w0 : World} {a pb rr : Nat} {M : Mem} {L : List Int} {d : Nat → Bool} {r : Nat → Value} {w : World} (h : AlB w0 a pb rr M L d r w) (i : Nat) (h1 : i ≠ 15) (h2 : i ≠ 21) : AlB w0 a pb rr M L (updD d i) r w :=
  ⟨h.m, h.f, h.u, fun e => h.p (by simpa [updD, h1.symm] using e), fun e => h.q (by simpa [updD, h2.symm] using e)⟩

theorem AlB.putP {w0 : World} {a pb rr : Nat} {M : Mem} {L : List Int} {d : Nat → Bool} {r : Nat → Value} {w w1 : World} (h : AlB w0 a pb rr M L d r w) (u : Upd [] w w1) {v : Value} (hv : ∃ g, BySl w1 v L g) : AlB w0 a pb rr M L (updD d 15) (updV r 15 v) w1 :=
  ⟨h.m.keep u (by simp) (by simp), h.f.keep u (by simp), h.u.also u (by simp), fun _ => by simpa [updV] using hv, fun e => by
    obtain ⟨g, hg⟩ := h.q (by simpa [updD] using e)
    exact ⟨g, by simpa [updV] using hg.keep u (by simp)⟩⟩

theorem AlB.putQ {w0 : World} {a pb rr : Nat} {M : Mem} {L : List Int} {d : Nat → Bool} {r : Nat → Value} {w w1 : World} (h : AlB w0 a pb rr M L d r w) (u : Upd [] w w1) {v : Value} (hv : ∃ g, BySl w1 v L g) : AlB w0 a pb rr M L (updD d 21) (updV r 21 v) w1 :=
  ⟨h.m.keep u (by simp) (by simp), h.f.keep u (by simp), h.u.also u (by simp), fun e => by
    obtain ⟨g, hg⟩ := h.p (by simpa [updD] using e)
    exact ⟨g, by simpa [updV] using hg.keep u (by simp)⟩, fun _ => by simpa [updV] using hv⟩

theorem rights_at (M : Mem) (x : Int) (h0 : 0 ≤ x) (h : x < 64) : M.rights x = M.R x.toNat := by rw [Mem.rights, if_neg (by omega)]

set_option maxRecDepth 100000 in
set_option maxHeartbeats 4000000 in
theorem alike14_any (M : Mem) (a pb rr : Nat) (w : World) (hM : IsMem w a pb M) (hR : IsRef w rr M) :
    Calls Try.prog 12 #[.pointer (some ⟨a, 0, none⟩), .pointer (some ⟨rr, 0, none⟩)] w fun e w' => e = .returned (.bool true) ∧ Upd [] w w' := by
  have hmo : Try.prog.follows .mixedOrders = true := by kernel_rfl
  have HM := Lib.hid hM
  have HR := Lib.hid hR
  clear hM hR
  go_enter Try.func12, Try.ntmps12
  go_wp2_with fail
  go_loopw [5] (fun i wr => ∃ x : Int, 0 ≤ x ∧ x ≤ 64 ∧ i = .int .i64 x ∧ Upd [] w wr) (fun i _ => 64 - (intOf i).toNat)
  case atStart => exact ⟨0, by decide, by decide, rfl, Upd.refl _ _⟩
  case round =>
    obtain ⟨x, hx0, hx1, rfl, hU⟩ := hrel
    have HU := Lib.hid hU
    clear hU
    by_cases hlt : x < 64
    · have HRi := Lib.hid (rights_at M x hx0 hlt)
      have q1 : x * 256 % 4294967296 = x * 256 := by omega
      have q2 : 0 ≤ x * 256 := by omega
      have q3 : x * 256 < 4294967296 := by omega
      obtain ⟨S, hS⟩ : ∃ S, strOfNums (M.peek (x * 256) 256) = S := ⟨_, rfl⟩
      have HS := Lib.hid hS
      clear hS
      go_wp2_with fail
      refine wp_drawE 25 (AlB w a pb rr M (M.peek (x * 256) 256)) (fun _ _ => False) (by kernel_rfl) (by kernel_rfl) (fun r0 => ⟨(HM.out.keep HU.out (by simp) (by simp)).drew, (HR.out.keep HU.out (by simp)).drew, HU.out.drew, by simp, by simp⟩) (fun _ _ _ h => h.elim) ?_
      simp only [List.take_succ_cons, List.take_zero, List.drop_succ_cons, List.drop_zero]
      iterate 15
        apply headE_val0 rfl rfl
        · intro d r0 K hd hdep hK w1 hB1
          have cR := hB1.f.cR x.toNat (by omega)
          have HB := Lib.hid hB1
          clear hB1 hdep
          go_wp2_with (go_at_call 32; refine (Rights_any a pb x _ M HB.out.m).mono ?_; rintro e w2 ⟨rfl, rfl⟩; rw [HRi.out])
          first
          | exact hK _ (HB.out.same _ (by decide) (by decide))
          | exact HB.out.same _ (by decide) (by decide)
        · exact ⟨_, rfl⟩
      refine headE_free rfl (fun _ => rfl) 25 rfl (by simp [Act.put]) ?_ ?_
      · intro d r0 K hd w1 hB1 hK
        have HB := Lib.hid hB1
        clear hB1
        simp only [fillE]
        go_wp2_with fail
        refine (Peek_any M a pb (x * 256) 256 _ HB.out.m q2 q3 (by decide) (by decide)).mono ?_
        rintro e w2 ⟨v, rfl, ho, hu⟩
        exact hK v w2 (HB.out.putP hu (own_bysl ho))
      apply headE_val rfl (fun _ => rfl)
      · intro d r0 K hd hdep hK w1 hB1
        have h15 : d 15 = true := hdep ⟨15, .data⟩ (by simp) rfl
        obtain ⟨g, hg⟩ := hB1.p h15
        have hcv := bysl_string hg
        rw [HS.out] at hcv
        have HB := Lib.hid hB1
        clear hB1 hdep hg
        show Oper.wp _ _ (Act.put (fillE _ _ [] _) (some 25) (r0 15)) _ _ _
        simp only [fillE]
        go_wp2_with fail
        first
        | exact hK _ (HB.out.same _ (by decide) (by decide))
        | exact HB.out.same _ (by decide) (by decide)
      · exact ⟨_, fun _ => rfl, Eq.symm (by go_simp; exact rfl)⟩
      iterate 4
        apply headE_val rfl (fun _ => rfl)
        · intro d r0 K hd hdep hK w1 hB1
          have HB := Lib.hid hB1
          clear hB1 hdep
          show Oper.wp _ _ (Act.put (fillE _ _ [] _) (some 25) (r0 15)) _ _ _
          simp only [fillE]
          go_wp2_with fail
          first
          | exact hK _ (HB.out.same _ (by decide) (by decide))
          | exact HB.out.same _ (by decide) (by decide)
        · exact ⟨_, fun _ => rfl, Eq.symm (by go_simp; exact rfl)⟩
      refine headE_free rfl (fun _ => rfl) 31 rfl (by simp [Act.put]) ?_ ?_
      · intro d r0 K hd w1 hB1 hK
        have HB := Lib.hid hB1
        clear hB1
        show Oper.wp _ _ (Act.put (fillE _ _ [] _) (some 25) (r0 15)) _ _ _
        simp only [fillE]
        go_wp2_with fail
        refine (Peek_ref M rr (x * 256) 256 _ HB.out.f q2 q3).mono ?_
        rintro e w2 ⟨v, rfl, ho, hu⟩
        exact hK v w2 (HB.out.putQ hu (own_bysl ho))
      apply headE_val rfl (fun _ => rfl)
      · intro d r0 K hd hdep hK w1 hB1
        have h21 : d 21 = true := hdep ⟨21, .data⟩ (by simp) rfl
        obtain ⟨g, hg⟩ := hB1.q h21
        have hcv := bysl_string hg
        rw [HS.out] at hcv
        have HB := Lib.hid hB1
        clear hB1 hdep hg
        show Oper.wp _ _ (Act.put (Act.put (fillE _ _ [] _) (some 25) (r0 15)) (some 31) (r0 21)) _ _ _
        simp only [fillE]
        go_wp2_with fail
        first
        | exact hK _ (HB.out.same _ (by decide) (by decide))
        | exact HB.out.same _ (by decide) (by decide)
      · exact ⟨_, fun _ => rfl, Eq.symm (by go_simp; exact rfl)⟩
      iterate 2
        apply headE_val rfl (fun _ => rfl)
        · intro d r0 K hd hdep hK w1 hB1
          have HB := Lib.hid hB1
          clear hB1 hdep
          show Oper.wp _ _ (Act.put (Act.put (fillE _ _ [] _) (some 25) (r0 15)) (some 31) (r0 21)) _ _ _
          simp only [fillE]
          go_wp2_with fail
          first
          | exact hK _ (HB.out.same _ (by decide) (by decide))
          | exact HB.out.same _ (by decide) (by decide)
        · exact ⟨_, fun _ => rfl, Eq.symm (by go_simp; exact rfl)⟩
      refine headE_nil (fun _ r0 w1 d hall hB1 => ?_)
      show wpList _ _ _ _ (Act.put (Act.put (fillE _ _ [] _) (some 25) (r0 15)) (some 31) (r0 21)) _
      simp only [fillE]
      have HB := Lib.hid hB1
      clear hB1
      go_wp2_with fail
      go_roundw
      case rel => exact ⟨x + 1, by omega, by omega, rfl, HB.out.u⟩
      case measure => simp [intOf]; omega
    · go_wp2_with fail
      go_ret
      exact ⟨rfl, HU.out⟩

set_option maxRecDepth 100000 in
set_option maxHeartbeats 1000000 in
theorem both14_any (v : Value) (L : List SpanV) (g : Nat) (w : World) (h : SArg w v L g) :
    Calls Try.prog 13 #[v] w fun e w' => ∃ a pb rr, e = .returned (.tuple #[.pointer (some ⟨a, 0, none⟩), .pointer (some ⟨rr, 0, none⟩), .bool (loadB L)]) ∧ IsMem w' a pb (loadR L Mem.zero) ∧ IsRef w' rr (loadR L Mem.zero) ∧ Upd [] w w' ∧ rr ≠ a ∧ rr ≠ pb ∧ w.heap.size ≤ a ∧ w.heap.size ≤ pb ∧ w.heap.size ≤ rr := by
  obtain ⟨Z, hZ, hbuild⟩ := run_build_ref
  have HZ := Lib.hid hZ
  have HBu := Lib.hid hbuild
  have HS := Lib.hid h
  have HO := Lib.hid (show ∀ s, s ∈ L → s.ok from fun s hs => (h.ok s hs).ct)
  clear hZ hbuild h
  cases hb : loadB L
  · have HB := Lib.hid hb
    clear hb
    go_enter Try.func13, Try.ntmps13
    go_wp2_with (first | (go_at_call 6; refine (New_any _).mono ?_; rintro e w1 ⟨a, pb, rfl, ha, hp, hm, hu⟩; have HM := Lib.hid hm; have HU := Lib.hid hu; have HA := Lib.hid (And.intro ha hp); clear hm hu ha hp) | (refine wpList_build rfl 30 [] rfl [] rfl (.agg Z) (HBu.out _) ?_) | (go_at_call 34; refine (Load_any Mem.zero a pb g v L _ (HM.out.keep ((Upd.refl [] _).alloc _) (by simp) (by simp)) (HS.out.sp.keep (HU.out.alloc _) (by simp)) HO.out).mono ?_; rintro e w2 ⟨rfl, hm, hu⟩; rw [HB.out]; have HM2 := Lib.hid hm; have HU2 := Lib.hid hu; clear hm hu))
    obtain ⟨qb, hq, hm⟩ := HM2.out.ex
    have hal := HM.out.al
    have hpl := HM.out.pl
    have hUA := (HU.out.alloc (.cells Z 30)).also HU2.out (by have := HA.out; simp; omega)
    refine bodyPost_ret (v := .tuple #[.pointer (some ⟨a, 0, none⟩), .pointer (some ⟨w1.heap.size, 0, none⟩), .bool false]) (results_three' rfl (res_tmp 2 rfl) (res_tmp 3 rfl) (res_tmp 4 rfl)) rfl ⟨a, qb, w1.heap.size, rfl, hm, ?_, hUA, by omega, ?_, HA.out.1, ?_, HU.out.size⟩
    · rw [loadR_no HB.out]
      exact (IsRef.new HZ.out Mem.zero_ok).keep HU2.out (by simp; omega)
    · rcases hq with rfl | hq
      · omega
      · have : w1.heap.size < (w1.alloc (.cells Z 30)).heap.size := by simp
        omega
    · have := HA.out.2
      have h1 := HU.out.size
      rcases hq with rfl | hq
      · omega
      · simp at hq; omega
  · have HB := Lib.hid hb
    clear hb
    go_enter Try.func13, Try.ntmps13
    go_wp2_with (first | (go_at_call 6; refine (New_any _).mono ?_; rintro e w1 ⟨a, pb, rfl, ha, hp, hm, hu⟩; have HM := Lib.hid hm; have HU := Lib.hid hu; have HA := Lib.hid (And.intro ha hp); clear hm hu ha hp) | (refine wpList_build rfl 30 [] rfl [] rfl (.agg Z) (HBu.out _) ?_) | (go_at_call 34; refine (Load_any Mem.zero a pb g v L _ (HM.out.keep ((Upd.refl [] _).alloc _) (by simp) (by simp)) (HS.out.sp.keep (HU.out.alloc _) (by simp)) HO.out).mono ?_; rintro e w2 ⟨rfl, hm, hu⟩; rw [HB.out]; have HM2 := Lib.hid hm; have HU2 := Lib.hid hu; clear hm hu) | (go_at_call 35; refine (Load_ref Mem.zero w1.heap.size g v L _ ((IsRef.new HZ.out Mem.zero_ok).keep HU2.out (by have := HM.out.al; simp; omega)) (HS.out.sp.keep ((HU.out.alloc _).also HU2.out (by have := HA.out; simp; omega)) (by simp)) HO.out).mono ?_; rintro e w3 ⟨rfl, hr, hu⟩; rw [HB.out]; have HR3 := Lib.hid hr; have HU3 := Lib.hid hu; clear hr hu))
    obtain ⟨qb, hq, hm⟩ := HM2.out.ex
    have hal := HM.out.al
    have hpl := HM.out.pl
    have hqb : qb ≠ w1.heap.size := by
      rcases hq with rfl | hq
      · omega
      · have : w1.heap.size < (w1.alloc (.cells Z 30)).heap.size := by simp
        omega
    have hqn : w.heap.size ≤ qb := by
      have := HA.out.2
      have h1 := HU.out.size
      rcases hq with rfl | hq
      · omega
      · simp at hq; omega
    have hUA := (HU.out.alloc (.cells Z 30)).also HU2.out (by have := HA.out; simp; omega)
    have hUB := hUA.also HU3.out (by have := HU.out.size; simp; omega)
    refine bodyPost_ret (v := .tuple #[.pointer (some ⟨a, 0, none⟩), .pointer (some ⟨w1.heap.size, 0, none⟩), .bool true]) (results_three' rfl (res_tmp 2 rfl) (res_tmp 3 rfl) (res_tmp 4 rfl)) rfl ⟨a, qb, w1.heap.size, rfl, hm.keep HU3.out (by simp; omega) (by simpa using hqb), HR3.out, hUB, by omega, by omega, HA.out.1, hqn, HU.out.size⟩

def fewB (L : List SpanV) : Bool := (L.all fun s => decide (s.by_.size ≤ 3000)) && decide (L.length ≤ 8)

set_option maxRecDepth 100000 in
set_option maxHeartbeats 1000000 in
theorem few14_any (v : Value) (L : List SpanV) (g : Nat) (w : World) (h : SArg w v L g) :
    Calls Try.prog 14 #[v] w fun e w' => e = .returned (.bool (fewB L)) ∧ w = w' := by
  have HS := Lib.hid h
  have hlen := h.len
  unfold maxLen at hlen
  have hsp := h.sp
  clear h
  rcases hsp with ⟨b, c, rfl, rfl⟩ | ⟨o, c, rfl, hg, hlen2, hc⟩
  · have HF := Lib.hid (show fewB [] = true from rfl)
    go_enter Try.func14, Try.ntmps14
    go_wp2_with fail
    go_loop [3] (fun i => i = .int .i64 0) (fun _ => 0)
    case atStart => exact rfl
    case round =>
      subst hrel
      go_wp2_with fail
      go_ret
      exact ⟨by rw [HF.out]; rfl, rfl⟩
  · have HC := Lib.hid hc
    clear hc
    go_enter Try.func14, Try.ntmps14
    go_wp2_with fail
    go_loop [3] (fun i => ∃ j : Nat, j ≤ L.length ∧ i = .int .i64 j ∧ ∀ k, k < j → (L.getD k default).by_.size ≤ 3000) (fun i => L.length - (intOf i).toNat)
    case atStart => exact ⟨0, Nat.zero_le _, rfl, by omega⟩
    case round =>
      obtain ⟨j, hj, rfl, hall⟩ := hrel
      have HA := Lib.hid hall
      clear hall
      by_cases hlt : j < L.length
      · have hd : decide ((j : Int) < L.length) = true := by simp; omega
        obtain ⟨s, hs⟩ : ∃ s, L[j]? = some s := ⟨L[j], List.getElem?_eq_getElem hlt⟩
        have hsd : L.getD j default = s := by rw [List.getD_eq_getElem?_getD, hs]; rfl
        have c3 := (HC.out j s hs).2.2.2
        have HSD := Lib.hid hsd
        have HSS := Lib.hid hs
        clear hs hsd
        by_cases hz : s.by_.size ≤ 3000
        · have hz1 : decide (3000 < (s.by_.size : Int)) = false := by simp; omega
          have HZ := Lib.hid hz
          clear hz
          go_wp2_with fail
          go_round
          case rel => exact ⟨j + 1, by omega, by go_num, fun k hk => by
              by_cases e : k = j
              · subst e; rw [HSD.out]; exact HZ.out
              · exact HA.out k (by omega)⟩
          case measure => simp [intOf]; omega
        · have hz1 : decide (3000 < (s.by_.size : Int)) = true := by simp; omega
          have HF := Lib.hid (show fewB L = false by
            rw [fewB, Bool.and_eq_false_iff]
            refine .inl ?_
            rw [List.all_eq_false]
            exact ⟨s, List.mem_of_getElem? HSS.out, by simpa using hz⟩)
          clear hz
          go_wp2_with fail
          go_ret
          exact ⟨by rw [HF.out]; rfl, rfl⟩
      · have hd : decide ((j : Int) < L.length) = false := by simp; omega
        have hall : (L.all fun s => decide (s.by_.size ≤ 3000)) = true := by
          rw [List.all_eq_true]
          intro s hs
          obtain ⟨k, hk⟩ := List.getElem?_of_mem hs
          have hkl := (List.getElem?_eq_some_iff.1 hk).1
          have := HA.out k (by omega)
          rw [List.getD_eq_getElem?_getD, hk] at this
          simpa using this
        by_cases h8 : L.length ≤ 8
        · have h81 : decide ((L.length : Int) ≤ 8) = true := by simp; omega
          have HF := Lib.hid (show fewB L = true by rw [fewB, hall, Bool.true_and]; simpa using h8)
          clear h8 hall
          go_wp2_with fail
          go_ret
          exact ⟨by rw [HF.out]; rfl, rfl⟩
        · have h81 : decide ((L.length : Int) ≤ 8) = false := by simp; omega
          have HF := Lib.hid (show fewB L = false by rw [fewB, hall, Bool.true_and]; simpa using h8)
          clear h8 hall
          go_wp2_with fail
          go_ret
          exact ⟨by rw [HF.out]; rfl, rfl⟩

end Go.Proofs.Ytdgclmibbmofcaa

/-
  Slices of rows as arguments; the document's memory beside the calls. No condition.
-/
namespace Go.Proofs.Ytdgclmibbmofcaa
open Go Go.RowKit Go.Maps Go.WideShapes Go.ChangeShapes
set_option linter.unusedVariables false
set_option linter.unusedSimpArgs false

/-- A slice of n rows of m cells each. -/
structure Rws (w : World) (v : Value) (m n : Nat) (F : Nat → Nat → Value) : Prop where
  form : (∃ a c, v = .slice a 0 c ∧ n = 0) ∨ ∃ g o c, v = .slice (some ⟨g, o, none⟩) n c ∧ g < w.heap.size ∧ ∀ i, i < n → ∀ j, j < m → w.cell? ⟨g, o + i * m + j, none⟩ = some (F i j)
  len : n ≤ maxLen
theorem Rws.shape {w : World} {v : Value} {m n : Nat} {F : Nat → Nat → Value} (h : Rws w v m n F) : ∃ a c, v = .slice a n c := by
  rcases h.form with ⟨a, c, h1, h2⟩ | ⟨g, o, c, h1, _⟩
  · exact ⟨a, c, by rw [h1, h2]⟩
  · exact ⟨_, c, h1⟩
theorem Rws.cell {w : World} {a : Option Addr} {k c m n : Nat} {F : Nat → Nat → Value} (h : Rws w (.slice a k c) m n F) (hn : 0 < n) : ∃ g o, a = some ⟨g, o, none⟩ ∧ k = n ∧ ∀ w', Upd [] w w' → ∀ i, i < n → ∀ j, j < m → w'.cell? ⟨g, o + i * m + j, none⟩ = some (F i j) := by
  rcases h.form with ⟨a, c, h1, h2⟩ | ⟨g, o, c, h1, h2, h3⟩
  · omega
  · injection h1 with e1 e2 _
    exact ⟨g, o, e1, e2, fun w' u i hi j hj => by rw [← h3 i hi j hj]; unfold World.cell?; rw [u.block g h2 (by simp)]⟩
set_option maxRecDepth 100000 in
theorem open_rws {H : Type} {enc : TypeId × Value → H} {w : World} {t e : TypeId} (m : Nat) (lf : Nat → Leaf) (ht : Try.prog.underlying t = some (.slice e)) (hm : Try.prog.cellsOf e = m) (h0 : 0 < m) (hl : ∀ j, j < m → leafAt Try.prog 8 e j = some (lf j)) {b0 : Nat} {v : Value} {d : DataW H} {p : List MemPlace}
    (hval : Value.okWide Try.prog w .any b0 t v) (h : DataW.Trod enc Try.prog w 0 (fun _ => true) true t v d p) : ∃ n F, Rws w v m n F ∧ ∀ i, i < n → ∀ j, j < m → LeafOk (lf j) (F i j) := by
  obtain ⟨fuel, hf⟩ := h
  obtain ⟨a1, len, cap, rfl⟩ := okWide_slice ht hval
  rcases DataW.trod_slice ht hf with ⟨hcs, hx⟩ | ⟨⟨ab, ao, sp⟩, len', cap', elems, rest, n, _, hcs, _, _, hl2, hmx, hel, he, _, _⟩
  · simp [Value.cells] at hcs
    obtain ⟨rfl, rfl, rfl⟩ := hcs
    exact ⟨0, fun _ _ => undef, ⟨.inl ⟨_, _, rfl, rfl⟩, Nat.zero_le _⟩, fun i hi => by omega⟩
  · simp [Value.cells] at hcs
    obtain ⟨rfl, rfl, rfl⟩ := hcs
    by_cases hz : len = 0
    · subst hz
      exact ⟨0, fun _ _ => undef, ⟨.inl ⟨_, _, rfl, rfl⟩, Nat.zero_le _⟩, fun i hi => by omega⟩
    · have hsp : sp = none ∧ ab < w.heap.size := by
        have h := he 0 (by omega)
        obtain ⟨y, hy⟩ : ∃ y, elems[0]? = some y := ⟨_, List.getElem?_eq_getElem (by omega)⟩
        rw [hy, hm, Option.bind_eq_some_iff] at h
        obtain ⟨cs', hcs', _⟩ := h
        have hb := World.cells?_block hcs' h0
        have hl3 := (World.cells?_some hcs').2.1
        have hc := (World.cells?_some hcs').2.2 0 h0
        rw [Nat.zero_mul] at hc hb
        rw [show ((⟨ab, ao, sp⟩ : Addr).add 0).add 0 = ⟨ab, ao, sp⟩ from rfl, List.getElem?_eq_getElem (by omega)] at hc
        exact ⟨(lt_of_cell hc).1, hb⟩
      obtain ⟨rfl, hlt⟩ := hsp
      have each : ∀ i, i < len → ∀ j, j < m → ∃ x, w.cell? ⟨ab, ao + i * m + j, none⟩ = some x ∧ LeafOk (lf j) x := by
        intro i hi
        have h := he i hi
        obtain ⟨y, hy⟩ : ∃ y, elems[i]? = some y := ⟨_, List.getElem?_eq_getElem (by omega)⟩
        rw [hy, hm, Addr.add_lit, Option.bind_eq_some_iff] at h
        obtain ⟨cs, hcs, hy2⟩ := h
        obtain ⟨_, hl3, hc⟩ := World.cells?_some hcs
        intro j hj
        obtain ⟨x, hx, hok⟩ := leafAt_ok 8 _ _ _ _ j (lf j) hy2 (hl j hj)
        refine ⟨x, ?_, hok⟩
        have h1 := hc j hj
        rw [Addr.add_lit] at h1
        rw [h1, hx]
      have hF : ∀ i, ∃ f : Nat → Value, i < len → ∀ j, j < m → w.cell? ⟨ab, ao + i * m + j, none⟩ = some (f j) ∧ LeafOk (lf j) (f j) := by
        intro i
        by_cases hi : i < len
        · have h1 : ∀ j, ∃ x, j < m → w.cell? ⟨ab, ao + i * m + j, none⟩ = some x ∧ LeafOk (lf j) x := fun j => by
            by_cases hj : j < m
            · obtain ⟨x, hx⟩ := each i hi j hj
              exact ⟨x, fun _ => hx⟩
            · exact ⟨undef, fun h => absurd h hj⟩
          obtain ⟨f, hf⟩ := Classical.axiomOfChoice h1
          exact ⟨f, fun _ j hj => hf j hj⟩
        · exact ⟨fun _ => undef, fun h => absurd h hi⟩
      obtain ⟨F, hF⟩ := Classical.axiomOfChoice hF
      exact ⟨len, F, ⟨.inr ⟨ab, ao, cap, rfl, hlt, fun i hi j hj => (hF i hi j hj).1⟩, by omega⟩, fun i hi j hj => (hF i hi j hj).2⟩
section
variable {w w1 w2 : World} {a pb c b rb : Nat} {M N : Mem} {C : Cd} {L : List (Nat × Obj)} {CR : Array Value}
theorem Kc.tail {p : Nat × Obj} (h : Kc w a pb M c b C (p :: L) w1) : Kc w a pb M c b C L w1 := by
  obtain ⟨g, h1, h2, h3, h4, h5⟩ := h.cc
  exact ⟨h.m, ⟨g, h1, h2, h3, h4, fun q hq => h5 q (List.mem_cons_of_mem _ hq)⟩, h.u, fun q hq => h.v q (List.mem_cons_of_mem _ hq), (List.pairwise_cons.1 h.s).2, fun q hq => h.t q (List.mem_cons_of_mem _ hq), h.o, h.ne⟩
/-- The document's memory. -/
theorem Kc.ref (h : Kc w a pb M c b C L w1) (n : Nat) (hn : L[n]? = some (rb, .cells CR 30 (0, 0))) (hh : HoldsR CR N ∧ N.Ok) : IsRef w1 rb N := ⟨⟨CR, hh.1, h.get n hn⟩, hh.2⟩
theorem Kc.refPut (h : Kc w a pb M c b C L w1) (n : Nat) (hn : L[n]? = some (rb, .cells CR 30 (0, 0))) (hr : IsRef w2 rb N) (u : Upd [rb] w1 w2) : ∃ C', (HoldsR C' N ∧ N.Ok) ∧ Kc w a pb M c b C (L.set n (rb, .cells C' 30 (0, 0))) w2 := by
  obtain ⟨⟨C', h1, h2⟩, h3⟩ := hr
  exact ⟨C', ⟨h1, h3⟩, h.put n hn u h2⟩
end
end Go.Proofs.Ytdgclmibbmofcaa

/-
  Variables of a call in memory; appending to events; the statement that appends one event, along any order. No condition.
-/
namespace Go.Proofs.Ytdgclmibbmofcaa
open Go Go.RowKit Go.Maps
set_option linter.unusedVariables false
set_option linter.unusedSimpArgs false

/-- Variables along a call: those of S are older than it. -/
structure Hs (S : List Nat) (w : World) (L : List (Nat × Obj)) (w1 : World) : Prop where
  u : Upd S w w1
  v : ∀ p ∈ L, w1.heap[p.1]? = some p.2
  s : L.Pairwise (fun p q => p.1 ≠ q.1)
  t : ∀ p ∈ L, p.1 ∈ S ∨ w.heap.size ≤ p.1
section
variable {S : List Nat} {w w1 w2 : World} {L : List (Nat × Obj)} {x : Nat} {o o' : Obj}
theorem Hs.get (h : Hs S w L w1) (n : Nat) (hn : L[n]? = some (x, o)) : w1.heap[x]? = some o := h.v (x, o) (List.mem_of_getElem? hn)
theorem Hs.quiet (h : Hs S w L w1) (u : Upd [] w1 w2) : Hs S w L w2 := ⟨h.u.also u (by simp), fun p hp => u.get (h.v p hp) (by simp), h.s, h.t⟩
theorem Hs.add (h : Hs S w L w1) (u : Upd [] w1 w2) {y : Nat} (hy : w1.heap.size ≤ y) (ho : w2.heap[y]? = some o) : Hs S w ((y, o) :: L) w2 := by
  have q := h.quiet u
  refine ⟨q.u, fun p hp => ?_, List.pairwise_cons.2 ⟨fun p hp => ?_, h.s⟩, fun p hp => ?_⟩
  · rcases List.mem_cons.1 hp with rfl | hp
    · exact ho
    · exact q.v p hp
  · have := lt_of_heap (h.v p hp); dsimp only; omega
  · rcases List.mem_cons.1 hp with rfl | hp
    · exact .inr (Nat.le_trans h.u.size hy)
    · exact h.t p hp
theorem Hs.lay (h : Hs S w L w1) (cs : Array Value) (t : TypeId) : Hs S w ((w1.heap.size, .cells cs t (0, 0)) :: L) (w1.alloc (.cells cs t)) :=
  h.add ((Upd.refl [] w1).alloc _) (Nat.le_refl _) (heap_alloc_new _ _)
theorem Hs.ne (h : Hs S w L w1) (n m : Nat) {y : Nat} {o2 : Obj} (hn : L[n]? = some (x, o)) (hm : L[m]? = some (y, o2)) (hnm : n ≠ m) : x ≠ y := by
  obtain ⟨l1, e1⟩ := List.getElem?_eq_some_iff.1 hn
  obtain ⟨l2, e2⟩ := List.getElem?_eq_some_iff.1 hm
  rcases Nat.lt_or_gt_of_ne hnm with hlt | hlt
  · have := List.pairwise_iff_getElem.1 h.s n m l1 l2 hlt
    rw [e1, e2] at this; exact this
  · have := List.pairwise_iff_getElem.1 h.s m n l2 l1 hlt
    rw [e1, e2] at this; exact fun e => this e.symm
theorem Hs.put (h : Hs S w L w1) (n : Nat) (hn : L[n]? = some (x, o)) (u : Upd [x] w1 w2) (ho : w2.heap[x]? = some o') : Hs S w (L.set n (x, o')) w2 := by
  have ht := h.t _ (List.mem_of_getElem? hn)
  dsimp only at ht
  obtain ⟨hl, he⟩ := List.getElem?_eq_some_iff.1 hn
  have hc : ∀ p, p ∈ L.set n (x, o') → p = (x, o') ∨ (p ∈ L ∧ p.1 ≠ x) := by
    intro p hp
    obtain ⟨j, hj⟩ := List.mem_iff_getElem?.1 hp
    rw [List.getElem?_set] at hj
    by_cases e : n = j
    · subst e
      simp only [if_true, hl] at hj
      exact .inl (Option.some.inj hj).symm
    · simp only [e, if_false] at hj
      exact .inr ⟨List.mem_of_getElem? hj, fun hh => h.ne n j hn (o2 := p.2) (y := p.1) hj e hh.symm⟩
  refine ⟨h.u.also u (fun z hz => by rw [List.mem_singleton.1 hz]; exact ht), fun p hp => ?_, ?_, fun p hp => ?_⟩
  · rcases hc p hp with rfl | ⟨q1, q2⟩
    · exact ho
    · exact u.get (h.v p q1) (by simpa using q2)
  · refine List.pairwise_iff_getElem.2 fun i j hi hj hij => ?_
    rw [List.length_set] at hi hj
    have h1 : ∀ q (hq : q < L.length) (hq2 : q < (L.set n (x, o')).length), ((L.set n (x, o'))[q]).1 = (L[q]).1 := by
      intro q hq hq2
      rw [List.getElem_set]
      split
      · rename_i e; subst e; rw [he]
      · rfl
    rw [h1 i hi (by rw [List.length_set]; exact hi), h1 j hj (by rw [List.length_set]; exact hj)]
    exact List.pairwise_iff_getElem.1 h.s i j hi hj hij
  · rcases hc p hp with rfl | ⟨q1, q2⟩
    · exact ht
    · exact h.t p q1
theorem Hs.cell (h : Hs S w L w1) (n : Nat) {cs : Array Value} {t : TypeId} (hn : L[n]? = some (x, .cells cs t (0, 0))) (j : Nat) (z : Value) : Hs S w (L.set n (x, .cells (cs.setIfInBounds j z) t (0, 0))) (w1.setCell ⟨x, j, none⟩ z) :=
  h.put n hn ((Upd.refl [x] w1).setCell (p := ⟨x, j, none⟩) (.inl (by simp)) _) (heap_set_same (h.get n hn) j z)
theorem Hs.ref {M : Mem} {CR : Array Value} (h : Hs S w L w1) (n : Nat) (hn : L[n]? = some (x, .cells CR 30 (0, 0))) (hh : HoldsR CR M ∧ M.Ok) : IsRef w1 x M := ⟨⟨CR, hh.1, h.get n hn⟩, hh.2⟩
theorem Hs.refPut {M : Mem} {CR : Array Value} (h : Hs S w L w1) (n : Nat) (hn : L[n]? = some (x, .cells CR 30 (0, 0))) (hr : IsRef w2 x M) (u : Upd [x] w1 w2) : ∃ C', (HoldsR C' M ∧ M.Ok) ∧ Hs S w (L.set n (x, .cells C' 30 (0, 0))) w2 := by
  obtain ⟨⟨C', h1, h2⟩, h3⟩ := hr
  exact ⟨C', ⟨h1, h3⟩, h.put n hn u h2⟩
end

theorem ev_bytes : (Try.prog.info? 70).map (fun i => (i.zero, i.size, i.bytes)) = some (some Ev.zero.val, 6, 40) := by kernel_rfl
def OwnE (w : World) (base : Nat) (v : Value) (l : List Ev) : Prop := w.ownsRow base 70 6 v l.length (evRow l)
theorem ownE_nil (w : World) (base : Nat) : OwnE w base (.slice none 0 0) [] := World.ownsRow_nil _ _ _ _
theorem OwnE.keep {w w' : World} {base : Nat} {v : Value} {l : List Ev} {S : List Nat} (h : OwnE w base v l) (u : Upd S w w') (hS : ∀ g, v.ownBlock = some g → g ∉ S) : OwnE w' base v l := ownsRow_keep h u hS
theorem OwnE.form {w : World} {base : Nat} {v : Value} {l : List Ev} (h : OwnE w base v l) : ∃ a c, v = .slice a l.length c := by
  rcases h.2 with ⟨h1, h2⟩ | ⟨g, cap, cur, h1, _⟩
  · exact ⟨none, 0, by rw [h1, h2]⟩
  · exact ⟨_, _, h1⟩
theorem OwnE.form1 {w : World} {base : Nat} {v : Value} {l : List Ev} {e : Ev} (h : OwnE w base v (l ++ [e])) : ∃ a c, v = .slice a (l.length + 1) c := by
  obtain ⟨a, c, h⟩ := h.form
  rw [List.length_append, List.length_singleton] at h
  exact ⟨a, c, h⟩
def slA : Value → Option Addr | .slice a _ _ => a | _ => none
def slC : Value → Nat | .slice _ _ c => c | _ => 0
theorem OwnE.form2 {w : World} {base : Nat} {v : Value} {l : List Ev} {e : Ev} (h : OwnE w base v (l ++ [e])) : v = .slice (slA v) (l.length + 1) (slC v) := by
  obtain ⟨a, c, rfl⟩ := h.form1
  rfl
theorem OwnE.esl {w : World} {base : Nat} {v : Value} {l : List Ev} (h : OwnE w base v l) : ∃ g, ESl w v l g ∧ base ≤ g := esl_of_own (n := l.length) rfl h
theorem OwnE.block {w : World} {base : Nat} {v : Value} {l : List Ev} (h : OwnE w base v l) : ∀ g, v.ownBlock = some g → base ≤ g := ownsRow_block h
theorem run_append_ev (w : World) (base : Nat) (ty : TypeId) (v : Value) (l : List Ev) (hown : OwnE w base v l) (vb : Value) (m : List Ev) (g : Nat) (hb : ESl w vb m g) (hn : l.length + m.length ≤ 10000) (hbase : base ≤ w.heap.size) :
    ∃ v' w', (Builtin.append_ #[55, 55] ty #[v, vb]).run Try.prog w = .ok v' w' ∧ OwnE w' base v' (l ++ m) ∧ Upd v.ownBlock.toList w w' := by
  obtain ⟨i, hi, hz0, hz1, hz2⟩ := info_parts ev_bytes
  rcases hb with ⟨rfl, rfl⟩ | ⟨o, c, C, f, rfl, hg, hc⟩
  · refine ⟨v, w, ?_, ?_, Upd.refl _ _⟩
    · rcases hown.2 with ⟨rfl, h0⟩ | ⟨g, cap, cur, rfl, _, _, hnc, _⟩
      · simp [Builtin.append_, run_underlying Try.underlying55, sizeOf, typeInfo, hi, Builtin.lenOf, Builtin.firstCells, loadCells, loadCellsFrom]
      · simp [Builtin.append_, run_underlying Try.underlying55, sizeOf, typeInfo, hi, Builtin.lenOf, Builtin.firstCells, hnc, storeCells, loadCells, loadCellsFrom]
    · rw [List.append_nil]; exact hown
  · obtain ⟨v', w', h1, h2, h3, _, h5⟩ := run_append_own_at (P := Try.prog) w base 55 ty 70 i _ 6 40 Try.underlying55 hi hz0 hz1 hz2 rfl (by decide) v l.length _ hown ⟨g, o, none⟩ m.length c (evRow m) (by rw [evRow_len]) (fun j u hu => by rw [Addr.add_lit, cells_of hg]; exact hc j u hu)
      (fun u hu => evRow_one u hu) (by unfold maxLen; omega) (by omega) hbase
    refine ⟨v', w', h1, ?_, Upd.of_grown h3⟩
    unfold OwnE
    rw [List.length_append, evRow_app]
    exact h2
theorem wp_append_ev {o : Oper} {a : Act} {w : World} {K : Act → World → Prop} {Q : Exit → Act → World → Prop} (s x : Operand)
    (ho : o.op = .call { callee := .builtin .append, args := #[s, x], argTypes := #[55, 55] })
    (base : Nat) (v : Value) (l : List Ev) (hs : a.eval s = v) (hown : OwnE w base v l) (vb : Value) (m : List Ev) (g : Nat) (hx : a.eval x = vb) (hb : ESl w vb m g) (hn : l.length + m.length ≤ 10000) (hbase : base ≤ w.heap.size)
    (hK : ∀ v' w', OwnE w' base v' (l ++ m) → Upd v.ownBlock.toList w w' → K (a.put o.dst v') w') : o.wp Try.prog a w K Q := by
  obtain ⟨v', w', hr, h2, h3⟩ := run_append_ev w base o.type v l hown vb m g hb hn hbase
  unfold Oper.wp execOp
  simp only [ho, resolve, invoke, builtin, Sem.run_bind, Sem.run_pure, Result.andThen_ok, List.map_toArray, List.map_cons, List.map_nil, hs, hx, hr]
  exact hK _ _ h2 h3
theorem wp_buildEv {o : Oper} {a : Act} {w : World} {K : Act → World → Prop} {Q : Exit → Act → World → Prop} (e : Ev) (x : Operand) (ho : o.op = .buildSlice 55 1 #[(0, x)]) (hx : a.eval x = .agg e.cells)
    (hK : K (a.put o.dst (.slice (some ⟨w.heap.size, 0, none⟩) 1 1)) (w.alloc (.cells e.cells 70))) : o.wp Try.prog a w K Q := by
  unfold Oper.wp execOp
  simp only [ho, List.map_toArray, List.map_cons, List.map_nil, hx, Sem.run_bind, run_buildEv, Result.andThen_ok, Sem.run_pure]
  exact hK
theorem esl_one {w : World} {g : Nat} {e : Ev} (h : w.heap[g]? = some (.cells e.cells 70 (0, 0))) : ESl w (.slice (some ⟨g, 0, none⟩) 1 1) [e] g :=
  .inr ⟨0, 1, _, _, rfl, h, fun k u hu => by rw [Nat.zero_add]; simpa [evRow] using hu⟩

/-- A store whose value is known by what is known of the order. -/
theorem headE_freeD {P : Program} {ops : Array Oper} {B : (Nat → Bool) → (Nat → Value) → World → Prop} {X : List PanicEntry → World → Prop} {n : Nat} {fin : List Nat → List Nat → Act → Prop} {dead free : List Nat} {i : Nat} {o : Oper} {rest : List Oper} {a : Act}
    (hd : deadDep dead o = false) (hw : ∀ r, Region.wanted o (yielded ops (fillE ops r free a).tmps) = true) (t : Tmp) (ht : o.dst = some t) (hs : t < a.tmps.size)
    (h : ∀ (d : Nat → Bool) (r : Nat → Value) (K : Act → World → Prop), d i = false → (∀ e ∈ o.after, Region.binds .any e = true → d e.on = true) → ∀ w, B d r w → (∀ v w', B (updD d i) (updV r i v) w' → K ((fillE ops r free a).put o.dst v) w') → o.wp P (fillE ops r free a) w K (PX X))
    (k : headE P ops B X n fin dead (i :: free) (i + 1) rest a) : headE P ops B X n fin dead free i (o :: rest) a :=
  .inr (.inr (.inr (.inr ⟨hd, hw, ⟨t, ht, hs⟩, fun d r w hdi hdep hB => h d r _ hdi hdep w hB (fun v w' hB' => ⟨v, rfl, hB'⟩), k⟩)))
theorem eq_ne {d : Nat → Bool} {m i : Nat} (h : i ≠ m) : updD d m i = d i := by simp [updD, h]
theorem eq_eq {d : Nat → Bool} {m : Nat} : updD d m m = true := by simp [updD]
theorem ew_ne {r : Nat → Value} {m i : Nat} {v : Value} (h : i ≠ m) : updV r m v i = r i := by simp [updV, h]
theorem ew_eq {r : Nat → Value} {m : Nat} {v : Value} : updV r m v m = v := by simp [updV]
/-- Along c.E = append(append([]Event(nil), c.E...), e): the first append (5), the literal (7), the second append (8), the store (11). -/
structure Ke (w : World) (d : Nat) (E : List Ev) (e : Ev) (CD : Array Value) (dn : Nat → Bool) (r : Nat → Value) (w1 : World) : Prop where
  u : Upd [d] w w1
  dd : w1.heap[d]? = some (.cells (if dn 11 then CD.setIfInBounds 2 (r 8) else CD) 57 (0, 0))
  a : dn 8 = false → dn 5 = true → OwnE w1 w.heap.size (r 5) E
  b : dn 8 = false → dn 7 = true → ∃ g, r 7 = .slice (some ⟨g, 0, none⟩) 1 1 ∧ w1.heap[g]? = some (.cells e.cells 70 (0, 0))
  c : dn 8 = true → OwnE w1 w.heap.size (r 8) (E ++ [e])
  o : dn 11 = true → dn 8 = true
  o8 : dn 8 = true → dn 5 = true ∧ dn 7 = true
  lt : d < w.heap.size
  o4 : dn 5 = true → dn 4 = true
section
variable {w w1 w2 : World} {d : Nat} {E : List Ev} {e : Ev} {CD : Array Value} {dn : Nat → Bool} {r : Nat → Value}
theorem Ke.start (hd : w.heap[d]? = some (.cells CD 57 (0, 0))) (r : Nat → Value) : Ke w d E e CD (fun _ => false) r w.drew :=
  ⟨(Upd.refl [d] w).drew, hd, fun _ h => (by cases h), fun _ h => (by cases h), fun h => (by cases h), fun h => (by cases h), fun h => (by cases h), lt_of_heap hd, fun h => (by cases h)⟩
theorem Ke.same (h : Ke w d E e CD dn r w1) (j : Nat) (hj : 5 ≠ j ∧ 7 ≠ j ∧ 8 ≠ j ∧ 11 ≠ j) : Ke w d E e CD (updD dn j) r w1 := by
  obtain ⟨j5, j7, j8, j11⟩ := hj
  exact ⟨h.u, by rw [eq_ne j11]; exact h.dd, by rw [eq_ne j8, eq_ne j5]; exact h.a, by rw [eq_ne j8, eq_ne j7]; exact h.b, by rw [eq_ne j8]; exact h.c, by rw [eq_ne j8, eq_ne j11]; exact h.o, by rw [eq_ne j8, eq_ne j5, eq_ne j7]; exact h.o8, h.lt, fun hx => by
    rw [eq_ne j5] at hx
    by_cases e : 4 = j
    · rw [← e]; exact eq_eq
    · rw [eq_ne e]; exact h.o4 hx⟩
theorem Ke.no8 (h : Ke w d E e CD dn r w1) (hd : dn 5 = false ∨ dn 7 = false) : dn 8 = false ∧ dn 11 = false := by
  have h8 : dn 8 = false := by
    cases e8 : dn 8 with
    | false => rfl
    | true => obtain ⟨p, q⟩ := h.o8 e8; rcases hd with hd | hd <;> simp_all
  refine ⟨h8, ?_⟩
  cases e11 : dn 11 with
  | false => rfl
  | true => rw [h.o e11] at h8; cases h8
theorem Ke.at4 (h : Ke w d E e CD dn r w1) (hd : dn 4 = false) : w1.heap[d]? = some (.cells CD 57 (0, 0)) := by
  have h5 : dn 5 = false := by
    cases e5 : dn 5 with
    | false => rfl
    | true => rw [h.o4 e5] at hd; cases hd
  have hh := h.dd
  rw [(h.no8 (.inl h5)).2] at hh
  exact hh
theorem Ke.first (h : Ke w d E e CD dn r w1) (hd : dn 5 = false) (h4 : dn 4 = true) {v : Value} (hv : OwnE w2 w.heap.size v E) (u : Upd [] w1 w2) : Ke w d E e CD (updD dn 5) (updV r 5 v) w2 := by
  obtain ⟨h8, h11⟩ := h.no8 (.inl hd)
  have hh := h.dd
  rw [h11] at hh
  refine ⟨h.u.also u (by simp), by rw [eq_ne (by decide), h11]; exact u.get hh (by simp), fun _ _ => by rw [ew_eq]; exact hv, ?_, ?_, ?_, ?_, h.lt, fun _ => by rw [eq_ne (by decide)]; exact h4⟩
  · rw [eq_ne (by decide), eq_ne (by decide), ew_ne (by decide)]
    intro a b; obtain ⟨g, e1, e2⟩ := h.b a b; exact ⟨g, e1, u.get e2 (by simp)⟩
  · rw [eq_ne (by decide)]; intro hx; rw [h8] at hx; cases hx
  · rw [eq_ne (by decide), eq_ne (by decide)]; exact h.o
  · rw [eq_ne (by decide)]; intro hx; rw [h8] at hx; cases hx
theorem Ke.lit (h : Ke w d E e CD dn r w1) (hd : dn 7 = false) : Ke w d E e CD (updD dn 7) (updV r 7 (.slice (some ⟨w1.heap.size, 0, none⟩) 1 1)) (w1.alloc (.cells e.cells 70)) := by
  obtain ⟨h8, h11⟩ := h.no8 (.inr hd)
  have hh := h.dd
  rw [h11] at hh
  have u := (Upd.refl [] w1).alloc (.cells e.cells 70)
  refine ⟨h.u.also u (by simp), by rw [eq_ne (by decide), h11]; exact u.get hh (by simp), ?_, fun _ _ => ⟨_, ew_eq, heap_alloc_new _ _⟩, ?_, ?_, ?_, h.lt, by rw [eq_ne (by decide), eq_ne (by decide)]; exact h.o4⟩
  · rw [eq_ne (by decide), eq_ne (by decide), ew_ne (by decide)]
    intro a b; exact (h.a a b).keep u (by simp)
  · rw [eq_ne (by decide)]; intro hx; rw [h8] at hx; cases hx
  · rw [eq_ne (by decide), eq_ne (by decide)]; exact h.o
  · rw [eq_ne (by decide)]; intro hx; rw [h8] at hx; cases hx
theorem Ke.second (h : Ke w d E e CD dn r w1) (hd : dn 8 = false) (h5 : dn 5 = true) (h7 : dn 7 = true) {v : Value} (hv : OwnE w2 w.heap.size v (E ++ [e])) (u : Upd (r 5).ownBlock.toList w1 w2) : Ke w d E e CD (updD dn 8) (updV r 8 v) w2 := by
  have h11 : dn 11 = false := by
    cases e11 : dn 11 with
    | false => rfl
    | true => rw [h.o e11] at hd; cases hd
  have hh := h.dd
  rw [h11] at hh
  have hb := (h.a hd h5).block
  have hlt := h.lt
  have hS : ∀ x ∈ (r 5).ownBlock.toList, w.heap.size ≤ x := fun x hx => hb x (by simpa using hx)
  refine ⟨h.u.also u (fun x hx => .inr (hS x hx)), ?_, ?_, ?_, fun _ => by rw [ew_eq]; exact hv, ?_, fun _ => ?_, h.lt, by rw [eq_ne (by decide), eq_ne (by decide)]; exact h.o4⟩
  · rw [eq_ne (by decide), h11]; exact u.get hh (fun hx => by have := hS _ hx; omega)
  · intro hx; rw [eq_eq] at hx; cases hx
  · intro hx; rw [eq_eq] at hx; cases hx
  · intro _; exact eq_eq
  · rw [eq_ne (by decide), eq_ne (by decide)]; exact ⟨h5, h7⟩
theorem Ke.store (h : Ke w d E e CD dn r w1) (hd : dn 11 = false) (h8 : dn 8 = true) : Ke w d E e CD (updD dn 11) r (w1.setCell ⟨d, 2, none⟩ (r 8)) := by
  have hh := h.dd
  rw [hd] at hh
  have u := (Upd.refl [d] w1).setCell (p := ⟨d, 2, none⟩) (.inl (by simp)) (r 8)
  have hc := h.c h8
  have hb := hc.block
  have hlt := h.lt
  refine ⟨h.u.also u (fun x hx => .inl hx), by rw [eq_eq, if_pos rfl]; exact heap_set_same hh 2 _, ?_, ?_, ?_, ?_, ?_, h.lt, by rw [eq_ne (by decide), eq_ne (by decide)]; exact h.o4⟩
  · rw [eq_ne (by decide), h8]; intro hx; cases hx
  · rw [eq_ne (by decide), h8]; intro hx; cases hx
  · intro _; exact hc.keep u (fun g hg hm => by have := hb g hg; rw [List.mem_singleton.1 hm] at this; omega)
  · intro _; rw [eq_ne (by decide)]; exact h8
  · rw [eq_ne (by decide), eq_ne (by decide), eq_ne (by decide)]; exact h.o8
end
theorem hs_three {w : World} {x d rb : Nat} {ox od ob : Obj} (hx : w.heap[x]? = some ox) (hd : w.heap[d]? = some od) (hr : w.heap[rb]? = some ob) (n1 : x ≠ d) (n2 : x ≠ rb) (n3 : d ≠ rb) : Hs [rb, d, x] w [(x, ox), (d, od), (rb, ob)] w := by
  refine ⟨Upd.refl _ _, fun p hp => ?_, ?_, fun p hp => .inl ?_⟩
  · simp only [List.mem_cons, List.not_mem_nil, or_false] at hp
    rcases hp with rfl | rfl | rfl
    · exact hx
    · exact hd
    · exact hr
  · simp [n1, n2, n3]
  · simp only [List.mem_cons, List.not_mem_nil, or_false] at hp ⊢
    rcases hp with rfl | rfl | rfl <;> simp
theorem hs_two {w : World} {d rb : Nat} {od ob : Obj} (hd : w.heap[d]? = some od) (hr : w.heap[rb]? = some ob) (n3 : d ≠ rb) : Hs [rb, d] w [(d, od), (rb, ob)] w := by
  refine ⟨Upd.refl _ _, fun p hp => ?_, ?_, fun p hp => .inl ?_⟩
  · simp only [List.mem_cons, List.not_mem_nil, or_false] at hp
    rcases hp with rfl | rfl
    · exact hd
    · exact hr
  · simp [n3]
  · simp only [List.mem_cons, List.not_mem_nil, or_false] at hp ⊢
    rcases hp with rfl | rfl <;> simp
theorem hs_join {w w1 w2 : World} {x y z d rb : Nat} {ox oy oz od ob ox' od' ob' : Obj} (K : Hs [rb, d] w [(x, ox), (y, oy), (z, oz), (d, od), (rb, ob)] w1) (h : Hs [rb, d, x] w1 [(x, ox'), (d, od'), (rb, ob')] w2) : Hs [rb, d] w [(x, ox'), (y, oy), (z, oz), (d, od'), (rb, ob')] w2 := by
  have hs := K.s
  have hx := K.t (x, ox) (by simp)
  have hy := K.t (y, oy) (by simp)
  have hz := K.t (z, oz) (by simp)
  refine ⟨K.u.also h.u (fun q hq => ?_), fun p hp => ?_, ?_, fun p hp => ?_⟩
  · simp only [List.mem_cons, List.not_mem_nil, or_false] at hq
    rcases hq with rfl | rfl | rfl
    · exact .inl (by simp)
    · exact .inl (by simp)
    · exact hx
  · simp only [List.mem_cons, List.not_mem_nil, or_false] at hp
    rcases hp with rfl | rfl | rfl | rfl | rfl
    · exact h.get 0 rfl
    · exact h.u.get (K.get 1 rfl) (by
        have a1 := K.ne 1 0 rfl rfl (by decide)
        have a2 := K.ne 1 3 rfl rfl (by decide)
        have a3 := K.ne 1 4 rfl rfl (by decide)
        simp [a1, a2, a3])
    · exact h.u.get (K.get 2 rfl) (by
        have a1 := K.ne 2 0 rfl rfl (by decide)
        have a2 := K.ne 2 3 rfl rfl (by decide)
        have a3 := K.ne 2 4 rfl rfl (by decide)
        simp [a1, a2, a3])
    · exact h.get 1 rfl
    · exact h.get 2 rfl
  · simpa using hs
  · simp only [List.mem_cons, List.not_mem_nil, or_false] at hp
    rcases hp with rfl | rfl | rfl | rfl | rfl
    · exact hx
    · exact hy
    · exact hz
    · exact .inl (by simp)
    · exact .inl (by simp)
end Go.Proofs.Ytdgclmibbmofcaa

/-
  The document's calls that change pages: ferrymanref14.low, pages. No condition. Printed by gen_rcg.py.
-/
namespace Go.Proofs.Ytdgclmibbmofcaa
open Go Go.RowKit
set_option linter.unusedVariables false
set_option linter.unusedSimpArgs false

set_option maxRecDepth 100000 in
theorem low_any (n : Int) (hn : 0 ≤ n ∧ n < 1000) (w : World) : Calls Try.prog 39 #[.int .i64 n] w fun e w' => e = .returned (.int .u32 ((-n) % 4294967296)) ∧ Upd [] w w' := by
  have e1 : wrap64 (-n) = -n := by unfold wrap64; omega
  go_enter Try.func39, Try.ntmps39
  go_wp2_with fail
  go_ret
  exact ⟨by rfl, Upd.refl _ _⟩
section
variable (M : Mem) (a : Nat) (n b c d r : Int) (s : ByteArray) (w : World)
set_option maxRecDepth 100000 in
set_option maxHeartbeats 2000000 in
theorem rpch_bad (hM : IsRef w a M) (hb : 0 ≤ b) (h : chOk n b c d = false) :
    Calls Try.prog 38 #[.pointer (some ⟨a, 0, none⟩), .agg #[.int .u32 n, .int .u32 b, .int .u32 c, .int .u32 d, .int .u32 r, .string s]] w fun x w' => x = .returned (.int .u32 4294967274) ∧ IsRef w' a M ∧ Upd [a] w w' := by
  have HM := Lib.hid hM
  obtain ⟨q, hq⟩ : ∃ q, b % 256 = q := ⟨_, rfl⟩
  have e1 : b.tmod 256 = q := by rw [Int.tmod_eq_emod_of_nonneg hb]; exact hq
  unfold chOk at h
  rw [hq] at h
  clear hM hb hq
  by_cases h1 : q = 0
  · subst h1
    by_cases h2 : c ≤ 64
    · have h3 : ¬ n = 91 ∧ ¬ d ≤ 7 := by simpa [h2] using h
      have d1 : decide (64 < c) = false := by simp; omega
      have d2 : decide (7 < d) = true := by simp; omega
      have d3 : (n == 91) = false := by simp [h3.1]
      have d4 : (n != 91) = true := by simp [h3.1]
      clear h h2 h3
      go_enter Try.func38, Try.ntmps38
      go_wp2_with (go_at_call 39; refine (low_any 22 (by decide) _).mono ?_; rintro e w1 ⟨rfl, hu⟩; have HU := Lib.hid ((((Upd.refl [] w).alloc _).also hu (by simp))); clear hu)
      go_ret
      exact ⟨rfl, HM.out.keep HU.out (by simp), HU.out.mono (by simp)⟩
    · have d1 : decide (64 < c) = true := by simp; omega
      clear h h2
      go_enter Try.func38, Try.ntmps38
      go_wp2_with (go_at_call 39; refine (low_any 22 (by decide) _).mono ?_; rintro e w1 ⟨rfl, hu⟩; have HU := Lib.hid ((((Upd.refl [] w).alloc _).also hu (by simp))); clear hu)
      go_ret
      exact ⟨rfl, HM.out.keep HU.out (by simp), HU.out.mono (by simp)⟩
  · have d1 : (q == 0) = false := by simp [h1]
    have d2 : (q != 0) = true := by simp [h1]
    clear h h1
    go_enter Try.func38, Try.ntmps38
    go_wp2_with (go_at_call 39; refine (low_any 22 (by decide) _).mono ?_; rintro e w1 ⟨rfl, hu⟩; have HU := Lib.hid ((((Upd.refl [] w).alloc _).also hu (by simp))); clear hu)
    go_ret
    exact ⟨rfl, HM.out.keep HU.out (by simp), HU.out.mono (by simp)⟩
set_option maxRecDepth 100000 in
set_option maxHeartbeats 2000000 in
theorem rpch_91 (hM : IsRef w a M) (hb : 0 ≤ b ∧ b < 4294967296) (hc : 0 ≤ c ∧ c < 4294967296) (hd : 0 ≤ d ∧ d < 4294967296) (h : chOk n b c d = true) (hn : n = 91) :
    Calls Try.prog 38 #[.pointer (some ⟨a, 0, none⟩), .agg #[.int .u32 n, .int .u32 b, .int .u32 c, .int .u32 d, .int .u32 r, .string s]] w fun x w' => x = .returned (.int .u32 (chR M n b c d)) ∧ IsRef w' a (chM M n b c d) ∧ Upd [a] w w' := by
  have HM := Lib.hid hM
  have hbl : w.heap.size ≤ w.heap.size := Nat.le_refl _
  have hB : chR M n b c d = if M.unmapB (b / 256) c = true then 0 else 4294967274 := by unfold chR chB; rw [h, Bool.true_and, if_pos hn]
  have hMM : chM M n b c d = M.unmapM (b / 256) c := by unfold chM; rw [if_pos h, if_pos hn]
  rw [hB, hMM]
  unfold chOk at h
  simp only [Bool.and_eq_true, Bool.or_eq_true, decide_eq_true_eq] at h
  obtain ⟨⟨h1, h2⟩, h3⟩ := h
  have e1 : b.tmod 256 = 0 := by rw [Int.tmod_eq_emod_of_nonneg hb.1]; exact h1
  have d1 : decide (64 < c) = false := by simp; omega
  subst hn
  obtain ⟨y, hy⟩ : ∃ y, b / 256 = y := ⟨_, rfl⟩
  have e2 : b.tdiv 256 = y := by rw [Int.tdiv_eq_ediv_of_nonneg hb.1]; exact hy
  have e3 : wrap64 y = y := by unfold wrap64; omega
  have e6 : y % 4294967296 = y := by omega
  have e4 : wrap64 c = c := by unfold wrap64; omega
  have e5 : wrap64 d = d := by unfold wrap64; omega
  have HC := Lib.hid hc
  obtain ⟨z7, hz7⟩ : ∃ z, bits .and .u32 d 7 = z := ⟨_, rfl⟩
  rw [hy]
  clear hM hb hc hd h1 h2 h3 hy hB hMM
  generalize hk : M.unmapB y c = k
  have HK := Lib.hid hk
  clear hk
  cases k
  · go_enter Try.func38, Try.ntmps38
    go_upto_region 3 with fail
    go_quiet (fail)
    simp only [e4, e5, e6]
    go_wp2_with (first | (go_at_call 9; refine (Unmap_ref M a y c _ (HM.out.keep (Upd_drewN ((Upd.refl [] w).alloc _) _) (by simp)) (by have := HC.out; omega) (by have := HC.out; omega)).mono ?_; rintro e w1 ⟨rfl, hm, hu⟩; rw [HK.out]; unfold errI; simp only [Bool.false_eq_true, if_false, if_true]; have HU := Lib.hid (And.intro hm (((Upd_drewN ((Upd.refl [a] w).alloc _) _).also hu (by simp)))); clear hm hu) | (go_at_call 39; refine (low_any 22 (by decide) _).mono ?_; rintro e w2 ⟨rfl, hu2⟩; have HU2 := Lib.hid hu2; clear hu2))
    go_ret
    exact ⟨rfl, HU.out.1.keep HU2.out (by simp), HU.out.2.also HU2.out (by simp)⟩
  · go_enter Try.func38, Try.ntmps38
    go_upto_region 3 with fail
    go_quiet (fail)
    simp only [e4, e5, e6]
    go_wp2_with (go_at_call 9; refine (Unmap_ref M a y c _ (HM.out.keep (Upd_drewN ((Upd.refl [] w).alloc _) _) (by simp)) (by have := HC.out; omega) (by have := HC.out; omega)).mono ?_; rintro e w1 ⟨rfl, hm, hu⟩; rw [HK.out]; unfold errI; simp only [Bool.false_eq_true, if_false, if_true]; have HU := Lib.hid (And.intro hm (((Upd_drewN ((Upd.refl [a] w).alloc _) _).also hu (by simp)))); clear hm hu)
    go_ret
    exact ⟨rfl, HU.out.1, HU.out.2⟩
set_option maxRecDepth 100000 in
set_option maxHeartbeats 2000000 in
theorem rpch_125 (hM : IsRef w a M) (hb : 0 ≤ b ∧ b < 4294967296) (hc : 0 ≤ c ∧ c < 4294967296) (hd : 0 ≤ d ∧ d < 4294967296) (h : chOk n b c d = true) (hn : n = 125) :
    Calls Try.prog 38 #[.pointer (some ⟨a, 0, none⟩), .agg #[.int .u32 n, .int .u32 b, .int .u32 c, .int .u32 d, .int .u32 r, .string s]] w fun x w' => x = .returned (.int .u32 (chR M n b c d)) ∧ IsRef w' a (chM M n b c d) ∧ Upd [a] w w' := by
  have HM := Lib.hid hM
  have hbl : w.heap.size ≤ w.heap.size := Nat.le_refl _
  have hB : chR M n b c d = if M.protB (b / 256) c d = true then 0 else 4294967274 := by unfold chR chB; rw [h, Bool.true_and, if_neg (show ¬ n = 91 by omega), if_pos hn]
  have hMM : chM M n b c d = M.protM (b / 256) c d := by unfold chM; rw [if_pos h, if_neg (show ¬ n = 91 by omega), if_pos hn]
  rw [hB, hMM]
  unfold chOk at h
  simp only [Bool.and_eq_true, Bool.or_eq_true, decide_eq_true_eq] at h
  obtain ⟨⟨h1, h2⟩, h3⟩ := h
  have e1 : b.tmod 256 = 0 := by rw [Int.tmod_eq_emod_of_nonneg hb.1]; exact h1
  have d1 : decide (64 < c) = false := by simp; omega
  have d2 : decide (7 < d) = false := by simp; omega
  subst hn
  obtain ⟨y, hy⟩ : ∃ y, b / 256 = y := ⟨_, rfl⟩
  have e2 : b.tdiv 256 = y := by rw [Int.tdiv_eq_ediv_of_nonneg hb.1]; exact hy
  have e3 : wrap64 y = y := by unfold wrap64; omega
  have e6 : y % 4294967296 = y := by omega
  have e4 : wrap64 c = c := by unfold wrap64; omega
  have e5 : wrap64 d = d := by unfold wrap64; omega
  have HC := Lib.hid hc
  obtain ⟨z7, hz7⟩ : ∃ z, bits .and .u32 d 7 = z := ⟨_, rfl⟩
  have ez : z7 = d := by rw [← hz7]; have : d = 0 ∨ d = 1 ∨ d = 2 ∨ d = 3 ∨ d = 4 ∨ d = 5 ∨ d = 6 ∨ d = 7 := by omega
                         rcases this with rfl | rfl | rfl | rfl | rfl | rfl | rfl | rfl <;> decide +kernel
  rw [ez] at hz7
  clear ez
  rw [hy]
  clear hM hb hc hd h1 h2 h3 hy hB hMM
  generalize hk : M.protB y c d = k
  have HK := Lib.hid hk
  clear hk
  cases k
  · go_enter Try.func38, Try.ntmps38
    go_upto_region 3 with fail
    go_quiet (fail)
    simp only [e4, e5, e6]
    go_wp2_with (first | (go_at_call 10; refine (Protect_ref M a y c d _ (HM.out.keep (Upd_drewN ((Upd.refl [] w).alloc _) _) (by simp)) (by have := HC.out; omega) (by have := HC.out; omega)).mono ?_; rintro e w1 ⟨rfl, hm, hu⟩; rw [HK.out]; unfold errI; simp only [Bool.false_eq_true, if_false, if_true]; have HU := Lib.hid (And.intro hm (((Upd_drewN ((Upd.refl [a] w).alloc _) _).also hu (by simp)))); clear hm hu) | (go_at_call 39; refine (low_any 22 (by decide) _).mono ?_; rintro e w2 ⟨rfl, hu2⟩; have HU2 := Lib.hid hu2; clear hu2))
    go_ret
    exact ⟨rfl, HU.out.1.keep HU2.out (by simp), HU.out.2.also HU2.out (by simp)⟩
  · go_enter Try.func38, Try.ntmps38
    go_upto_region 3 with fail
    go_quiet (fail)
    simp only [e4, e5, e6]
    go_wp2_with (go_at_call 10; refine (Protect_ref M a y c d _ (HM.out.keep (Upd_drewN ((Upd.refl [] w).alloc _) _) (by simp)) (by have := HC.out; omega) (by have := HC.out; omega)).mono ?_; rintro e w1 ⟨rfl, hm, hu⟩; rw [HK.out]; unfold errI; simp only [Bool.false_eq_true, if_false, if_true]; have HU := Lib.hid (And.intro hm (((Upd_drewN ((Upd.refl [a] w).alloc _) _).also hu (by simp)))); clear hm hu)
    go_ret
    exact ⟨rfl, HU.out.1, HU.out.2⟩
set_option maxRecDepth 100000 in
set_option maxHeartbeats 2000000 in
theorem rpch_map (hM : IsRef w a M) (hb : 0 ≤ b ∧ b < 4294967296) (hc : 0 ≤ c ∧ c < 4294967296) (hd : 0 ≤ d ∧ d < 4294967296) (h : chOk n b c d = true) (hn : n ≠ 91 ∧ n ≠ 125) :
    Calls Try.prog 38 #[.pointer (some ⟨a, 0, none⟩), .agg #[.int .u32 n, .int .u32 b, .int .u32 c, .int .u32 d, .int .u32 r, .string s]] w fun x w' => x = .returned (.int .u32 (chR M n b c d)) ∧ IsRef w' a (chM M n b c d) ∧ Upd [a] w w' := by
  have HM := Lib.hid hM
  have hbl : w.heap.size ≤ w.heap.size := Nat.le_refl _
  have hB : chR M n b c d = if M.mapB (b / 256) c d = true then 0 else 4294967274 := by unfold chR chB; rw [h, Bool.true_and, if_neg hn.1, if_neg hn.2]
  have hMM : chM M n b c d = M.mapM (b / 256) c d := by unfold chM; rw [if_pos h, if_neg hn.1, if_neg hn.2]
  rw [hB, hMM]
  unfold chOk at h
  simp only [Bool.and_eq_true, Bool.or_eq_true, decide_eq_true_eq] at h
  obtain ⟨⟨h1, h2⟩, h3⟩ := h
  have e1 : b.tmod 256 = 0 := by rw [Int.tmod_eq_emod_of_nonneg hb.1]; exact h1
  have d1 : decide (64 < c) = false := by simp; omega
  have d2 : decide (7 < d) = false := by simp; omega
  have d3 : (n == 91) = false := by simp [hn.1]
  have d4 : (n != 91) = true := by simp [hn.1]
  have d5 : (n == 125) = false := by simp [hn.2]
  obtain ⟨y, hy⟩ : ∃ y, b / 256 = y := ⟨_, rfl⟩
  have e2 : b.tdiv 256 = y := by rw [Int.tdiv_eq_ediv_of_nonneg hb.1]; exact hy
  have e3 : wrap64 y = y := by unfold wrap64; omega
  have e6 : y % 4294967296 = y := by omega
  have e4 : wrap64 c = c := by unfold wrap64; omega
  have e5 : wrap64 d = d := by unfold wrap64; omega
  have HC := Lib.hid hc
  obtain ⟨z7, hz7⟩ : ∃ z, bits .and .u32 d 7 = z := ⟨_, rfl⟩
  have ez : z7 = d := by rw [← hz7]; have : d = 0 ∨ d = 1 ∨ d = 2 ∨ d = 3 ∨ d = 4 ∨ d = 5 ∨ d = 6 ∨ d = 7 := by omega
                         rcases this with rfl | rfl | rfl | rfl | rfl | rfl | rfl | rfl <;> decide +kernel
  rw [ez] at hz7
  clear ez
  rw [hy]
  clear hM hb hc hd h1 h2 h3 hy hB hMM
  generalize hk : M.mapB y c d = k
  have HK := Lib.hid hk
  clear hk
  cases k
  · go_enter Try.func38, Try.ntmps38
    go_upto_region 3 with fail
    go_quiet (fail)
    simp only [e4, e5, e6]
    go_wp2_with (first | (go_at_call 11; refine (Map_ref M a y c d _ (HM.out.keep (Upd_drewN ((Upd.refl [] w).alloc _) _) (by simp)) (by have := HC.out; omega) (by have := HC.out; omega)).mono ?_; rintro e w1 ⟨rfl, hm, hu⟩; rw [HK.out]; unfold errI; simp only [Bool.false_eq_true, if_false, if_true]; have HU := Lib.hid (And.intro hm (((Upd_drewN ((Upd.refl [a] w).alloc _) _).also hu (by simp)))); clear hm hu) | (go_at_call 39; refine (low_any 22 (by decide) _).mono ?_; rintro e w2 ⟨rfl, hu2⟩; have HU2 := Lib.hid hu2; clear hu2))
    go_ret
    exact ⟨rfl, HU.out.1.keep HU2.out (by simp), HU.out.2.also HU2.out (by simp)⟩
  · go_enter Try.func38, Try.ntmps38
    go_upto_region 3 with fail
    go_quiet (fail)
    simp only [e4, e5, e6]
    go_wp2_with (go_at_call 11; refine (Map_ref M a y c d _ (HM.out.keep (Upd_drewN ((Upd.refl [] w).alloc _) _) (by simp)) (by have := HC.out; omega) (by have := HC.out; omega)).mono ?_; rintro e w1 ⟨rfl, hm, hu⟩; rw [HK.out]; unfold errI; simp only [Bool.false_eq_true, if_false, if_true]; have HU := Lib.hid (And.intro hm (((Upd_drewN ((Upd.refl [a] w).alloc _) _).also hu (by simp)))); clear hm hu)
    go_ret
    exact ⟨rfl, HU.out.1, HU.out.2⟩
theorem rpchanges_any (hM : IsRef w a M) (hb : 0 ≤ b ∧ b < 4294967296) (hc : 0 ≤ c ∧ c < 4294967296) (hd : 0 ≤ d ∧ d < 4294967296) :
    Calls Try.prog 38 #[.pointer (some ⟨a, 0, none⟩), .agg #[.int .u32 n, .int .u32 b, .int .u32 c, .int .u32 d, .int .u32 r, .string s]] w fun x w' => x = .returned (.int .u32 (chR M n b c d)) ∧ IsRef w' a (chM M n b c d) ∧ Upd [a] w w' := by
  cases h : chOk n b c d
  · have h1 : chR M n b c d = 4294967274 := by unfold chR chB; rw [h, Bool.false_and]; rfl
    have h2 : chM M n b c d = M := by unfold chM; rw [h]; rfl
    rw [h1, h2]
    exact rpch_bad M a n b c d r s w hM hb.1 h
  · by_cases h1 : n = 91
    · exact rpch_91 M a n b c d r s w hM hb hc hd h h1
    · by_cases h2 : n = 125
      · exact rpch_125 M a n b c d r s w hM hb hc hd h h2
      · exact rpch_map M a n b c d r s w hM hb hc hd h ⟨h1, h2⟩
end
end Go.Proofs.Ytdgclmibbmofcaa
