/-
  The law PagePlays: the walk. No condition.
-/
import Derived.Test.YtncafchgdgmeaaaPyD
namespace Go.Proofs.Ytncafchgdgmeaaa
open Go Go.RowKit
set_option linter.unusedVariables false
set_option linter.unusedSimpArgs false

theorem Mem.same_self (M : Mem) : M.same M = true := by
  simp [Mem.same, Mem.samePage]

theorem by1_sl (w : World) (z : Int) (T : TypeId) : BySl (w.alloc (.cells #[.int .u8 z] T)) (.slice (some ⟨w.heap.size, 0, none⟩) 1 1) [z] w.heap.size := by
  refine .inr ⟨0, 1, _, T, (0, 0), rfl, heap_alloc_new _ _, fun i hi => ?_⟩
  have : i = 0 := by simpa using hi
  subst this
  rfl

theorem by1_ok (z : Int) (h0 : 0 ≤ z) (h1 : z ≤ 255) : ∀ i, 0 ≤ [z].getD i 0 ∧ [z].getD i 0 ≤ 255 := by
  intro i
  rcases i with _ | i
  · exact ⟨h0, h1⟩
  · simp

set_option maxRecDepth 100000 in
set_option maxHeartbeats 8000000 in
theorem PagePlays_walk (v : Value) (f : Nat → StepV) (n : Nat) (w : World) (hP : Plays w v f n) :
    Calls Try.prog 5 #[v] w fun e w' => e = .returned (.bool true) ∧ Upd [] w w' := by
  have hmo : Try.prog.follows .mixedOrders = true := by kernel_rfl
  obtain ⟨Z, hZ, hbuild⟩ := run_build_ref
  have HZ := Lib.hid hZ
  have HBu := Lib.hid hbuild
  have HP := Lib.hid hP
  have hvf : ∃ b c, v = .slice b n c := by
    rcases hP.form with ⟨a, c, h1, h2⟩ | ⟨g, o, c, h1, _⟩
    · exact ⟨a, c, by rw [h1, h2]⟩
    · exact ⟨_, c, h1⟩
  obtain ⟨vb, vc, rfl⟩ := hvf
  have hlen := hP.len
  unfold maxLen at hlen
  have tok1 : True := trivial
  have tok2 : True := trivial
  have tok3 : True := trivial
  clear hP hZ hbuild
  by_cases h30 : 30 < n
  · have hd : decide (30 < (n : Int)) = true := by simp; omega
    clear h30 hlen
    go_enter Try.func5, Try.ntmps5
    go_wp2_with (go_at_call 14; refine (known_any _).mono ?_; rintro e w1 ⟨rfl, hu⟩; have U1 := Lib.hid hu; clear hu)
    go_ret
    exact ⟨rfl, U1.out⟩
  · have hd : decide (30 < (n : Int)) = false := by simp; omega
    clear h30
    go_enter Try.func5, Try.ntmps5
    go_wp2_with (first | (go_at_call 14; refine (known_any _).mono ?_; rintro e w1 ⟨rfl, hu⟩; have U1 := Lib.hid hu; clear hu) | (go_at_call 15; refine (New_any _).mono ?_; rintro e w2 ⟨a, pb, rfl, ha, hp, hm, hu⟩; have M2 := Lib.hid hm; have U2 := Lib.hid (U1.out.also hu (by simp)); have A2 := Lib.hid (And.intro (Nat.le_trans U1.out.size ha) (Nat.le_trans U1.out.size hp)); clear hm hu ha hp) | (refine wpList_build rfl 52 [] rfl [] rfl (.agg Z) (HBu.out _) ?_))
    have hal := M2.out.al
    go_loopw [5, 6] (fun i _ wr => ∃ k : Nat, k ≤ n ∧ i = .int .i64 k ∧ ∃ M qb, w.heap.size ≤ qb ∧ IsMem wr a qb M ∧ IsRef wr w2.heap.size M ∧ Upd [] w wr) (fun i _ _ => n - (intOf i).toNat)
    case atStart => exact ⟨0, Nat.zero_le _, rfl, Mem.zero, pb, A2.out.2, M2.out.keep ((Upd.refl [] _).alloc _) (by simp) (by simp), IsRef.new HZ.out Mem.zero_ok, U2.out.alloc _⟩
    case round =>
      obtain ⟨k, hk, rfl, M, qb, hqb, hm, hr, hu⟩ := hrel
      have HM := Lib.hid hm
      have HR := Lib.hid hr
      have HU := Lib.hid hu
      have HQ := Lib.hid hqb
      have HW2 := Lib.hid (show w.heap.size ≤ w2.heap.size from U2.out.size)
      clear hm hr hu hqb
      by_cases hlt : k < n
      · obtain ⟨s, hs⟩ : ∃ s, f k = s := ⟨_, rfl⟩
        have hd2 : decide ((k : Int) < n) = true := by simp; omega
        have hG := HP.out.good k hlt
        rw [hs] at hG
        obtain ⟨b1, e1, f1⟩ := hG.bf
        obtain ⟨b2, e2, f2⟩ := hG.sf
        have HG := Lib.hid hG
        have HF1 := Lib.hid f1
        have HF2 := Lib.hid f2
        obtain ⟨g, o, rfl, hcell⟩ : ∃ g o, vb = some ⟨g, o, none⟩ ∧ ∀ w1, Upd [] w w1 → w1.cell? ⟨g, o + k * 9, none⟩ = some (.int .i64 s.wt) ∧ w1.cell? ⟨g, o + k * 9 + 1, none⟩ = some (.int .i64 s.pg) ∧ w1.cell? ⟨g, o + k * 9 + 2, none⟩ = some (.int .i64 s.ct) ∧ w1.cell? ⟨g, o + k * 9 + 3, none⟩ = some (.int .i64 s.rt) ∧ w1.cell? ⟨g, o + k * 9 + 4, none⟩ = some (.int .i64 s.nb) ∧ w1.cell? ⟨g, o + k * 9 + 5, none⟩ = some (.int .u32 s.at_) ∧ w1.cell? ⟨g, o + k * 9 + 6, none⟩ = some (.int .u32 s.v) ∧ w1.cell? ⟨g, o + k * 9 + 7, none⟩ = some (.slice b1 s.B.length e1) ∧ w1.cell? ⟨g, o + k * 9 + 8, none⟩ = some (.slice b2 s.S.length e2) := by
          rcases HP.out.form with ⟨a', c, h1, h2⟩ | ⟨g, o, c, h1, h2, h3⟩
          · omega
          · injection h1 with h1 _ _
            refine ⟨g, o, h1, fun w1 hu => ?_⟩
            have e : ∀ j, w1.cell? ⟨g, j, none⟩ = w.cell? ⟨g, j, none⟩ := fun j => by
              simp only [World.cell?]; rw [hu.block g h2 (by simp)]
            have h4 := h3 k hlt
            rw [hs] at h4
            rw [← f1, ← f2]
            simp only [e]
            exact ⟨h4 0 (by decide), h4 1 (by decide), h4 2 (by decide), h4 3 (by decide), h4 4 (by decide), h4 5 (by decide), h4 6 (by decide), h4 7 (by decide), h4 8 (by decide)⟩
        have HCell := Lib.hid hcell
        obtain ⟨c0, c1, c2, c3, c4, c5, c6, c7, c8⟩ := hcell wr HU.out
        clear hcell hs hG f1 f2
        by_cases hB : 100 < s.B.length
        · have hb : decide (100 < (s.B.length : Int)) = true := by simp; omega
          clear hB
          go_wp2_with fail
          go_ret
          exact ⟨rfl, HU.out⟩
        · have hb : decide (100 < (s.B.length : Int)) = false := by simp; omega
          by_cases hS : 8 < s.S.length
          · have hb2 : decide (8 < (s.S.length : Int)) = true := by simp; omega
            clear hB hS
            go_wp2_with fail
            go_ret
            exact ⟨rfl, HU.out⟩
          · have hb2 : decide (8 < (s.S.length : Int)) = false := by simp; omega
            have HBl := Lib.hid (show s.B.length ≤ 16384 by omega)
            have hS8 : s.S.length ≤ 8 := by omega
            clear hB hS
            go_wp2_with fail
            go_loop [6] (fun i => ∃ j : Nat, j ≤ s.S.length ∧ i = .int .i64 j) (fun i => s.S.length - (intOf i).toNat)
            case atStart => exact ⟨0, Nat.zero_le _, rfl⟩
            case round =>
              obtain ⟨j, hj, rfl⟩ := hrel
              by_cases hjl : j < s.S.length
              · have hdj : decide ((j : Int) < s.S.length) = true := by simp; omega
                have hsp := (HG.out.keep HU.out).sa.sp
                rw [HF2.out] at hsp
                obtain ⟨q, hq⟩ : ∃ q, s.S[j]? = some q := ⟨_, List.getElem?_eq_getElem hjl⟩
                obtain ⟨og, oo, rfl, cs⟩ : ∃ og oo, b2 = some ⟨og, oo, none⟩ ∧ wr.cell? ⟨og, oo + j * 4 + 3, none⟩ = some (.string q.by_) := by
                  rcases hsp with ⟨_, _, hv, hnil⟩ | ⟨oo, _, hv, _, _, h⟩
                  · rw [hnil] at hjl; simp at hjl
                  · injection hv with hv _ _
                    exact ⟨_, oo, hv, (h j q hq).2.2.2⟩
                clear hsp hq
                by_cases hz : 2000 < q.by_.size
                · have hz1 : decide (2000 < (q.by_.size : Int)) = true := by simp; omega
                  clear hz
                  go_wp2_with fail
                  go_ret
                  exact ⟨rfl, HU.out⟩
                · have hz1 : decide (2000 < (q.by_.size : Int)) = false := by simp; omega
                  clear hz
                  go_wp2_with fail
                  go_round
                  case rel => exact ⟨j + 1, by omega, by go_num⟩
                  case measure => simp [intOf]; omega
              · have hdj : decide ((j : Int) < s.S.length) = false := by simp; omega
                clear hj
                obtain ⟨N, hN⟩ : ∃ N, M.stepM s = N := ⟨_, rfl⟩
                have HN := Lib.hid hN
                obtain ⟨T, hT⟩ : ∃ T, strOfNums (N.peek s.at_ s.nb) = T := ⟨_, rfl⟩
                have HT := Lib.hid hT
                have HD := Lib.hid (And.intro A2.out.1 (And.intro HW2.out (show w2.heap.size ≠ a by omega)))
                clear hN hT
                go_wp2_with fail
                clear hdj hjl
                refine wp_drawE 43 (PwB w a w2.heap.size M N (N.peek s.at_ s.nb)) (fun _ _ => False) (by kernel_rfl) (by kernel_rfl) (fun r0 => ⟨⟨qb, HQ.out, HM.out.drew⟩, HR.out.drew, HU.out.drew, by simp, by simp, by simp, HD.out⟩) (fun _ _ _ h => h.elim) ?_
                simp only [List.take_succ_cons, List.take_zero, List.drop_succ_cons, List.drop_zero]
                iterate 6
                    apply headE_val0 rfl rfl
                    · intro d r0 K hd hdep hK w1 hB1
                      obtain ⟨c0, c1, c2, c3, c4, c5, c6, c7, c8⟩ := HCell.out w1 hB1.u
                      have HB1 := Lib.hid hB1
                      clear hB1 hdep
                      go_wp2_with fail
                      first
                      | exact hK _ (HB1.out.same _ (by decide))
                      | exact HB1.out.same _ (by decide)
                    · exact ⟨_, rfl⟩
                apply headE_val0 rfl rfl
                · intro d r0 K hd hdep hK w1 hB1
                  obtain ⟨q1, hq1, hm1⟩ := hB1.m
                  have hr1 := hB1.f
                  have hd6 : d 6 = false := hd
                  rw [hd6] at hm1 hr1
                  have hm2 : IsMem w1 a q1 M := hm1
                  have hr2 : IsRef w1 w2.heap.size M := hr1
                  have hne : w2.heap.size ≠ q1 := by
                    intro e
                    obtain ⟨D1, _, h1⟩ := hm2.pg
                    obtain ⟨D2, _, h2⟩ := hr2.ex
                    rw [e, h1] at h2
                    injection h2 with h2
                    injection h2 with _ h2 _
                    exact absurd h2 (by decide)
                  have hst := py_args (W := w) (w1 := w1) HG.out (a := a) (pb := q1) (rr := w2.heap.size) ⟨HD.out.1, hq1, HD.out.2.1⟩
                  have hpy := py_any M s a q1 w2.heap.size w1 hm2 hr2 ⟨HD.out.2.2, hne⟩ (HG.out.keep hB1.u) hst.1 hst.2 HBl.out
                  rw [HF1.out, HF2.out, HN.out] at hpy
                  have HPy := Lib.hid hpy
                  have HB1 := Lib.hid hB1
                  have HQ1 := Lib.hid hq1
                  clear hB1 hdep hm1 hr1 hm2 hr2 hne hst hpy hq1
                  go_wp2_with fail
                  refine HPy.out.mono ?_
                  rintro e w3 ⟨rfl, he⟩
                  exact hK _ (HB1.out.step hd HQ1.out he)
                · exact ⟨_, rfl⟩
                iterate 4
                    apply headE_val0 rfl rfl
                    · intro d r0 K hd hdep hK w1 hB1
                      obtain ⟨c0, c1, c2, c3, c4, c5, c6, c7, c8⟩ := HCell.out w1 hB1.u
                      have h6 : d 6 = true := by first | (refine hdep ⟨6, .data⟩ ?_ rfl; simp; done) | (refine hB1.o 7 (by decide) (hdep ⟨7, .data⟩ ?_ rfl); simp; done) | (refine hB1.o 8 (by decide) (hdep ⟨8, .guard⟩ ?_ rfl); simp; done) | (refine hB1.o 8 (by decide) (hdep ⟨8, .data⟩ ?_ rfl); simp; done) | (refine hB1.o 13 (by decide) (hdep ⟨13, .data⟩ ?_ rfl); simp; done) | (refine hB1.o 14 (by decide) (hdep ⟨14, .guard⟩ ?_ rfl); simp; done) | (refine hB1.o 14 (by decide) (hdep ⟨14, .data⟩ ?_ rfl); simp; done) | (refine hB1.o 41 (by decide) (hdep ⟨41, .data⟩ ?_ rfl); simp; done) | (refine hB1.o 12 (by decide) (hdep ⟨12, .data⟩ ?_ rfl); simp; done)
                      have HB1 := Lib.hid hB1
                      clear hB1 hdep
                      go_wp2_with fail
                      first
                      | exact hK _ (HB1.out.same1 h6 _ (by decide) (by decide) (by decide))
                      | exact HB1.out.same1 h6 _ (by decide) (by decide) (by decide)
                    · exact ⟨_, rfl⟩
                apply headE_val0 rfl rfl
                · intro d r0 K hd hdep hK w1 hB1
                  have h6 : d 6 = true := hB1.o 8 (by decide) (hdep ⟨8, .guard⟩ (by simp) rfl)
                  obtain ⟨q1, hq1, hm1⟩ := hB1.m
                  have hr1 := hB1.f
                  rw [h6] at hm1 hr1
                  have hm2 : IsMem w1 a q1 N := hm1
                  have hr2 : IsRef w1 w2.heap.size N := hr1
                  have HM2 := Lib.hid hm2
                  have HR2 := Lib.hid hr2
                  have HB1 := Lib.hid hB1
                  clear hB1 hdep hm1 hr1 hm2 hr2 hq1
                  go_wp2_with fail
                  refine (alike6_any N a q1 w2.heap.size _ HM2.out HR2.out).mono ?_
                  rintro e w3 ⟨rfl, hu⟩
                  exact hK _ (HB1.out.alike h6 hu)
                · exact ⟨_, rfl⟩
                iterate 14
                    apply headE_val0 rfl rfl
                    · intro d r0 K hd hdep hK w1 hB1
                      obtain ⟨c0, c1, c2, c3, c4, c5, c6, c7, c8⟩ := HCell.out w1 hB1.u
                      have h6 : d 6 = true := by first | (refine hdep ⟨6, .data⟩ ?_ rfl; simp; done) | (refine hB1.o 7 (by decide) (hdep ⟨7, .data⟩ ?_ rfl); simp; done) | (refine hB1.o 8 (by decide) (hdep ⟨8, .guard⟩ ?_ rfl); simp; done) | (refine hB1.o 8 (by decide) (hdep ⟨8, .data⟩ ?_ rfl); simp; done) | (refine hB1.o 13 (by decide) (hdep ⟨13, .data⟩ ?_ rfl); simp; done) | (refine hB1.o 14 (by decide) (hdep ⟨14, .guard⟩ ?_ rfl); simp; done) | (refine hB1.o 14 (by decide) (hdep ⟨14, .data⟩ ?_ rfl); simp; done) | (refine hB1.o 41 (by decide) (hdep ⟨41, .data⟩ ?_ rfl); simp; done) | (refine hB1.o 12 (by decide) (hdep ⟨12, .data⟩ ?_ rfl); simp; done)
                      have HB1 := Lib.hid hB1
                      clear hB1 hdep
                      go_wp2_with fail
                      first
                      | exact hK _ (HB1.out.same1 h6 _ (by decide) (by decide) (by decide))
                      | exact HB1.out.same1 h6 _ (by decide) (by decide) (by decide)
                    · exact ⟨_, rfl⟩
                refine headE_freeD rfl (fun _ => rfl) 85 rfl (by simp [Act.put]) ?_ ?_
                · intro d r0 K hd hdep w1 hB1 hK
                  have h6 : d 6 = true := hB1.o 14 (by decide) (hdep ⟨14, .guard⟩ (by simp) rfl)
                  obtain ⟨q1, hq1, hm1⟩ := hB1.m
                  rw [h6] at hm1
                  have hm2 : IsMem w1 a q1 N := hm1
                  obtain ⟨c0, c1, c2, c3, c4, c5, c6, c7, c8⟩ := HCell.out w1 hB1.u
                  have HM2 := Lib.hid hm2
                  have HB1 := Lib.hid hB1
                  clear hB1 hm1 hm2 hq1 hdep
                  simp only [fillE]
                  go_wp2_with fail
                  refine (Peek_any N a q1 s.at_ s.nb _ HM2.out HG.out.at_.1 HG.out.at_.2 HG.out.nb.1 HG.out.nb.2).mono ?_
                  rintro e w3 ⟨v, rfl, ho, hu⟩
                  exact hK v w3 (HB1.out.putP h6 hu (own_bysl ho))
                apply headE_val rfl (fun _ => rfl)
                · intro d r0 K hd hdep hK w1 hB1
                  have h26 : d 26 = true := hdep ⟨26, .data⟩ (by simp) rfl
                  have h6 : d 6 = true := hB1.o 26 (by decide) h26
                  obtain ⟨g3, hg⟩ := hB1.p h26
                  have hcv := bysl_string hg
                  rw [HT.out] at hcv
                  have HB1 := Lib.hid hB1
                  clear hB1 hdep hg
                  show Oper.wp _ _ (Act.put (fillE _ _ [] _) (some 85) (r0 26)) _ _ _
                  simp only [fillE]
                  go_wp2_with fail
                  first
                  | exact hK _ (HB1.out.same1 h6 _ (by decide) (by decide) (by decide))
                  | exact HB1.out.same1 h6 _ (by decide) (by decide) (by decide)
                · exact ⟨_, fun _ => rfl, Eq.symm (by go_simp; exact rfl)⟩
                iterate 11
                    apply headE_val rfl (fun _ => rfl)
                    · intro d r0 K hd hdep hK w1 hB1
                      obtain ⟨c0, c1, c2, c3, c4, c5, c6, c7, c8⟩ := HCell.out w1 hB1.u
                      have h6 : d 6 = true := by first | (refine hdep ⟨6, .data⟩ ?_ rfl; simp; done) | (refine hB1.o 7 (by decide) (hdep ⟨7, .data⟩ ?_ rfl); simp; done) | (refine hB1.o 8 (by decide) (hdep ⟨8, .guard⟩ ?_ rfl); simp; done) | (refine hB1.o 8 (by decide) (hdep ⟨8, .data⟩ ?_ rfl); simp; done) | (refine hB1.o 13 (by decide) (hdep ⟨13, .data⟩ ?_ rfl); simp; done) | (refine hB1.o 14 (by decide) (hdep ⟨14, .guard⟩ ?_ rfl); simp; done) | (refine hB1.o 14 (by decide) (hdep ⟨14, .data⟩ ?_ rfl); simp; done) | (refine hB1.o 41 (by decide) (hdep ⟨41, .data⟩ ?_ rfl); simp; done) | (refine hB1.o 12 (by decide) (hdep ⟨12, .data⟩ ?_ rfl); simp; done)
                      have HB1 := Lib.hid hB1
                      clear hB1 hdep
                      show Oper.wp _ _ (Act.put (fillE _ _ [] _) (some 85) (r0 26)) _ _ _
                      simp only [fillE]
                      go_wp2_with fail
                      first
                      | exact hK _ (HB1.out.same1 h6 _ (by decide) (by decide) (by decide))
                      | exact HB1.out.same1 h6 _ (by decide) (by decide) (by decide)
                    · exact ⟨_, fun _ => rfl, Eq.symm (by go_simp; exact rfl)⟩
                refine headE_freeD rfl (fun _ => rfl) 98 rfl (by simp [Act.put]) ?_ ?_
                · intro d r0 K hd hdep w1 hB1 hK
                  have h6 : d 6 = true := hB1.o 14 (by decide) (hdep ⟨14, .guard⟩ (by simp) rfl)
                  have hr1 := hB1.f
                  rw [h6] at hr1
                  have hr2 : IsRef w1 w2.heap.size N := hr1
                  have HR2 := Lib.hid hr2
                  have HB1 := Lib.hid hB1
                  clear hB1 hr1 hr2 hdep
                  show Oper.wp _ _ (Act.put (fillE _ _ [] _) (some 85) (r0 26)) _ _ _
                  simp only [fillE]
                  go_wp2_with fail
                  refine (Peek_ref N w2.heap.size s.at_ s.nb _ HR2.out HG.out.at_.1 HG.out.at_.2).mono ?_
                  rintro e w3 ⟨v, rfl, ho, hu⟩
                  exact hK v w3 (HB1.out.putQ h6 hu (own_bysl ho))
                apply headE_val rfl (fun _ => rfl)
                · intro d r0 K hd hdep hK w1 hB1
                  have h39 : d 39 = true := hdep ⟨39, .data⟩ (by simp) rfl
                  have h6 : d 6 = true := hB1.o 39 (by decide) h39
                  obtain ⟨g3, hg⟩ := hB1.q h39
                  have hcv := bysl_string hg
                  rw [HT.out] at hcv
                  have HB1 := Lib.hid hB1
                  clear hB1 hdep hg
                  show Oper.wp _ _ (Act.put (Act.put (fillE _ _ [] _) (some 85) (r0 26)) (some 98) (r0 39)) _ _ _
                  simp only [fillE]
                  go_wp2_with fail
                  first
                  | exact hK _ (HB1.out.same1 h6 _ (by decide) (by decide) (by decide))
                  | exact HB1.out.same1 h6 _ (by decide) (by decide) (by decide)
                · exact ⟨_, fun _ => rfl, Eq.symm (by go_simp; exact rfl)⟩
                iterate 2
                    apply headE_val rfl (fun _ => rfl)
                    · intro d r0 K hd hdep hK w1 hB1
                      obtain ⟨c0, c1, c2, c3, c4, c5, c6, c7, c8⟩ := HCell.out w1 hB1.u
                      have h6 : d 6 = true := by first | (refine hdep ⟨6, .data⟩ ?_ rfl; simp; done) | (refine hB1.o 7 (by decide) (hdep ⟨7, .data⟩ ?_ rfl); simp; done) | (refine hB1.o 8 (by decide) (hdep ⟨8, .guard⟩ ?_ rfl); simp; done) | (refine hB1.o 8 (by decide) (hdep ⟨8, .data⟩ ?_ rfl); simp; done) | (refine hB1.o 13 (by decide) (hdep ⟨13, .data⟩ ?_ rfl); simp; done) | (refine hB1.o 14 (by decide) (hdep ⟨14, .guard⟩ ?_ rfl); simp; done) | (refine hB1.o 14 (by decide) (hdep ⟨14, .data⟩ ?_ rfl); simp; done) | (refine hB1.o 41 (by decide) (hdep ⟨41, .data⟩ ?_ rfl); simp; done) | (refine hB1.o 12 (by decide) (hdep ⟨12, .data⟩ ?_ rfl); simp; done)
                      have HB1 := Lib.hid hB1
                      clear hB1 hdep
                      show Oper.wp _ _ (Act.put (Act.put (fillE _ _ [] _) (some 85) (r0 26)) (some 98) (r0 39)) _ _ _
                      simp only [fillE]
                      go_wp2_with fail
                      first
                      | exact hK _ (HB1.out.same1 h6 _ (by decide) (by decide) (by decide))
                      | exact HB1.out.same1 h6 _ (by decide) (by decide) (by decide)
                    · exact ⟨_, fun _ => rfl, Eq.symm (by go_simp; exact rfl)⟩
                refine headE_nil (fun _ r0 w1 d hall hB1 => ?_)
                show wpList _ _ _ _ (Act.put (Act.put (fillE _ _ [] _) (some 85) (r0 26)) (some 98) (r0 39)) _
                simp only [fillE]
                obtain ⟨q1, hq1, hm1⟩ := hB1.m
                have hr1 := hB1.f
                rw [hall 6 (by decide)] at hm1 hr1
                have HE := Lib.hid (show ∃ M qb, w.heap.size ≤ qb ∧ IsMem w1 a qb M ∧ IsRef w1 w2.heap.size M ∧ Upd [] w w1 from ⟨N, q1, hq1, hm1, hr1, hB1.u⟩)
                clear hB1 hall hm1 hr1 hq1
                go_wp2_with fail
                go_roundw
                case rel => exact ⟨k + 1, by omega, by go_num, HE.out⟩
                case measure => simp [intOf]; omega
      · have hd2 : decide ((k : Int) < n) = false := by simp; omega
        have HSame := Lib.hid (Mem.same_self M)
        go_wp2_with (first | (have _t := tok1; clear _t; go_at_call 17; refine (Copy_any M a qb _ HM.out).mono ?_; rintro e w5 ⟨c, cb, rfl, hc, hcb, hm, hu⟩; have M5 := Lib.hid (HM.out.keep hu (by simp) (by simp)); have C5 := Lib.hid hm; have N5 := Lib.hid (And.intro hc hcb); have R5 := Lib.hid (HR.out.keep hu (by simp)); have U5 := Lib.hid (HU.out.also hu (by simp)); clear hm hu hc hcb tok1) | (have _t := tok2; clear _t; go_at_call 19; refine (Same_any M M a c qb cb _ M5.out C5.out).mono ?_; rintro e w6 ⟨rfl, hu⟩; rw [HSame.out]; have M6 := Lib.hid (M5.out.keep hu (by simp) (by simp)); have C6 := Lib.hid (C5.out.keep hu (by simp) (by simp)); have R6 := Lib.hid (R5.out.keep hu (by simp)); have U6 := Lib.hid (U5.out.also hu (by simp)); clear hu tok2) | (have _t := M6; clear _t; go_at_call 19; refine (Same_any M M c a cb qb _ C6.out M6.out).mono ?_; rintro e w7 ⟨rfl, hu⟩; rw [HSame.out]; have M7 := Lib.hid (M6.out.keep hu (by simp) (by simp)); have C7 := Lib.hid (C6.out.keep hu (by simp) (by simp)); have R7 := Lib.hid (R6.out.keep hu (by simp)); have U7 := Lib.hid (U6.out.also hu (by simp)); have D := Lib.hid (show w.heap.size ≤ cb ∧ cb ≠ a ∧ cb ≠ qb ∧ cb ≠ w2.heap.size by (have n5 := N5.out; have h1 := HM.out.al; have h2 := HM.out.pl; have h3 := HR.out.lt; have h4 := HU.out.size; omega)); clear hu) | (have _t := M7; clear _t; go_at_call 16; refine (Map_any M c cb 60 4 7 _ C7.out (by decide)).mono ?_; rintro e w8 ⟨rfl, hm, hu⟩; have C8 := Lib.hid hm; have M8 := Lib.hid (M7.out.keep hu (by simpa using D.out.2.1.symm) (by simpa using D.out.2.2.1.symm)); have R8 := Lib.hid (R7.out.keep hu (by simpa using D.out.2.2.2.symm)); have U8 := Lib.hid (U7.out.also hu (by simpa using D.out.1)); clear hu hm) | (have _t := M8; clear _t; go_at_call 27; refine (Unmap_any _ c cb 60 1 _ C8.out (by decide)).mono ?_; rintro e w9 ⟨rfl, hm, hu⟩; have C9 := Lib.hid hm; have M9 := Lib.hid (M8.out.keep hu (by simpa using D.out.2.1.symm) (by simpa using D.out.2.2.1.symm)); have R9 := Lib.hid (R8.out.keep hu (by simpa using D.out.2.2.2.symm)); have U9 := Lib.hid (U8.out.also hu (by simpa using D.out.1)); clear hu hm) | (have _t := M9; clear _t; go_at_call 28; refine (Poke_any _ c cb 0 _ [99] w9.heap.size _ (C9.out.keep ((Upd.refl [] _).alloc _) (by simp) (by simp)) (by decide) (by decide) (by1_sl w9 99 _) (by have := C9.out.pl; omega) (by1_ok 99 (by decide) (by decide)) (by unfold maxLen; decide)).mono ?_; rintro e w10 ⟨rfl, hm, hu⟩; have M10 := Lib.hid ((M9.out.keep ((Upd.refl [] _).alloc _) (by simp) (by simp)).keep hu (by simpa using D.out.2.1.symm) (by simpa using D.out.2.2.1.symm)); have R10 := Lib.hid ((R9.out.keep ((Upd.refl [] _).alloc _) (by simp)).keep hu (by simpa using D.out.2.2.2.symm)); have U10 := Lib.hid ((U9.out.alloc _).also hu (by simpa using D.out.1)); clear hu hm) | (have _t := M10; clear _t; go_at_call 25; refine (alike6_any M a qb w2.heap.size _ M10.out R10.out).mono ?_; rintro e w11 ⟨rfl, hu⟩; have U11 := Lib.hid (U10.out.also hu (by simp)); clear hu))
        go_ret
        exact ⟨rfl, U11.out⟩

end Go.Proofs.Ytncafchgdgmeaaa
