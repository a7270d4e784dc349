/-
  The law PagePlays: one step, by its contract. No condition.
-/
import Derived.Test.YtncafchgdgmeaaaPyB
import Derived.Test.YtncafchgdgmeaaaDraw3
import Derived.Test.YtncafchgdgmeaaaRfH
namespace Go.Proofs.Ytncafchgdgmeaaa
open Go Go.RowKit
set_option linter.unusedVariables false
set_option linter.unusedSimpArgs false

structure PyS (w0 : World) (a pb rr : Nat) (M M' : Mem) (C : Array Value) (i1 i2 : Nat) (d : Nat → Bool) (w : World) : Prop where
  m : ∃ qb, (qb = pb ∨ w0.heap.size ≤ qb) ∧ IsMem w a qb (if d i1 then M' else M)
  r : IsRef w rr (if d i2 then M' else M)
  x : w.heap[w0.heap.size]? = some (.cells C 54 (0, 0))
  u : Upd [a, pb, rr] w0 w
  n : a < w0.heap.size ∧ pb < w0.heap.size ∧ rr < w0.heap.size ∧ rr ≠ a ∧ rr ≠ pb

section
variable {w0 w w' : World} {a pb rr i1 i2 : Nat} {M M' : Mem} {C : Array Value} {d : Nat → Bool}
theorem PyS.same (h : PyS w0 a pb rr M M' C i1 i2 d w) (i : Nat) (h1 : i ≠ i1) (h2 : i ≠ i2) : PyS w0 a pb rr M M' C i1 i2 (updD d i) w :=
  ⟨by simpa [updD, h1.symm] using h.m, by simpa [updD, h2.symm] using h.r, h.x, h.u, h.n⟩

theorem PyS.ne (h : PyS w0 a pb rr M M' C i1 i2 d w) {qb : Nat} {N : Mem} (hm : IsMem w a qb N) : qb ≠ rr ∧ qb ≠ w0.heap.size := by
  obtain ⟨D, _, hD⟩ := hm.pg
  obtain ⟨E, _, hE⟩ := h.r.ex
  constructor
  · rintro rfl
    rw [hD] at hE
    injection hE with hE
    injection hE with _ hE _
    exact absurd hE (by decide)
  · intro e
    have hx := h.x
    rw [← e, hD] at hx
    injection hx with hx
    injection hx with _ hx _
    exact absurd hx (by decide)

theorem PyS.doM (h : PyS w0 a pb rr M M' C i1 i2 d w) (hne : i1 ≠ i2) {qb qb' : Nat} {N : Mem} {S : List Nat} (hm : IsMem w a qb N) (hq : qb = pb ∨ w0.heap.size ≤ qb) (hq' : qb' = qb ∨ w.heap.size ≤ qb') (hS : ∀ x, x ∈ S → x = a ∨ x = qb) (hm' : IsMem w' a qb' M') (u : Upd S w w') :
    PyS w0 a pb rr M M' C i1 i2 (updD d i1) w' := by
  obtain ⟨n1, n2, n3, n4, n5⟩ := h.n
  have e := h.ne hm
  have hsz := h.u.size
  refine ⟨⟨qb', ?_, by simpa [updD] using hm'⟩, ?_, u.get h.x (fun hh => ?_), h.u.trans u (fun _ h => h) (fun x hx => ?_), h.n⟩
  · rcases hq' with rfl | hq'
    · exact hq
    · exact .inr (by omega)
  · have := h.r.keep u (fun hh => by rcases hS _ hh with e1 | e1; exact n4 e1; exact e.1 e1.symm)
    simpa [updD, hne.symm] using this
  · rcases hS _ hh with e1 | e1
    · omega
    · exact e.2 e1.symm
  · rcases hS _ hx with rfl | rfl
    · exact .inl (by simp)
    · rcases hq with rfl | hq
      · exact .inl (by simp)
      · exact .inr hq

theorem PyS.doR (h : PyS w0 a pb rr M M' C i1 i2 d w) (hne : i1 ≠ i2) (hr' : IsRef w' rr M') (u : Upd [rr] w w') : PyS w0 a pb rr M M' C i1 i2 (updD d i2) w' := by
  obtain ⟨n1, n2, n3, n4, n5⟩ := h.n
  obtain ⟨qb, hq, hm⟩ := h.m
  have e := h.ne hm
  refine ⟨⟨qb, hq, ?_⟩, by simpa [updD] using hr', u.get h.x (by simp; omega), h.u.trans u (fun _ h => h) (fun x hx => by simp at hx; subst hx; exact .inl (by simp)), h.n⟩
  have := hm.keep u (by simpa using n4.symm) (by simpa using e.1)
  simpa [updD, hne] using this
end

theorem ByS0.keepS {w w' : World} {v : Value} {l : List Int} {g : Nat} {S : List Nat} (h : ByS0 w v l g) (u : Upd S w w') (hg : l ≠ [] → g ∉ S) : ByS0 w' v l g := by
  rcases h with h | ⟨h0, h1, h2⟩
  · exact .inl h
  · exact .inr ⟨h0, Nat.lt_of_lt_of_le h1 u.size, h2.keep u (hg h0)⟩

theorem SpansIn.keepS {w w' : World} {v : Value} {l : List SpanV} {g : Nat} {S : List Nat} (h : SpansIn w v l g) (u : Upd S w w') (hg : l ≠ [] → g ∉ S) : SpansIn w' v l g := by
  by_cases e : l = []
  · rcases h with h | ⟨o, c, h1, h2, h4, h3⟩
    · exact .inl h
    · refine .inl ⟨some ⟨g, o, none⟩, c, ?_, e⟩
      rw [h1, e]; rfl
  · exact h.keep u (hg e)

/-- What a step leaves. -/
structure PyE (w0 : World) (a pb rr : Nat) (M' : Mem) (w : World) : Prop where
  m : ∃ qb, (qb = pb ∨ w0.heap.size ≤ qb) ∧ IsMem w a qb M'
  r : IsRef w rr M'
  u : Upd [a, pb, rr] w0 w

theorem PyS.fin {w0 w : World} {a pb rr i1 i2 : Nat} {M M' : Mem} {C : Array Value} {d : Nat → Bool} (h : PyS w0 a pb rr M M' C i1 i2 d w) (h1 : d i1 = true) (h2 : d i2 = true) : PyE w0 a pb rr M' w := by
  have hm := h.m
  have hr := h.r
  rw [h1] at hm
  rw [h2] at hr
  exact ⟨hm, hr, h.u⟩

/-- The memory behind a step. -/
def Mem.stepM (M : Mem) (s : StepV) : Mem :=
  if s.wt = 0 then M.mapM s.pg s.ct s.rt else if s.wt = 1 then M.unmapM s.pg s.ct else if s.wt = 2 then M.protM s.pg s.ct s.rt
  else if s.wt = 3 ∨ s.wt = 4 then M.writeM s.at_ s.nb s.v else if s.wt = 5 then M else if s.wt = 6 then M.poke s.at_ s.B else loadR s.S M

set_option maxRecDepth 100000 in
set_option maxHeartbeats 4000000 in
theorem py_map (M : Mem) (s : StepV) (a pb rr : Nat) (w : World) (hM : IsMem w a pb M) (hR : IsRef w rr M) (hn : rr ≠ a ∧ rr ≠ pb) (hG : s.Good w) (hB : s.B ≠ [] → s.gb ≠ a ∧ s.gb ≠ pb ∧ s.gb ≠ rr) (hT : s.S ≠ [] → s.gs ≠ a ∧ s.gs ≠ pb ∧ s.gs ≠ rr) (hS : s.B.length ≤ 16384) :
    Calls Try.prog 24 #[.pointer (some ⟨a, 0, none⟩), .pointer (some ⟨rr, 0, none⟩), .agg #[.int .i64 0, .int .i64 s.pg, .int .i64 s.ct, .int .i64 s.rt, .int .i64 s.nb, .int .u32 s.at_, .int .u32 s.v, s.vb, s.vs]] w fun e w' => e = .returned (.bool true) ∧ PyE w a pb rr (M.mapM s.pg s.ct s.rt) w' := by
  have hmo : Try.prog.follows .mixedOrders = true := by kernel_rfl
  obtain ⟨f1, f2, f3⟩ := hG.bf
  obtain ⟨f4, f5, f6⟩ := hG.sf
  have HN := Lib.hid (And.intro hM.al (And.intro hM.pl (And.intro hR.lt hn)))
  have HG := Lib.hid hG
  have HB := Lib.hid hB
  have HSz := Lib.hid hS
  have HT := Lib.hid hT
  have HM := Lib.hid hM
  have HR := Lib.hid hR
  have HF1 := Lib.hid f3
  have HF2 := Lib.hid f6
  clear hM hR hG hB hS hT hn f3 f6
  obtain ⟨N, hN⟩ : ∃ N, M.mapM s.pg s.ct s.rt = N := ⟨_, rfl⟩
  rw [hN]
  have HNe := Lib.hid hN
  obtain ⟨z, hz⟩ : ∃ z, errI (M.mapB s.pg s.ct s.rt) 61 = z := ⟨_, rfl⟩
  have HZ := Lib.hid hz
  clear hN hz
  go_enter Try.func24, Try.ntmps24
  go_wp2_with fail
  refine wp_drawE 17 (fun d _ w1 => PyS w a pb rr M N #[.int .i64 0, .int .i64 s.pg, .int .i64 s.ct, .int .i64 s.rt, .int .i64 s.nb, .int .u32 s.at_, .int .u32 s.v, s.vb, s.vs] 7 15 d w1) (fun _ _ => False) (by kernel_rfl) (by kernel_rfl) (fun r0 => ⟨⟨pb, .inl rfl, (HM.out.keep ((Upd.refl [] w).alloc _) (by simp) (by simp)).drew⟩, (HR.out.keep ((Upd.refl [] w).alloc _) (by simp)).drew, heap_alloc_new _ _, ((Upd.refl _ w).alloc _).drew, HN.out⟩) (fun _ _ _ h => h.elim) ?_
  simp only [List.take_succ_cons, List.take_zero, List.drop_succ_cons, List.drop_zero]
  iterate 7
    apply headE_val0 rfl rfl
    · intro d r0 K hd hdep hK w1 hB1
      have cx := cells_of hB1.x
      have HB1 := Lib.hid hB1
      clear hB1 hdep
      go_wp2_with fail
      first
      | exact hK _ (HB1.out.same _ (by decide) (by decide))
      | exact HB1.out.same _ (by decide) (by decide)
    · exact ⟨_, rfl⟩
  apply headE_val0 rfl rfl
  · intro d r0 K hd hdep hK w1 hB1
    obtain ⟨qb, hq, hm⟩ := hB1.m
    have hd1 : d 7 = false := hd
    rw [hd1] at hm
    have hm1 : IsMem w1 a qb M := hm
    have HB1 := Lib.hid hB1
    have HM1 := Lib.hid hm1
    have HQ := Lib.hid hq
    clear hB1 hdep hm hm1 hd hd1 hq
    go_wp2_with fail
    refine (Map_any M a qb s.pg s.ct s.rt _ HM1.out HG.out.ct.1).mono ?_
    rintro e w2 ⟨rfl, h2, h3⟩
    rw [HZ.out]
    rw [HNe.out] at h2
    exact hK _ (HB1.out.doM (by decide) HM1.out HQ.out (.inl rfl) (by simp) h2 h3)
  · exact ⟨_, rfl⟩
  iterate 7
    apply headE_val0 rfl rfl
    · intro d r0 K hd hdep hK w1 hB1
      have cx := cells_of hB1.x
      have HB1 := Lib.hid hB1
      clear hB1 hdep
      go_wp2_with fail
      first
      | exact hK _ (HB1.out.same _ (by decide) (by decide))
      | exact HB1.out.same _ (by decide) (by decide)
    · exact ⟨_, rfl⟩
  apply headE_val0 rfl rfl
  · intro d r0 K hd hdep hK w1 hB1
    have hr := hB1.r
    have hd1 : d 15 = false := hd
    rw [hd1] at hr
    have hr1 : IsRef w1 rr M := hr
    have HB1 := Lib.hid hB1
    have HR1 := Lib.hid hr1
    clear hB1 hdep hr hr1 hd hd1
    go_wp2_with fail
    refine (Map_ref M rr s.pg s.ct s.rt _ HR1.out HG.out.ct.1 HG.out.ct.2).mono ?_
    rintro e w2 ⟨rfl, h2, h3⟩
    rw [HZ.out]
    rw [HNe.out] at h2
    exact hK _ (HB1.out.doR (by decide) h2 h3)
  · exact ⟨_, rfl⟩
  iterate 1
    apply headE_val0 rfl rfl
    · intro d r0 K hd hdep hK w1 hB1
      have cx := cells_of hB1.x
      have HB1 := Lib.hid hB1
      clear hB1 hdep
      go_wp2_with fail
      first
      | exact hK _ (HB1.out.same _ (by decide) (by decide))
      | exact HB1.out.same _ (by decide) (by decide)
    · exact ⟨_, rfl⟩
  refine headE_nil (fun _ r0 w1 d hall hB1 => ?_)
  have HE := Lib.hid (hB1.fin (hall 7 (by decide)) (hall 15 (by decide)))
  clear hB1 hall
  simp only [fillE]
  go_wp2_with fail
  go_ret
  exact ⟨rfl, HE.out⟩

set_option maxRecDepth 100000 in
set_option maxHeartbeats 4000000 in
theorem py_unmap (M : Mem) (s : StepV) (a pb rr : Nat) (w : World) (hM : IsMem w a pb M) (hR : IsRef w rr M) (hn : rr ≠ a ∧ rr ≠ pb) (hG : s.Good w) (hB : s.B ≠ [] → s.gb ≠ a ∧ s.gb ≠ pb ∧ s.gb ≠ rr) (hT : s.S ≠ [] → s.gs ≠ a ∧ s.gs ≠ pb ∧ s.gs ≠ rr) (hS : s.B.length ≤ 16384) :
    Calls Try.prog 24 #[.pointer (some ⟨a, 0, none⟩), .pointer (some ⟨rr, 0, none⟩), .agg #[.int .i64 1, .int .i64 s.pg, .int .i64 s.ct, .int .i64 s.rt, .int .i64 s.nb, .int .u32 s.at_, .int .u32 s.v, s.vb, s.vs]] w fun e w' => e = .returned (.bool true) ∧ PyE w a pb rr (M.unmapM s.pg s.ct) w' := by
  have hmo : Try.prog.follows .mixedOrders = true := by kernel_rfl
  obtain ⟨f1, f2, f3⟩ := hG.bf
  obtain ⟨f4, f5, f6⟩ := hG.sf
  have HN := Lib.hid (And.intro hM.al (And.intro hM.pl (And.intro hR.lt hn)))
  have HG := Lib.hid hG
  have HB := Lib.hid hB
  have HSz := Lib.hid hS
  have HT := Lib.hid hT
  have HM := Lib.hid hM
  have HR := Lib.hid hR
  have HF1 := Lib.hid f3
  have HF2 := Lib.hid f6
  clear hM hR hG hB hS hT hn f3 f6
  obtain ⟨N, hN⟩ : ∃ N, M.unmapM s.pg s.ct = N := ⟨_, rfl⟩
  rw [hN]
  have HNe := Lib.hid hN
  obtain ⟨z, hz⟩ : ∃ z, errI (M.unmapB s.pg s.ct) 61 = z := ⟨_, rfl⟩
  have HZ := Lib.hid hz
  clear hN hz
  go_enter Try.func24, Try.ntmps24
  go_wp2_with fail
  refine wp_drawE 13 (fun d _ w1 => PyS w a pb rr M N #[.int .i64 1, .int .i64 s.pg, .int .i64 s.ct, .int .i64 s.rt, .int .i64 s.nb, .int .u32 s.at_, .int .u32 s.v, s.vb, s.vs] 5 11 d w1) (fun _ _ => False) (by kernel_rfl) (by kernel_rfl) (fun r0 => ⟨⟨pb, .inl rfl, (HM.out.keep ((Upd.refl [] w).alloc _) (by simp) (by simp)).drew⟩, (HR.out.keep ((Upd.refl [] w).alloc _) (by simp)).drew, heap_alloc_new _ _, ((Upd.refl _ w).alloc _).drew, HN.out⟩) (fun _ _ _ h => h.elim) ?_
  simp only [List.take_succ_cons, List.take_zero, List.drop_succ_cons, List.drop_zero]
  iterate 5
    apply headE_val0 rfl rfl
    · intro d r0 K hd hdep hK w1 hB1
      have cx := cells_of hB1.x
      have HB1 := Lib.hid hB1
      clear hB1 hdep
      go_wp2_with fail
      first
      | exact hK _ (HB1.out.same _ (by decide) (by decide))
      | exact HB1.out.same _ (by decide) (by decide)
    · exact ⟨_, rfl⟩
  apply headE_val0 rfl rfl
  · intro d r0 K hd hdep hK w1 hB1
    obtain ⟨qb, hq, hm⟩ := hB1.m
    have hd1 : d 5 = false := hd
    rw [hd1] at hm
    have hm1 : IsMem w1 a qb M := hm
    have HB1 := Lib.hid hB1
    have HM1 := Lib.hid hm1
    have HQ := Lib.hid hq
    clear hB1 hdep hm hm1 hd hd1 hq
    go_wp2_with fail
    refine (Unmap_any M a qb s.pg s.ct _ HM1.out HG.out.ct.1).mono ?_
    rintro e w2 ⟨rfl, h2, h3⟩
    rw [HZ.out]
    rw [HNe.out] at h2
    exact hK _ (HB1.out.doM (by decide) HM1.out HQ.out (.inl rfl) (by simp) h2 h3)
  · exact ⟨_, rfl⟩
  iterate 5
    apply headE_val0 rfl rfl
    · intro d r0 K hd hdep hK w1 hB1
      have cx := cells_of hB1.x
      have HB1 := Lib.hid hB1
      clear hB1 hdep
      go_wp2_with fail
      first
      | exact hK _ (HB1.out.same _ (by decide) (by decide))
      | exact HB1.out.same _ (by decide) (by decide)
    · exact ⟨_, rfl⟩
  apply headE_val0 rfl rfl
  · intro d r0 K hd hdep hK w1 hB1
    have hr := hB1.r
    have hd1 : d 11 = false := hd
    rw [hd1] at hr
    have hr1 : IsRef w1 rr M := hr
    have HB1 := Lib.hid hB1
    have HR1 := Lib.hid hr1
    clear hB1 hdep hr hr1 hd hd1
    go_wp2_with fail
    refine (Unmap_ref M rr s.pg s.ct _ HR1.out HG.out.ct.1 HG.out.ct.2).mono ?_
    rintro e w2 ⟨rfl, h2, h3⟩
    rw [HZ.out]
    rw [HNe.out] at h2
    exact hK _ (HB1.out.doR (by decide) h2 h3)
  · exact ⟨_, rfl⟩
  iterate 1
    apply headE_val0 rfl rfl
    · intro d r0 K hd hdep hK w1 hB1
      have cx := cells_of hB1.x
      have HB1 := Lib.hid hB1
      clear hB1 hdep
      go_wp2_with fail
      first
      | exact hK _ (HB1.out.same _ (by decide) (by decide))
      | exact HB1.out.same _ (by decide) (by decide)
    · exact ⟨_, rfl⟩
  refine headE_nil (fun _ r0 w1 d hall hB1 => ?_)
  have HE := Lib.hid (hB1.fin (hall 5 (by decide)) (hall 11 (by decide)))
  clear hB1 hall
  simp only [fillE]
  go_wp2_with fail
  go_ret
  exact ⟨rfl, HE.out⟩

set_option maxRecDepth 100000 in
set_option maxHeartbeats 4000000 in
theorem py_prot (M : Mem) (s : StepV) (a pb rr : Nat) (w : World) (hM : IsMem w a pb M) (hR : IsRef w rr M) (hn : rr ≠ a ∧ rr ≠ pb) (hG : s.Good w) (hB : s.B ≠ [] → s.gb ≠ a ∧ s.gb ≠ pb ∧ s.gb ≠ rr) (hT : s.S ≠ [] → s.gs ≠ a ∧ s.gs ≠ pb ∧ s.gs ≠ rr) (hS : s.B.length ≤ 16384) :
    Calls Try.prog 24 #[.pointer (some ⟨a, 0, none⟩), .pointer (some ⟨rr, 0, none⟩), .agg #[.int .i64 2, .int .i64 s.pg, .int .i64 s.ct, .int .i64 s.rt, .int .i64 s.nb, .int .u32 s.at_, .int .u32 s.v, s.vb, s.vs]] w fun e w' => e = .returned (.bool true) ∧ PyE w a pb rr (M.protM s.pg s.ct s.rt) w' := by
  have hmo : Try.prog.follows .mixedOrders = true := by kernel_rfl
  obtain ⟨f1, f2, f3⟩ := hG.bf
  obtain ⟨f4, f5, f6⟩ := hG.sf
  have HN := Lib.hid (And.intro hM.al (And.intro hM.pl (And.intro hR.lt hn)))
  have HG := Lib.hid hG
  have HB := Lib.hid hB
  have HSz := Lib.hid hS
  have HT := Lib.hid hT
  have HM := Lib.hid hM
  have HR := Lib.hid hR
  have HF1 := Lib.hid f3
  have HF2 := Lib.hid f6
  clear hM hR hG hB hS hT hn f3 f6
  obtain ⟨N, hN⟩ : ∃ N, M.protM s.pg s.ct s.rt = N := ⟨_, rfl⟩
  rw [hN]
  have HNe := Lib.hid hN
  obtain ⟨z, hz⟩ : ∃ z, errI (M.protB s.pg s.ct s.rt) 61 = z := ⟨_, rfl⟩
  have HZ := Lib.hid hz
  clear hN hz
  go_enter Try.func24, Try.ntmps24
  go_wp2_with fail
  refine wp_drawE 17 (fun d _ w1 => PyS w a pb rr M N #[.int .i64 2, .int .i64 s.pg, .int .i64 s.ct, .int .i64 s.rt, .int .i64 s.nb, .int .u32 s.at_, .int .u32 s.v, s.vb, s.vs] 7 15 d w1) (fun _ _ => False) (by kernel_rfl) (by kernel_rfl) (fun r0 => ⟨⟨pb, .inl rfl, (HM.out.keep ((Upd.refl [] w).alloc _) (by simp) (by simp)).drew⟩, (HR.out.keep ((Upd.refl [] w).alloc _) (by simp)).drew, heap_alloc_new _ _, ((Upd.refl _ w).alloc _).drew, HN.out⟩) (fun _ _ _ h => h.elim) ?_
  simp only [List.take_succ_cons, List.take_zero, List.drop_succ_cons, List.drop_zero]
  iterate 7
    apply headE_val0 rfl rfl
    · intro d r0 K hd hdep hK w1 hB1
      have cx := cells_of hB1.x
      have HB1 := Lib.hid hB1
      clear hB1 hdep
      go_wp2_with fail
      first
      | exact hK _ (HB1.out.same _ (by decide) (by decide))
      | exact HB1.out.same _ (by decide) (by decide)
    · exact ⟨_, rfl⟩
  apply headE_val0 rfl rfl
  · intro d r0 K hd hdep hK w1 hB1
    obtain ⟨qb, hq, hm⟩ := hB1.m
    have hd1 : d 7 = false := hd
    rw [hd1] at hm
    have hm1 : IsMem w1 a qb M := hm
    have HB1 := Lib.hid hB1
    have HM1 := Lib.hid hm1
    have HQ := Lib.hid hq
    clear hB1 hdep hm hm1 hd hd1 hq
    go_wp2_with fail
    refine (Protect_any M a qb s.pg s.ct s.rt _ HM1.out HG.out.ct.1).mono ?_
    rintro e w2 ⟨rfl, h2, h3⟩
    rw [HZ.out]
    rw [HNe.out] at h2
    exact hK _ (HB1.out.doM (by decide) HM1.out HQ.out (.inl rfl) (by simp) h2 h3)
  · exact ⟨_, rfl⟩
  iterate 7
    apply headE_val0 rfl rfl
    · intro d r0 K hd hdep hK w1 hB1
      have cx := cells_of hB1.x
      have HB1 := Lib.hid hB1
      clear hB1 hdep
      go_wp2_with fail
      first
      | exact hK _ (HB1.out.same _ (by decide) (by decide))
      | exact HB1.out.same _ (by decide) (by decide)
    · exact ⟨_, rfl⟩
  apply headE_val0 rfl rfl
  · intro d r0 K hd hdep hK w1 hB1
    have hr := hB1.r
    have hd1 : d 15 = false := hd
    rw [hd1] at hr
    have hr1 : IsRef w1 rr M := hr
    have HB1 := Lib.hid hB1
    have HR1 := Lib.hid hr1
    clear hB1 hdep hr hr1 hd hd1
    go_wp2_with fail
    refine (Protect_ref M rr s.pg s.ct s.rt _ HR1.out HG.out.ct.1 HG.out.ct.2).mono ?_
    rintro e w2 ⟨rfl, h2, h3⟩
    rw [HZ.out]
    rw [HNe.out] at h2
    exact hK _ (HB1.out.doR (by decide) h2 h3)
  · exact ⟨_, rfl⟩
  iterate 1
    apply headE_val0 rfl rfl
    · intro d r0 K hd hdep hK w1 hB1
      have cx := cells_of hB1.x
      have HB1 := Lib.hid hB1
      clear hB1 hdep
      go_wp2_with fail
      first
      | exact hK _ (HB1.out.same _ (by decide) (by decide))
      | exact HB1.out.same _ (by decide) (by decide)
    · exact ⟨_, rfl⟩
  refine headE_nil (fun _ r0 w1 d hall hB1 => ?_)
  have HE := Lib.hid (hB1.fin (hall 7 (by decide)) (hall 15 (by decide)))
  clear hB1 hall
  simp only [fillE]
  go_wp2_with fail
  go_ret
  exact ⟨rfl, HE.out⟩

set_option maxRecDepth 100000 in
set_option maxHeartbeats 4000000 in
theorem py_poke (M : Mem) (s : StepV) (a pb rr : Nat) (w : World) (hM : IsMem w a pb M) (hR : IsRef w rr M) (hn : rr ≠ a ∧ rr ≠ pb) (hG : s.Good w) (hB : s.B ≠ [] → s.gb ≠ a ∧ s.gb ≠ pb ∧ s.gb ≠ rr) (hT : s.S ≠ [] → s.gs ≠ a ∧ s.gs ≠ pb ∧ s.gs ≠ rr) (hS : s.B.length ≤ 16384) :
    Calls Try.prog 24 #[.pointer (some ⟨a, 0, none⟩), .pointer (some ⟨rr, 0, none⟩), .agg #[.int .i64 6, .int .i64 s.pg, .int .i64 s.ct, .int .i64 s.rt, .int .i64 s.nb, .int .u32 s.at_, .int .u32 s.v, s.vb, s.vs]] w fun e w' => e = .returned (.bool true) ∧ PyE w a pb rr (M.poke s.at_ s.B) w' := by
  have hmo : Try.prog.follows .mixedOrders = true := by kernel_rfl
  obtain ⟨f1, f2, f3⟩ := hG.bf
  obtain ⟨f4, f5, f6⟩ := hG.sf
  have HN := Lib.hid (And.intro hM.al (And.intro hM.pl (And.intro hR.lt hn)))
  have HG := Lib.hid hG
  have HB := Lib.hid hB
  have HSz := Lib.hid hS
  have HT := Lib.hid hT
  have HM := Lib.hid hM
  have HR := Lib.hid hR
  have HF1 := Lib.hid f3
  have HF2 := Lib.hid f6
  clear hM hR hG hB hS hT hn f3 f6
  obtain ⟨N, hN⟩ : ∃ N, M.poke s.at_ s.B = N := ⟨_, rfl⟩
  rw [hN]
  have HNe := Lib.hid hN
  obtain ⟨z, hz⟩ : ∃ z, errI (M.pokeB s.at_ s.B) 61 = z := ⟨_, rfl⟩
  have HZ := Lib.hid hz
  clear hN hz
  go_enter Try.func24, Try.ntmps24
  go_wp2_with fail
  refine wp_drawE 13 (fun d _ w1 => PyS w a pb rr M N #[.int .i64 6, .int .i64 s.pg, .int .i64 s.ct, .int .i64 s.rt, .int .i64 s.nb, .int .u32 s.at_, .int .u32 s.v, s.vb, s.vs] 5 11 d w1) (fun _ _ => False) (by kernel_rfl) (by kernel_rfl) (fun r0 => ⟨⟨pb, .inl rfl, (HM.out.keep ((Upd.refl [] w).alloc _) (by simp) (by simp)).drew⟩, (HR.out.keep ((Upd.refl [] w).alloc _) (by simp)).drew, heap_alloc_new _ _, ((Upd.refl _ w).alloc _).drew, HN.out⟩) (fun _ _ _ h => h.elim) ?_
  simp only [List.take_succ_cons, List.take_zero, List.drop_succ_cons, List.drop_zero]
  iterate 5
    apply headE_val0 rfl rfl
    · intro d r0 K hd hdep hK w1 hB1
      have cx := cells_of hB1.x
      have HB1 := Lib.hid hB1
      clear hB1 hdep
      go_wp2_with fail
      first
      | exact hK _ (HB1.out.same _ (by decide) (by decide))
      | exact HB1.out.same _ (by decide) (by decide)
    · exact ⟨_, rfl⟩
  apply headE_val0 rfl rfl
  · intro d r0 K hd hdep hK w1 hB1
    obtain ⟨qb, hq, hm⟩ := hB1.m
    have hd1 : d 5 = false := hd
    rw [hd1] at hm
    have hm1 : IsMem w1 a qb M := hm
    have HB1 := Lib.hid hB1
    have HM1 := Lib.hid hm1
    have HQ := Lib.hid hq
    clear hB1 hdep hm hm1 hd hd1 hq
    go_wp2_with fail
    have hu := HB1.out.u
    have hgu : s.B ≠ [] → s.gb ∉ [a, pb, rr] := fun e => by have := HB.out e; simp; omega
    have hgq : s.B ≠ [] → s.gb ≠ qb := fun e => by
      have h1 := HB.out e
      rcases HQ.out with hq | hq
      · rw [hq]; exact h1.2.1
      · rcases HG.out.b with ⟨_, _, _, h⟩ | ⟨_, h, _⟩
        · exact absurd h e
        · omega
    have HU := Lib.hid hu
    have HGU := Lib.hid hgu
    have HGQ := Lib.hid hgq
    have hu := HU.out
    have hgu := HGU.out
    have hgq := HGQ.out
    refine (Poke0_any M a qb s.at_ s.vb s.B s.gb _ HM1.out HG.out.at_.1 HG.out.at_.2 (HG.out.b.keepS hu hgu) hgq HG.out.bl HG.out.bn).mono ?_
    rintro e w2 ⟨rfl, h2, h3⟩
    rw [HZ.out]
    rw [HNe.out] at h2
    exact hK _ (HB1.out.doM (by decide) HM1.out HQ.out (.inl rfl) (by simp) h2 h3)
  · exact ⟨_, rfl⟩
  iterate 5
    apply headE_val0 rfl rfl
    · intro d r0 K hd hdep hK w1 hB1
      have cx := cells_of hB1.x
      have HB1 := Lib.hid hB1
      clear hB1 hdep
      go_wp2_with fail
      first
      | exact hK _ (HB1.out.same _ (by decide) (by decide))
      | exact HB1.out.same _ (by decide) (by decide)
    · exact ⟨_, rfl⟩
  apply headE_val0 rfl rfl
  · intro d r0 K hd hdep hK w1 hB1
    have hr := hB1.r
    have hd1 : d 11 = false := hd
    rw [hd1] at hr
    have hr1 : IsRef w1 rr M := hr
    have HB1 := Lib.hid hB1
    have HR1 := Lib.hid hr1
    clear hB1 hdep hr hr1 hd hd1
    go_wp2_with fail
    have hu := HB1.out.u
    have hgu : s.B ≠ [] → s.gb ∉ [a, pb, rr] := fun e => by have := HB.out e; simp; omega
    refine (Poke0_ref M rr s.at_ s.vb s.B s.gb _ HR1.out HG.out.at_.1 HG.out.at_.2 (HG.out.b.keepS hu hgu) (fun e => (HB.out e).2.2) HG.out.bl HSz.out).mono ?_
    rintro e w2 ⟨rfl, h2, h3⟩
    rw [HZ.out]
    rw [HNe.out] at h2
    exact hK _ (HB1.out.doR (by decide) h2 h3)
  · exact ⟨_, rfl⟩
  iterate 1
    apply headE_val0 rfl rfl
    · intro d r0 K hd hdep hK w1 hB1
      have cx := cells_of hB1.x
      have HB1 := Lib.hid hB1
      clear hB1 hdep
      go_wp2_with fail
      first
      | exact hK _ (HB1.out.same _ (by decide) (by decide))
      | exact HB1.out.same _ (by decide) (by decide)
    · exact ⟨_, rfl⟩
  refine headE_nil (fun _ r0 w1 d hall hB1 => ?_)
  have HE := Lib.hid (hB1.fin (hall 5 (by decide)) (hall 11 (by decide)))
  clear hB1 hall
  simp only [fillE]
  go_wp2_with fail
  go_ret
  exact ⟨rfl, HE.out⟩

set_option maxRecDepth 100000 in
set_option maxHeartbeats 4000000 in
theorem py_load (M : Mem) (s : StepV) (a pb rr : Nat) (w : World) (hM : IsMem w a pb M) (hR : IsRef w rr M) (hn : rr ≠ a ∧ rr ≠ pb) (hG : s.Good w) (hB : s.B ≠ [] → s.gb ≠ a ∧ s.gb ≠ pb ∧ s.gb ≠ rr) (hT : s.S ≠ [] → s.gs ≠ a ∧ s.gs ≠ pb ∧ s.gs ≠ rr) (hS : s.B.length ≤ 16384) (k0 : (s.wt == 0) = false) (k1 : (s.wt == 1) = false) (k2 : (s.wt == 2) = false) (k3 : (s.wt == 3) = false) (k4 : (s.wt == 4) = false) (k5 : (s.wt == 5) = false) (k6 : (s.wt == 6) = false) :
    Calls Try.prog 24 #[.pointer (some ⟨a, 0, none⟩), .pointer (some ⟨rr, 0, none⟩), .agg #[.int .i64 s.wt, .int .i64 s.pg, .int .i64 s.ct, .int .i64 s.rt, .int .i64 s.nb, .int .u32 s.at_, .int .u32 s.v, s.vb, s.vs]] w fun e w' => e = .returned (.bool true) ∧ PyE w a pb rr (loadR s.S M) w' := by
  have hmo : Try.prog.follows .mixedOrders = true := by kernel_rfl
  obtain ⟨f1, f2, f3⟩ := hG.bf
  obtain ⟨f4, f5, f6⟩ := hG.sf
  have HN := Lib.hid (And.intro hM.al (And.intro hM.pl (And.intro hR.lt hn)))
  have HG := Lib.hid hG
  have HB := Lib.hid hB
  have HSz := Lib.hid hS
  have HT := Lib.hid hT
  have HM := Lib.hid hM
  have HR := Lib.hid hR
  have HF1 := Lib.hid f3
  have HF2 := Lib.hid f6
  clear hM hR hG hB hS hT hn f3 f6
  obtain ⟨N, hN⟩ : ∃ N, loadR s.S M = N := ⟨_, rfl⟩
  rw [hN]
  have HNe := Lib.hid hN
  obtain ⟨z, hz⟩ : ∃ z, errI (loadB s.S) 60 = z := ⟨_, rfl⟩
  have HZ := Lib.hid hz
  clear hN hz
  go_enter Try.func24, Try.ntmps24
  go_wp2_with fail
  refine wp_drawE 9 (fun d _ w1 => PyS w a pb rr M N #[.int .i64 s.wt, .int .i64 s.pg, .int .i64 s.ct, .int .i64 s.rt, .int .i64 s.nb, .int .u32 s.at_, .int .u32 s.v, s.vb, s.vs] 3 7 d w1) (fun _ _ => False) (by kernel_rfl) (by kernel_rfl) (fun r0 => ⟨⟨pb, .inl rfl, (HM.out.keep ((Upd.refl [] w).alloc _) (by simp) (by simp)).drew⟩, (HR.out.keep ((Upd.refl [] w).alloc _) (by simp)).drew, heap_alloc_new _ _, ((Upd.refl _ w).alloc _).drew, HN.out⟩) (fun _ _ _ h => h.elim) ?_
  simp only [List.take_succ_cons, List.take_zero, List.drop_succ_cons, List.drop_zero]
  iterate 3
    apply headE_val0 rfl rfl
    · intro d r0 K hd hdep hK w1 hB1
      have cx := cells_of hB1.x
      have HB1 := Lib.hid hB1
      clear hB1 hdep
      go_wp2_with fail
      first
      | exact hK _ (HB1.out.same _ (by decide) (by decide))
      | exact HB1.out.same _ (by decide) (by decide)
    · exact ⟨_, rfl⟩
  apply headE_val0 rfl rfl
  · intro d r0 K hd hdep hK w1 hB1
    obtain ⟨qb, hq, hm⟩ := hB1.m
    have hd1 : d 3 = false := hd
    rw [hd1] at hm
    have hm1 : IsMem w1 a qb M := hm
    have HB1 := Lib.hid hB1
    have HM1 := Lib.hid hm1
    have HQ := Lib.hid hq
    clear hB1 hdep hm hm1 hd hd1 hq
    go_wp2_with fail
    have hu := HB1.out.u
    have hgu : s.S ≠ [] → s.gs ∉ [a, pb, rr] := fun e => by have := HT.out e; simp; omega
    refine (Load_any M a qb s.gs s.vs s.S _ HM1.out (HG.out.sa.sp.keepS hu hgu) (fun q hq => (HG.out.sa.ok q hq).ct)).mono ?_
    rintro e w2 ⟨rfl, ⟨⟨qb', hq', h2⟩⟩, h3⟩
    rw [HZ.out]
    rw [HNe.out] at h2
    exact hK _ (HB1.out.doM (by decide) HM1.out HQ.out hq' (by simp) h2 h3)
  · exact ⟨_, rfl⟩
  iterate 3
    apply headE_val0 rfl rfl
    · intro d r0 K hd hdep hK w1 hB1
      have cx := cells_of hB1.x
      have HB1 := Lib.hid hB1
      clear hB1 hdep
      go_wp2_with fail
      first
      | exact hK _ (HB1.out.same _ (by decide) (by decide))
      | exact HB1.out.same _ (by decide) (by decide)
    · exact ⟨_, rfl⟩
  apply headE_val0 rfl rfl
  · intro d r0 K hd hdep hK w1 hB1
    have hr := hB1.r
    have hd1 : d 7 = false := hd
    rw [hd1] at hr
    have hr1 : IsRef w1 rr M := hr
    have HB1 := Lib.hid hB1
    have HR1 := Lib.hid hr1
    clear hB1 hdep hr hr1 hd hd1
    go_wp2_with fail
    have hu := HB1.out.u
    have hgu : s.S ≠ [] → s.gs ∉ [a, pb, rr] := fun e => by have := HT.out e; simp; omega
    refine (Load_ref M rr s.gs s.vs s.S _ HR1.out (HG.out.sa.sp.keepS hu hgu) (fun q hq => (HG.out.sa.ok q hq).ct)).mono ?_
    rintro e w2 ⟨rfl, h2, h3⟩
    rw [HZ.out]
    rw [HNe.out] at h2
    exact hK _ (HB1.out.doR (by decide) h2 h3)
  · exact ⟨_, rfl⟩
  iterate 1
    apply headE_val0 rfl rfl
    · intro d r0 K hd hdep hK w1 hB1
      have cx := cells_of hB1.x
      have HB1 := Lib.hid hB1
      clear hB1 hdep
      go_wp2_with fail
      first
      | exact hK _ (HB1.out.same _ (by decide) (by decide))
      | exact HB1.out.same _ (by decide) (by decide)
    · exact ⟨_, rfl⟩
  refine headE_nil (fun _ r0 w1 d hall hB1 => ?_)
  have HE := Lib.hid (hB1.fin (hall 3 (by decide)) (hall 7 (by decide)))
  clear hB1 hall
  simp only [fillE]
  go_wp2_with fail
  go_ret
  exact ⟨rfl, HE.out⟩

set_option maxRecDepth 100000 in
set_option maxHeartbeats 4000000 in
theorem py_write3 (M : Mem) (s : StepV) (a pb rr : Nat) (w : World) (hM : IsMem w a pb M) (hR : IsRef w rr M) (hn : rr ≠ a ∧ rr ≠ pb) (hG : s.Good w) (hB : s.B ≠ [] → s.gb ≠ a ∧ s.gb ≠ pb ∧ s.gb ≠ rr) (hT : s.S ≠ [] → s.gs ≠ a ∧ s.gs ≠ pb ∧ s.gs ≠ rr) (hS : s.B.length ≤ 16384) :
    Calls Try.prog 24 #[.pointer (some ⟨a, 0, none⟩), .pointer (some ⟨rr, 0, none⟩), .agg #[.int .i64 3, .int .i64 s.pg, .int .i64 s.ct, .int .i64 s.rt, .int .i64 s.nb, .int .u32 s.at_, .int .u32 s.v, s.vb, s.vs]] w fun e w' => e = .returned (.bool true) ∧ PyE w a pb rr (M.writeM s.at_ s.nb s.v) w' := by
  have hmo : Try.prog.follows .mixedOrders = true := by kernel_rfl
  obtain ⟨f1, f2, f3⟩ := hG.bf
  obtain ⟨f4, f5, f6⟩ := hG.sf
  have HN := Lib.hid (And.intro hM.al (And.intro hM.pl (And.intro hR.lt hn)))
  have HG := Lib.hid hG
  have HB := Lib.hid hB
  have HSz := Lib.hid hS
  have HT := Lib.hid hT
  have HM := Lib.hid hM
  have HR := Lib.hid hR
  have HF1 := Lib.hid f3
  have HF2 := Lib.hid f6
  clear hM hR hG hB hS hT hn f3 f6
  obtain ⟨F, hF⟩ : ∃ F, M.wrF s.at_ s.nb = F := ⟨_, rfl⟩
  obtain ⟨b, hb⟩ : ∃ b, M.writeK s.at_ s.nb = b := ⟨_, rfl⟩
  have HF := Lib.hid hF
  have HK := Lib.hid hb
  clear hF hb
  have tok1 : True := trivial
  cases b
  all_goals

    go_enter Try.func24, Try.ntmps24
    go_wp2_with (first | (have _t := tok1; clear _t; go_at_call 18; refine (Write_any M a pb s.at_ s.nb s.v _ (HM.out.keep ((Upd.refl [] _).alloc _) (by simp) (by simp)) HG.out.at_.1 HG.out.at_.2 HG.out.v.1 HG.out.v.2).mono ?_; rintro e w1 ⟨rfl, hm, hu⟩; rw [Mem.writeF_val, HF.out, HK.out]; unfold Flt.val; have M1 := Lib.hid hm; have hx := hu.get (heap_alloc_new _ _) (by have := HM.out.pl; simp; omega); have cx := fun (O : Obj) (o : Nat) => cells_of (heap_alloc_keep O hx) o; have R1 := Lib.hid ((HR.out.keep ((Upd.refl [] _).alloc _) (by simp)).keep hu (by simpa using HN.out.2.2.2.2)); have U1 := Lib.hid (((Upd.refl [] w).alloc _).trans (T := [pb]) hu (by simp) (by simp)); clear hm hu hx tok1) | (have _t := M1; clear _t; go_at_call 68; refine (Write_ref M rr s.at_ s.nb s.v _ (R1.out.keep ((Upd.refl [] _).alloc _) (by simp)) HG.out.at_.1 HG.out.at_.2 HG.out.v.1 HG.out.v.2).mono ?_; rintro e w2 ⟨rfl, hr, hu⟩; rw [HF.out, HK.out]; unfold Flt.val; have h7 := hu.get (heap_alloc_new _ _) (by have := R1.out.lt; simp; omega); have c7 := fun (O : Obj) (o : Nat) => cells_of (heap_alloc_keep O h7) o; have HE := Lib.hid (show ∀ O, PyE w a pb rr (M.writeM s.at_ s.nb s.v) (w2.alloc O) from fun O => ⟨⟨pb, .inl rfl, ((M1.out.keep ((Upd.refl [] _).alloc _) (by simp) (by simp)).keep hu (by have := HN.out.2.2.2.1; simpa using this.symm) (by have := HN.out.2.2.2.2; simpa using this.symm)).keep ((Upd.refl [] _).alloc _) (by simp) (by simp)⟩, hr.keep ((Upd.refl [] _).alloc _) (by simp), (((U1.out.mono (T := [a, pb, rr]) (by simp)).alloc _).also hu (by simp)).alloc _⟩); clear hr hu h7))
    go_ret
    exact ⟨rfl, HE.out _⟩

set_option maxRecDepth 100000 in
set_option maxHeartbeats 4000000 in
theorem py_write4 (M : Mem) (s : StepV) (a pb rr : Nat) (w : World) (hM : IsMem w a pb M) (hR : IsRef w rr M) (hn : rr ≠ a ∧ rr ≠ pb) (hG : s.Good w) (hB : s.B ≠ [] → s.gb ≠ a ∧ s.gb ≠ pb ∧ s.gb ≠ rr) (hT : s.S ≠ [] → s.gs ≠ a ∧ s.gs ≠ pb ∧ s.gs ≠ rr) (hS : s.B.length ≤ 16384) :
    Calls Try.prog 24 #[.pointer (some ⟨a, 0, none⟩), .pointer (some ⟨rr, 0, none⟩), .agg #[.int .i64 4, .int .i64 s.pg, .int .i64 s.ct, .int .i64 s.rt, .int .i64 s.nb, .int .u32 s.at_, .int .u32 s.v, s.vb, s.vs]] w fun e w' => e = .returned (.bool true) ∧ PyE w a pb rr (M.writeM s.at_ s.nb s.v) w' := by
  have hmo : Try.prog.follows .mixedOrders = true := by kernel_rfl
  obtain ⟨f1, f2, f3⟩ := hG.bf
  obtain ⟨f4, f5, f6⟩ := hG.sf
  have HN := Lib.hid (And.intro hM.al (And.intro hM.pl (And.intro hR.lt hn)))
  have HG := Lib.hid hG
  have HB := Lib.hid hB
  have HSz := Lib.hid hS
  have HT := Lib.hid hT
  have HM := Lib.hid hM
  have HR := Lib.hid hR
  have HF1 := Lib.hid f3
  have HF2 := Lib.hid f6
  clear hM hR hG hB hS hT hn f3 f6
  obtain ⟨F, hF⟩ : ∃ F, M.wrF s.at_ s.nb = F := ⟨_, rfl⟩
  obtain ⟨b, hb⟩ : ∃ b, M.writeK s.at_ s.nb = b := ⟨_, rfl⟩
  have HF := Lib.hid hF
  have HK := Lib.hid hb
  clear hF hb
  have tok1 : True := trivial
  cases b
  all_goals

    go_enter Try.func24, Try.ntmps24
    go_wp2_with (first | (have _t := tok1; clear _t; go_at_call 18; refine (Write_any M a pb s.at_ s.nb s.v _ (HM.out.keep ((Upd.refl [] _).alloc _) (by simp) (by simp)) HG.out.at_.1 HG.out.at_.2 HG.out.v.1 HG.out.v.2).mono ?_; rintro e w1 ⟨rfl, hm, hu⟩; rw [Mem.writeF_val, HF.out, HK.out]; unfold Flt.val; have M1 := Lib.hid hm; have hx := hu.get (heap_alloc_new _ _) (by have := HM.out.pl; simp; omega); have cx := fun (O : Obj) (o : Nat) => cells_of (heap_alloc_keep O hx) o; have R1 := Lib.hid ((HR.out.keep ((Upd.refl [] _).alloc _) (by simp)).keep hu (by simpa using HN.out.2.2.2.2)); have U1 := Lib.hid (((Upd.refl [] w).alloc _).trans (T := [pb]) hu (by simp) (by simp)); clear hm hu hx tok1) | (have _t := M1; clear _t; go_at_call 68; refine (Write_ref M rr s.at_ s.nb s.v _ (R1.out.keep ((Upd.refl [] _).alloc _) (by simp)) HG.out.at_.1 HG.out.at_.2 HG.out.v.1 HG.out.v.2).mono ?_; rintro e w2 ⟨rfl, hr, hu⟩; rw [HF.out, HK.out]; unfold Flt.val; have h7 := hu.get (heap_alloc_new _ _) (by have := R1.out.lt; simp; omega); have c7 := fun (O : Obj) (o : Nat) => cells_of (heap_alloc_keep O h7) o; have HE := Lib.hid (show ∀ O, PyE w a pb rr (M.writeM s.at_ s.nb s.v) (w2.alloc O) from fun O => ⟨⟨pb, .inl rfl, ((M1.out.keep ((Upd.refl [] _).alloc _) (by simp) (by simp)).keep hu (by have := HN.out.2.2.2.1; simpa using this.symm) (by have := HN.out.2.2.2.2; simpa using this.symm)).keep ((Upd.refl [] _).alloc _) (by simp) (by simp)⟩, hr.keep ((Upd.refl [] _).alloc _) (by simp), (((U1.out.mono (T := [a, pb, rr]) (by simp)).alloc _).also hu (by simp)).alloc _⟩); clear hr hu h7))
    go_ret
    exact ⟨rfl, HE.out _⟩

set_option maxRecDepth 100000 in
set_option maxHeartbeats 4000000 in
theorem py_read (M : Mem) (s : StepV) (a pb rr : Nat) (w : World) (hM : IsMem w a pb M) (hR : IsRef w rr M) (hn : rr ≠ a ∧ rr ≠ pb) (hG : s.Good w) (hB : s.B ≠ [] → s.gb ≠ a ∧ s.gb ≠ pb ∧ s.gb ≠ rr) (hT : s.S ≠ [] → s.gs ≠ a ∧ s.gs ≠ pb ∧ s.gs ≠ rr) (hS : s.B.length ≤ 16384) :
    Calls Try.prog 24 #[.pointer (some ⟨a, 0, none⟩), .pointer (some ⟨rr, 0, none⟩), .agg #[.int .i64 5, .int .i64 s.pg, .int .i64 s.ct, .int .i64 s.rt, .int .i64 s.nb, .int .u32 s.at_, .int .u32 s.v, s.vb, s.vs]] w fun e w' => e = .returned (.bool true) ∧ PyE w a pb rr (M) w' := by
  have hmo : Try.prog.follows .mixedOrders = true := by kernel_rfl
  obtain ⟨f1, f2, f3⟩ := hG.bf
  obtain ⟨f4, f5, f6⟩ := hG.sf
  have HN := Lib.hid (And.intro hM.al (And.intro hM.pl (And.intro hR.lt hn)))
  have HG := Lib.hid hG
  have HB := Lib.hid hB
  have HSz := Lib.hid hS
  have HT := Lib.hid hT
  have HM := Lib.hid hM
  have HR := Lib.hid hR
  have HF1 := Lib.hid f3
  have HF2 := Lib.hid f6
  clear hM hR hG hB hS hT hn f3 f6
  obtain ⟨F, hF⟩ : ∃ F, M.rdF s.at_ s.nb s.rt = F := ⟨_, rfl⟩
  obtain ⟨b, hb⟩ : ∃ b, M.readK s.at_ s.nb s.rt = b := ⟨_, rfl⟩
  have HF := Lib.hid hF
  have HK := Lib.hid hb
  clear hF hb
  have tok1 : True := trivial
  cases b
  all_goals

    go_enter Try.func24, Try.ntmps24
    go_wp2_with (first | (have _t := tok1; clear _t; go_at_call 20; refine (Read_any M a pb s.at_ s.nb s.rt _ (HM.out.keep ((Upd.refl [] _).alloc _) (by simp) (by simp)) HG.out.at_.1 HG.out.at_.2).mono ?_; rintro e w1 ⟨rfl, hu⟩; rw [Mem.readF_val, HF.out, HK.out]; unfold Flt.val; have M1 := Lib.hid ((HM.out.keep ((Upd.refl [] _).alloc _) (by simp) (by simp)).keep hu (by simp) (by simp)); have hx := hu.get (heap_alloc_new _ _) (by simp); have cx := fun (O : Obj) (o : Nat) => cells_of (heap_alloc_keep O hx) o; have R1 := Lib.hid ((HR.out.keep ((Upd.refl [] _).alloc _) (by simp)).keep hu (by simp)); have U1 := Lib.hid (((Upd.refl [] w).alloc _).also hu (by simp)); clear hu hx tok1) | (have _t := M1; clear _t; go_at_call 69; refine (Read_ref M rr s.at_ s.nb s.rt _ (R1.out.keep ((Upd.refl [] _).alloc _) (by simp)) HG.out.at_.1 HG.out.at_.2).mono ?_; rintro e w2 ⟨rfl, hu⟩; rw [HF.out, HK.out]; unfold Flt.val; have h7 := hu.get (heap_alloc_new _ _) (by simp); have c7 := fun (O : Obj) (o : Nat) => cells_of (heap_alloc_keep O h7) o; have HE := Lib.hid (show ∀ O, PyE w a pb rr M (w2.alloc O) from fun O => ⟨⟨pb, .inl rfl, ((M1.out.keep ((Upd.refl [] _).alloc _) (by simp) (by simp)).keep hu (by simp) (by simp)).keep ((Upd.refl [] _).alloc _) (by simp) (by simp)⟩, ((R1.out.keep ((Upd.refl [] _).alloc _) (by simp)).keep hu (by simp)).keep ((Upd.refl [] _).alloc _) (by simp), (((U1.out.mono (T := [a, pb, rr]) (by simp)).alloc _).also hu (by simp)).alloc _⟩); clear hu h7))
    go_ret
    exact ⟨rfl, HE.out _⟩

end Go.Proofs.Ytncafchgdgmeaaa
