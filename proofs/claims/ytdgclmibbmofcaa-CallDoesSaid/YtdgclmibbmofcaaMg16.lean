/-
  Package call: Copy. No condition.
-/
import Derived.Test.YtdgclmibbmofcaaMg08
import Derived.Test.YtdgclmibbmofcaaMg11
import Derived.Test.YtdgclmibbmofcaaMg12
import Derived.Shelf.SlMaps.Clone
import Derived.Test.YtdgclmibbmofcaaMg15
import Derived.Test.YtdgclmibbmofcaaMg06
import Derived.Test.YtdgclmibbmofcaaMg07
namespace Go.Proofs.Ytdgclmibbmofcaa
open Go Go.RowKit Go.Maps Go.Shelf
set_option linter.unusedVariables false
set_option linter.unusedSimpArgs false

theorem mclone_any (b n : Nat) (D : DataW Value) (w : World) (hown : w.ownsMap Try.prog 3 evR b n D) :
    Calls Try.prog 42 #[.map (some b)] w fun e w' => e = .returned (.map (some w.heap.size)) ∧ w'.ownsMap Try.prog 3 evR w.heap.size n D ∧ Upd [] w w' := by
  have hcon := AnyW.maps_Clone_owns clMclone 3 evR b n D w hown
  change Calls Try.prog 42 _ _ _ at hcon
  refine hcon.mono ?_
  rintro e w' ⟨rfl, h1, _, hB⟩
  exact ⟨rfl, h1, Upd.of_below hB⟩
theorem cq1_ne {d : Nat → Bool} {m i : Nat} (h : i ≠ m) : updD d m i = d i := by simp [updD, h]
theorem cq1_eq {d : Nat → Bool} {m : Nat} : updD d m m = true := by simp [updD]
theorem cw1_ne {r : Nat → Value} {m i : Nat} {v : Value} (h : i ≠ m) : updV r m v i = r i := by simp [updV, h]
theorem cw1_eq {r : Nat → Value} {m : Nat} {v : Value} : updV r m v m = v := by simp [updV]
/-- Along Copy: replies copied (4), events copied (13), both put together (18), laid (19). -/
structure Kv (w : World) (l : List Int) (inp : ByteArray) (n : Nat) (D : DataW Value) (dn : Nat → Bool) (r : Nat → Value) (w1 : World) : Prop where
  u : Upd [] w w1
  a : dn 4 = true → ∃ g', Rp w1 (r 4) l g' ∧ (r 4 = .slice none 0 0 ∨ w.heap.size ≤ g' ∧ g' < w1.heap.size)
  b : dn 13 = true → ∃ b', r 13 = .map (some b') ∧ w.heap.size ≤ b' ∧ b' < w1.heap.size ∧ w1.ownsMap Try.prog 3 evR b' n D
  c : dn 19 = true → ∃ c' b' g', r 19 = .pointer (some ⟨c', 0, none⟩) ∧ IsCl w1 c' b' g' l inp n n D ∧ (w.heap.size ≤ c' ∧ w.heap.size ≤ b' ∧ w.heap.size ≤ g')
  o : dn 18 = true → dn 4 = true ∧ dn 13 = true
  o2 : dn 19 = true → dn 18 = true
  p : dn 18 = true → r 18 = .agg #[r 4, .string inp, r 13, .int .i64 n]
  q : dn 20 = true → dn 19 = true ∧ r 20 = r 19
section
variable {w w1 w2 : World} {l : List Int} {inp : ByteArray} {n : Nat} {D : DataW Value} {dn : Nat → Bool} {r : Nat → Value}
theorem Kv.start (w : World) (l : List Int) (inp : ByteArray) (n : Nat) (D : DataW Value) (r : Nat → Value) : Kv w l inp n D (fun _ => false) r w.drew :=
  ⟨(Upd.refl [] w).drew, fun h => (by cases h), fun h => (by cases h), fun h => (by cases h), fun h => (by cases h), fun h => (by cases h), fun h => (by cases h), fun h => (by cases h)⟩
theorem Kv.same (h : Kv w l inp n D dn r w1) (j : Nat) (hj : 4 ≠ j ∧ 13 ≠ j ∧ 18 ≠ j ∧ 19 ≠ j ∧ 20 ≠ j) : Kv w l inp n D (updD dn j) r w1 := by
  obtain ⟨j4, j13, j18, j19, j20⟩ := hj
  exact ⟨h.u, by rw [cq1_ne j4]; exact h.a, by rw [cq1_ne j13]; exact h.b, by rw [cq1_ne j19]; exact h.c, by rw [cq1_ne j18, cq1_ne j4, cq1_ne j13]; exact h.o, by rw [cq1_ne j18, cq1_ne j19]; exact h.o2, by rw [cq1_ne j18]; exact h.p, by rw [cq1_ne j20, cq1_ne j19]; exact h.q⟩
theorem Kv.put18 (h : Kv w l inp n D dn r w1) (h4 : dn 4 = true) (h13 : dn 13 = true) : Kv w l inp n D (updD dn 18) (updV r 18 (.agg #[r 4, .string inp, r 13, .int .i64 n])) w1 :=
  ⟨h.u, by rw [cq1_ne (by decide), cw1_ne (by decide)]; exact h.a, by rw [cq1_ne (by decide), cw1_ne (by decide)]; exact h.b, by rw [cq1_ne (by decide), cw1_ne (by decide)]; exact h.c, fun _ => by rw [cq1_ne (by decide), cq1_ne (by decide)]; exact ⟨h4, h13⟩, fun _ => cq1_eq,
    fun _ => by rw [cw1_eq, cw1_ne (by decide), cw1_ne (by decide)], by rw [cq1_ne (by decide), cq1_ne (by decide), cw1_ne (by decide), cw1_ne (by decide)]; exact h.q⟩
theorem Kv.no (h : Kv w l inp n D dn r w1) (hd : dn 4 = false ∨ dn 13 = false) : dn 18 = false ∧ dn 19 = false := by
  have h18 : dn 18 = false := by
    cases e : dn 18 with
    | false => rfl
    | true => obtain ⟨p, q⟩ := h.o e; rcases hd with hd | hd <;> simp_all
  refine ⟨h18, ?_⟩
  cases e : dn 19 with
  | false => rfl
  | true => rw [h.o2 e] at h18; cases h18
theorem Kv.reps (h : Kv w l inp n D dn r w1) (hd : dn 4 = false) {v : Value} {g' : Nat} (hv : Rp w2 v l g') (hz : v = .slice none 0 0 ∨ w1.heap.size ≤ g' ∧ g' < w2.heap.size) (u : Upd [] w1 w2) : Kv w l inp n D (updD dn 4) (updV r 4 v) w2 := by
  obtain ⟨h18, h19⟩ := h.no (.inl hd)
  have hs := h.u.size
  have hs2 := u.size
  refine ⟨h.u.also u (by simp), fun _ => ⟨g', by rw [cw1_eq]; exact hv, by rw [cw1_eq]; rcases hz with hz | hz; exact .inl hz; exact .inr ⟨by omega, hz.2⟩⟩, ?_, ?_, ?_, ?_, ?_, ?_⟩
  · rw [cq1_ne (by decide), cw1_ne (by decide)]; intro hx; obtain ⟨b', e1, e2, e3, e4⟩ := h.b hx; exact ⟨b', e1, e2, by omega, ownsMap_keep e4 u (by simp)⟩
  · rw [cq1_ne (by decide)]; intro hx; rw [h19] at hx; cases hx
  · rw [cq1_ne (by decide)]; intro hx; rw [h18] at hx; cases hx
  · rw [cq1_ne (by decide)]; intro hx; rw [h19] at hx; cases hx
  · rw [cq1_ne (by decide)]; intro hx; rw [h18] at hx; cases hx
  · rw [cq1_ne (by decide), cq1_ne (by decide)]; intro hx; rw [(h.q hx).1] at h19; cases h19
theorem Kv.maps (h : Kv w l inp n D dn r w1) (hd : dn 13 = false) (hm : w2.ownsMap Try.prog 3 evR w1.heap.size n D) (u : Upd [] w1 w2) : Kv w l inp n D (updD dn 13) (updV r 13 (.map (some w1.heap.size))) w2 := by
  obtain ⟨h18, h19⟩ := h.no (.inr hd)
  have hs := h.u.size
  have hs2 := u.size
  refine ⟨h.u.also u (by simp), ?_, fun _ => ⟨w1.heap.size, cw1_eq, hs, hm.lt, hm⟩, ?_, ?_, ?_, ?_, ?_⟩
  · rw [cq1_ne (by decide), cw1_ne (by decide)]; intro hx; obtain ⟨g', e1, e2⟩ := h.a hx; exact ⟨g', e1.keep u (by simp), by rcases e2 with e2 | e2; exact .inl e2; exact .inr ⟨e2.1, by omega⟩⟩
  · rw [cq1_ne (by decide)]; intro hx; rw [h19] at hx; cases hx
  · rw [cq1_ne (by decide)]; intro hx; rw [h18] at hx; cases hx
  · rw [cq1_ne (by decide)]; intro hx; rw [h19] at hx; cases hx
  · rw [cq1_ne (by decide)]; intro hx; rw [h18] at hx; cases hx
  · rw [cq1_ne (by decide), cq1_ne (by decide)]; intro hx; rw [(h.q hx).1] at h19; cases h19
theorem Kv.box (h : Kv w l inp n D dn r w1) (hd : dn 19 = false) (h18 : dn 18 = true) : Kv w l inp n D (updD dn 19) (updV r 19 (.pointer (some ⟨w1.heap.size, 0, none⟩))) (w1.alloc (.cells #[r 4, .string inp, r 13, .int .i64 n] 77)) := by
  obtain ⟨h4, h13⟩ := h.o h18
  obtain ⟨g', a1, a2⟩ := h.a h4
  obtain ⟨b', b1, b2, b3, b4⟩ := h.b h13
  have hs := h.u.size
  have u := (Upd.refl [] w1).alloc (.cells #[r 4, .string inp, r 13, .int .i64 n] 77)
  have hz : (w1.alloc (.cells #[r 4, .string inp, r 13, .int .i64 n] 77)).heap.size = w1.heap.size + 1 := by simp
  refine ⟨h.u.also u (by simp), ?_, ?_, fun _ => ?_, ?_, ?_, ?_, ?_⟩
  · rw [cq1_ne (by decide), cw1_ne (by decide)]; intro _; exact ⟨g', a1.keep u (by simp), by rcases a2 with a2 | a2; exact .inl a2; exact .inr ⟨a2.1, by omega⟩⟩
  · rw [cq1_ne (by decide), cw1_ne (by decide)]; intro _; exact ⟨b', b1, b2, by omega, ownsMap_keep b4 u (by simp)⟩
  · have hh := heap_alloc_new w1 (.cells #[r 4, .string inp, r 13, .int .i64 n] 77)
    rw [b1] at hh u ⊢
    by_cases hnn : r 4 = .slice none 0 0
    · have a2 := hnn
      rw [a2] at a1
      have hl : l = [] := by
        rcases a1 with a1 | ⟨_, _, _, _, _, e, _⟩
        · exact a1.2
        · cases e
      exact ⟨w1.heap.size, b', w1.heap.size + 2, cw1_eq, ⟨⟨_, hh, .inl ⟨a2, hl⟩⟩, ownsMap_keep b4 u (by simp), by omega, by omega, by omega⟩, by omega, b2, by omega⟩
    · replace a2 := a2.resolve_left hnn
      exact ⟨w1.heap.size, b', g', cw1_eq, ⟨⟨_, hh, a1.keep u (by simp)⟩, ownsMap_keep b4 u (by simp), by omega, by omega, by
        rintro rfl
        rcases a1 with ⟨e, _⟩ | ⟨_, _, _, _, _, _, _, e, _⟩
        · exact hnn e
        · obtain ⟨es, clock, hm, _⟩ := b4; rw [e] at hm; cases hm⟩, by omega, b2, a2.1⟩
  · rw [cq1_ne (by decide), cq1_ne (by decide), cq1_ne (by decide)]; exact h.o
  · intro _; rw [cq1_ne (show (18 : Nat) ≠ 19 by decide)]; exact h18
  · rw [cq1_ne (by decide), cw1_ne (by decide), cw1_ne (by decide), cw1_ne (by decide)]; exact h.p
  · rw [cq1_ne (show (20 : Nat) ≠ 19 by decide)]; intro hx; rw [(h.q hx).1] at hd; cases hd
theorem Kv.last (h : Kv w l inp n D dn r w1) (hd : dn 20 = false) (h19 : dn 19 = true) : Kv w l inp n D (updD dn 20) (updV r 20 (r 19)) w1 :=
  ⟨h.u, by rw [cq1_ne (by decide), cw1_ne (by decide)]; exact h.a, by rw [cq1_ne (by decide), cw1_ne (by decide)]; exact h.b, by rw [cq1_ne (by decide), cw1_ne (by decide)]; exact h.c, by rw [cq1_ne (by decide), cq1_ne (by decide), cq1_ne (by decide)]; exact h.o, by rw [cq1_ne (by decide), cq1_ne (by decide)]; exact h.o2,
    by rw [cq1_ne (by decide), cw1_ne (by decide), cw1_ne (by decide), cw1_ne (by decide)]; exact h.p, fun _ => ⟨by rw [cq1_ne (by decide)]; exact h19, by rw [cw1_eq, cw1_ne (by decide)]⟩⟩
end
set_option maxRecDepth 100000 in
set_option maxHeartbeats 2000000 in
theorem CopyC_any (c b g n : Nat) (l : List Int) (inp : ByteArray) (D : DataW Value) (w : World) (h : IsCl w c b g l inp n n D) (hl : l.length ≤ 1000) :
    Calls Try.prog 19 #[.pointer (some ⟨c, 0, none⟩)] w fun e w' => ∃ c' b' g', e = .returned (.pointer (some ⟨c', 0, none⟩)) ∧ IsCl w' c' b' g' l inp n n D ∧ (w.heap.size ≤ c' ∧ w.heap.size ≤ b' ∧ w.heap.size ≤ g') ∧ Upd [] w w' := by
  obtain ⟨rv, hc, hr⟩ := h.hd
  obtain ⟨ra, rc, rfl⟩ := hr.form
  have HC := Lib.hid hc
  have H := Lib.hid (And.intro h (And.intro hr hl))
  clear h hl hr hc
  go_enter Try.func19, Try.ntmps19
  go_upto_region 1 with fail
  refine wp_drawE 21 (Kv w l inp n D) (fun _ _ => False) (by kernel_rfl) (by decide +kernel) (fun r0 => Kv.start w l inp n D r0) (fun _ _ _ h => h.elim) ?_
  simp only [List.take_succ_cons, List.take_zero, List.drop_succ_cons, List.drop_zero]
  apply headE_val0 rfl rfl
  · intro dn r0 K hd hdep hK w5 hB2
    have f1 := cells_of (hB2.u.get HC.out (by simp))
    have HB := Lib.hid (hB2.same 0 (by decide))
    clear hB2 hdep
    go_wp2_with fail
    first
    | exact hK _ HB.out
    | exact HB.out
  · exact ⟨_, rfl⟩
  apply headE_val0 rfl rfl
  · intro dn r0 K hd hdep hK w5 hB2
    have f1 := cells_of (hB2.u.get HC.out (by simp))
    have HB := Lib.hid (hB2.same 1 (by decide))
    clear hB2 hdep
    go_wp2_with fail
    first
    | exact hK _ HB.out
    | exact HB.out
  · exact ⟨_, rfl⟩
  apply headE_val0 rfl rfl
  · intro dn r0 K hd hdep hK w5 hB2
    have f1 := cells_of (hB2.u.get HC.out (by simp))
    have HB := Lib.hid (hB2.same 2 (by decide))
    clear hB2 hdep
    go_wp2_with fail
    first
    | exact hK _ HB.out
    | exact HB.out
  · exact ⟨_, rfl⟩
  apply headE_val0 rfl rfl
  · intro dn r0 K hd hdep hK w5 hB2
    have f1 := cells_of (hB2.u.get HC.out (by simp))
    have HB := Lib.hid (hB2.same 3 (by decide))
    clear hB2 hdep
    go_wp2_with fail
    first
    | exact hK _ HB.out
    | exact HB.out
  · exact ⟨_, rfl⟩
  refine headE_free rfl (fun _ => rfl) 7 rfl (by simp [Act.put]) ?_ ?_
  · intro dn r0 K hd w5 hB2 hK
    have HB := Lib.hid hB2
    clear hB2
    simp only [fillE]
    go_wp2_with (go_at_call 22; refine (Clone32_any l _ g _ (H.out.2.1.keep HB.out.u (by simp)) H.out.2.2).mono ?_; rintro e w6 ⟨v', g', rfl, h1, h2, h3⟩; have H1 := Lib.hid (HB.out.reps hd h1 h2 h3); clear h1 h2 h3)
    first
    | exact hK _ _ H1.out
    | exact H1.out
  apply headE_val rfl (fun _ => rfl)
  · intro dn r0 K hd hdep hK w5 hB2
    have f1 := cells_of (hB2.u.get HC.out (by simp))
    have HB := Lib.hid (hB2.same 5 (by decide))
    clear hB2 hdep
    simp only [fillE]
    go_wp2_with fail
    first
    | exact hK _ HB.out
    | exact HB.out
  · exact ⟨_, fun _ => rfl, Eq.symm (by go_simp; exact rfl)⟩
  apply headE_val rfl (fun _ => rfl)
  · intro dn r0 K hd hdep hK w5 hB2
    have f1 := cells_of (hB2.u.get HC.out (by simp))
    have HB := Lib.hid (hB2.same 6 (by decide))
    clear hB2 hdep
    simp only [fillE]
    go_wp2_with fail
    first
    | exact hK _ HB.out
    | exact HB.out
  · exact ⟨_, fun _ => rfl, Eq.symm (by go_simp; exact rfl)⟩
  apply headE_val rfl (fun _ => rfl)
  · intro dn r0 K hd hdep hK w5 hB2
    have f1 := cells_of (hB2.u.get HC.out (by simp))
    have HB := Lib.hid (hB2.same 7 (by decide))
    clear hB2 hdep
    simp only [fillE]
    go_wp2_with fail
    first
    | exact hK _ HB.out
    | exact HB.out
  · exact ⟨_, fun _ => rfl, Eq.symm (by go_simp; exact rfl)⟩
  apply headE_val rfl (fun _ => rfl)
  · intro dn r0 K hd hdep hK w5 hB2
    have f1 := cells_of (hB2.u.get HC.out (by simp))
    have HB := Lib.hid (hB2.same 8 (by decide))
    clear hB2 hdep
    simp only [fillE]
    go_wp2_with fail
    first
    | exact hK _ HB.out
    | exact HB.out
  · exact ⟨_, fun _ => rfl, Eq.symm (by go_simp; exact rfl)⟩
  apply headE_val rfl (fun _ => rfl)
  · intro dn r0 K hd hdep hK w5 hB2
    have f1 := cells_of (hB2.u.get HC.out (by simp))
    have HB := Lib.hid (hB2.same 9 (by decide))
    clear hB2 hdep
    simp only [fillE]
    go_wp2_with fail
    first
    | exact hK _ HB.out
    | exact HB.out
  · exact ⟨_, fun _ => rfl, Eq.symm (by go_simp; exact rfl)⟩
  apply headE_val rfl (fun _ => rfl)
  · intro dn r0 K hd hdep hK w5 hB2
    have f1 := cells_of (hB2.u.get HC.out (by simp))
    have HB := Lib.hid (hB2.same 10 (by decide))
    clear hB2 hdep
    simp only [fillE]
    go_wp2_with fail
    first
    | exact hK _ HB.out
    | exact HB.out
  · exact ⟨_, fun _ => rfl, Eq.symm (by go_simp; exact rfl)⟩
  apply headE_val rfl (fun _ => rfl)
  · intro dn r0 K hd hdep hK w5 hB2
    have f1 := cells_of (hB2.u.get HC.out (by simp))
    have HB := Lib.hid (hB2.same 11 (by decide))
    clear hB2 hdep
    simp only [fillE]
    go_wp2_with fail
    first
    | exact hK _ HB.out
    | exact HB.out
  · exact ⟨_, fun _ => rfl, Eq.symm (by go_simp; exact rfl)⟩
  apply headE_val rfl (fun _ => rfl)
  · intro dn r0 K hd hdep hK w5 hB2
    have f1 := cells_of (hB2.u.get HC.out (by simp))
    have HB := Lib.hid (hB2.same 12 (by decide))
    clear hB2 hdep
    simp only [fillE]
    go_wp2_with fail
    first
    | exact hK _ HB.out
    | exact HB.out
  · exact ⟨_, fun _ => rfl, Eq.symm (by go_simp; exact rfl)⟩
  refine headE_free rfl (fun _ => rfl) 16 rfl (by simp [Act.put]) ?_ ?_
  · intro dn r0 K hd w5 hB2 hK
    have HB := Lib.hid hB2
    clear hB2
    simp only [fillE]
    go_wp2_with (go_at_call 42; refine (mclone_any b n D _ (ownsMap_keep H.out.1.mp HB.out.u (by simp))).mono ?_; rintro e w6 ⟨rfl, h1, h3⟩; have H1 := Lib.hid (HB.out.maps hd h1 h3); clear h1 h3)
    first
    | exact hK _ _ H1.out
    | exact H1.out
  apply headE_val rfl (fun _ => rfl)
  · intro dn r0 K hd hdep hK w5 hB2
    have f1 := cells_of (hB2.u.get HC.out (by simp))
    have HB := Lib.hid (hB2.same 14 (by decide))
    clear hB2 hdep
    simp only [fillE]
    go_wp2_with fail
    first
    | exact hK _ HB.out
    | exact HB.out
  · exact ⟨_, fun _ => rfl, Eq.symm (by go_simp; exact rfl)⟩
  apply headE_val rfl (fun _ => rfl)
  · intro dn r0 K hd hdep hK w5 hB2
    have f1 := cells_of (hB2.u.get HC.out (by simp))
    have HB := Lib.hid (hB2.same 15 (by decide))
    clear hB2 hdep
    simp only [fillE]
    go_wp2_with fail
    first
    | exact hK _ HB.out
    | exact HB.out
  · exact ⟨_, fun _ => rfl, Eq.symm (by go_simp; exact rfl)⟩
  apply headE_val rfl (fun _ => rfl)
  · intro dn r0 K hd hdep hK w5 hB2
    have f1 := cells_of (hB2.u.get HC.out (by simp))
    have HB := Lib.hid (hB2.same 16 (by decide))
    clear hB2 hdep
    simp only [fillE]
    go_wp2_with fail
    first
    | exact hK _ HB.out
    | exact HB.out
  · exact ⟨_, fun _ => rfl, Eq.symm (by go_simp; exact rfl)⟩
  apply headE_val rfl (fun _ => rfl)
  · intro dn r0 K hd hdep hK w5 hB2
    have f1 := cells_of (hB2.u.get HC.out (by simp))
    have HB := Lib.hid (hB2.same 17 (by decide))
    clear hB2 hdep
    simp only [fillE]
    go_wp2_with fail
    first
    | exact hK _ HB.out
    | exact HB.out
  · exact ⟨_, fun _ => rfl, Eq.symm (by go_simp; exact rfl)⟩
  refine headE_freeD rfl (fun _ => rfl) 21 rfl (by simp [Act.put]) ?_ ?_
  · intro dn r0 K hd hdep w5 hB2 hK
    have h4 : dn 4 = true := hdep ⟨4, .data⟩ (by simp) rfl
    have h13 : dn 13 = true := hdep ⟨13, .data⟩ (by simp) rfl
    obtain ⟨g', a1, _⟩ := hB2.a h4
    obtain ⟨b', b1, _⟩ := hB2.b h13
    obtain ⟨sa, sc, e4⟩ := a1.form
    have HB := Lib.hid (hB2.put18 h4 h13)
    have E4 := Lib.hid e4
    have E13 := Lib.hid b1
    clear hB2 hdep h4 h13 a1
    simp only [fillE]
    rw [e4, b1]
    clear e4 b1
    go_wp2_with fail
    rw [← E4.out, ← E13.out]
    first
    | exact hK _ _ HB.out
    | exact HB.out
  refine headE_freeD rfl (fun _ => rfl) 22 rfl (by simp [Act.put]) ?_ ?_
  · intro dn r0 K hd hdep w5 hB2 hK
    have h18 : dn 18 = true := hdep ⟨18, .data⟩ (by simp) rfl
    have e18 := hB2.p h18
    have HB := Lib.hid (hB2.box hd h18)
    have E18 := Lib.hid e18
    clear hB2 hdep h18
    simp only [fillE]
    rw [e18]
    clear e18
    go_wp2_with fail
    rw [← E18.out]
    first
    | exact hK _ _ HB.out
    | exact HB.out
  refine headE_freeD rfl (fun _ => rfl) 2 rfl (by simp [Act.put]) ?_ ?_
  · intro dn r0 K hd hdep w5 hB2 hK
    have h19 : dn 19 = true := hdep ⟨19, .data⟩ (by simp) rfl
    have HB := Lib.hid (hB2.last hd h19)
    clear hB2 hdep h19
    simp only [fillE]
    go_wp2_with fail
    first
    | exact hK _ _ HB.out
    | exact HB.out
  refine headE_nil (fun _ r0 w30 dn hall hB2 => ?_)
  obtain ⟨c', b', g', e1, h1, h2⟩ := hB2.c (hall 19 (by decide))
  have e2 := (hB2.q (hall 20 (by decide))).2.trans e1
  have HU := Lib.hid hB2.u
  clear hall hB2
  simp only [fillE]
  rw [e2]
  generalize r0 4 = z4 at *
  generalize r0 13 = z13 at *
  generalize r0 18 = z18 at *
  generalize r0 19 = z19 at *
  go_wp2_with fail
  exact bodyPost_ret (results_one' rfl (res_tmp 2 rfl)) rfl ⟨c', rfl, b', g', h1, h2, HU.out⟩
theorem Copy_any' (c b g : Nat) (C : Cd) (w : World) (h : IsC w c b g C) (hl : C.l.length ≤ 1000) :
    Calls Try.prog 19 #[.pointer (some ⟨c, 0, none⟩)] w fun e w' => ∃ c' b' g', e = .returned (.pointer (some ⟨c', 0, none⟩)) ∧ IsC w' c' b' g' C ∧ (w.heap.size ≤ c' ∧ w.heap.size ≤ b' ∧ w.heap.size ≤ g') ∧ Upd [] w w' := by
  obtain ⟨D, h1, h2⟩ := h
  refine (CopyC_any c b g _ C.l C.i D w h1 hl).mono ?_
  rintro e w' ⟨c', b', g', q1, q2, q3, q4⟩
  exact ⟨c', b', g', q1, ⟨D, q2, h2⟩, q3, q4⟩
end Go.Proofs.Ytdgclmibbmofcaa

/-
  CallDoes: both kinds of calls side by side: the document's call; events held against one another along any order. No condition.
-/
namespace Go.Proofs.Ytdgclmibbmofcaa
open Go Go.RowKit Go.Maps
set_option linter.unusedVariables false
set_option linter.unusedSimpArgs false

section
variable {w w1 w2 : World} {a pb c b d rb : Nat} {M N : Mem} {C E : Cd} {rv ev : Value} {p0 : Nat × Obj} {od od' ob ob' : Obj} {CR : Array Value}
theorem Kc.two (h : Kc w a pb M c b C [p0, (d, od), (rb, ob)] w1) (u : Upd [rb, d] w1 w2) (hd : w2.heap[d]? = some od') (hr : w2.heap[rb]? = some ob') : Kc w a pb M c b C [p0, (d, od'), (rb, ob')] w2 := by
  have t0 := h.t p0 (by simp)
  have t1 := h.t (d, od) (by simp)
  have t2 := h.t (rb, ob) (by simp)
  dsimp only at t1 t2
  have hs := h.s
  obtain ⟨g, h1, h2, h3, h4, h5⟩ := h.cc
  have g0 := h5 p0 (by simp)
  have g1 := h5 (d, od) (by simp)
  have g2 := h5 (rb, ob) (by simp)
  dsimp only at g1 g2
  have ne := hs
  simp at ne
  have ht : ∀ p ∈ [p0, (d, od'), (rb, ob')], p.1 = p0.1 ∨ p.1 = d ∨ p.1 = rb := by
    intro p hp
    simp only [List.mem_cons, List.not_mem_nil, or_false] at hp
    rcases hp with rfl | rfl | rfl <;> simp
  refine ⟨h.m.keep u (by simp; omega) (by simp; omega), ⟨g, h1.keep u (by simp; omega) (by simp; omega) (by simp; omega), h2, h3, h4, fun p hp => ?_⟩, h.u.also u (fun z hz => ?_), fun p hp => ?_, by simpa using hs, fun p hp => ?_, h.o, h.ne⟩
  · rcases ht p hp with e | e | e <;> rw [e] <;> assumption
  · simp at hz; right; omega
  · simp only [List.mem_cons, List.not_mem_nil, or_false] at hp
    rcases hp with rfl | rfl | rfl
    · exact u.get (h.v p (by simp)) (by simp; omega)
    · exact hd
    · exact hr
  · rcases ht p hp with e | e | e <;> rw [e] <;> assumption
theorem DoR_kd (h : Kd w a pb M c b C rv ev E [p0, (d, .cells #[rv, .string E.i, ev] 57 (0, 0)), (rb, .cells CR 30 (0, 0))] w1) (hh : HoldsR CR N ∧ N.Ok) (s : St) (hs : s.Ok) (hl : E.L.length < 100) :
    Calls Try.prog 15 #[.pointer (some ⟨d, 0, none⟩), .pointer (some ⟨rb, 0, none⟩), .agg s.cells] w1 fun e w' => ∃ (rv2 ev2 : Value) (CR2 : Array Value), e = .returned (.tuple #[.agg (s.setR 0 (doR N s E)).cells, .bool (decide (s.R 0 = 1))]) ∧ (HoldsR CR2 (doM N s E) ∧ (doM N s E).Ok) ∧
      Kd w a pb M c b C rv2 ev2 (doC N s E) [p0, (d, .cells #[rv2, .string (doC N s E).i, ev2] 57 (0, 0)), (rb, .cells CR2 30 (0, 0))] w' := by
  obtain ⟨g1, r1, r2, r3, r4⟩ := h.r
  obtain ⟨g2, e1, e2, e3, e4⟩ := h.e
  have hs0 := h.k.s
  simp at hs0
  have a1 : d ≠ g1 := r4 _ (.tail _ (.head _))
  have a2 : rb ≠ g1 := r4 _ (.tail _ (.tail _ (.head _)))
  have b1 : d ≠ g2 := e4 _ (.tail _ (.head _))
  have b2 : rb ≠ g2 := e4 _ (.tail _ (.tail _ (.head _)))
  refine (Do_rc N rb d g1 g2 E rv ev CR s w1 hh (h.k.get 1 rfl) (h.k.get 2 rfl) (by omega) r1 e1 ⟨by omega, by omega, by omega, by omega⟩ hs hl).mono ?_
  rintro e w2 ⟨rv2, ev2, CR2, g3, q1, q2, q3, q4, q5, q6, q7, u⟩
  have lts := h.k.lts
  have hu := h.k.u.size
  have l0 := lt_of_heap (h.k.get 0 rfl)
  have l1 := lt_of_heap (h.k.get 1 rfl)
  have l2 := lt_of_heap (h.k.get 2 rfl)
  have ht : ∀ (o1 o2 : Obj), ∀ p ∈ [p0, (d, o1), (rb, o2)], p.1 = p0.1 ∨ p.1 = d ∨ p.1 = rb := by
    intro o1 o2 p hp
    simp only [List.mem_cons, List.not_mem_nil, or_false] at hp
    rcases hp with rfl | rfl | rfl <;> simp
  have a0 := r4 p0 (by simp)
  refine ⟨rv2, ev2, CR2, q1, q2, h.k.two u q3 q4, ⟨g1, q5, r2, r3, fun p hp => ?_⟩, ⟨g3, q6, by omega, by omega, fun p hp => ?_⟩⟩
  · rcases ht _ _ p hp with e | e | e <;> rw [e] <;> assumption
  · rcases ht _ _ p hp with e | e | e <;> rw [e] <;> omega
theorem Kp.fresh {P : World → Nat → Prop} {L : List (Nat × Obj)} {g : Nat} (hk : Kc w a pb M c b C L w1) (u : Upd [] w1 w2) (h : P w2 g) (hg : w1.heap.size ≤ g) : Kp P w a pb c b L w2 := by
  have l := hk.lts
  have hu := hk.u.size
  exact ⟨g, h, by omega, by omega, fun p hp => by have := lt_of_heap (hk.v p hp); omega⟩
end
/-- An own copy of words: append(nil, v...). -/
theorem wpList_append_rp {ops : Array Oper} {rest : List Oper} {o : Oper} {a : Act} {w : World} {Q : Exit → Act → World → Prop} (hgd : o.guard = none) (s x : Operand)
    (ho : o.op = .call { callee := .builtin .append, args := #[s, x], argTypes := #[50, 50] })
    (hs : a.eval s = .slice none 0 0) (v : Value) (l : List Int) (g : Nat) (hx : a.eval x = v) (hv : Rp w v l g) (hl : l.length ≤ 1000)
    (h : ∀ b c w' g', Rp w' (.slice b l.length c) l g' → w.heap.size ≤ g' → Upd [] w w' → wpList Try.prog ops Q rest (a.put o.dst (.slice b l.length c)) w') : wpList Try.prog ops Q (o :: rest) a w := by
  obtain ⟨i, hi, hz0, hz1, hz2⟩ := info_parts info_u32
  rcases hv with ⟨rfl, rfl⟩ | ⟨of_, c, C, T, f, rfl, hc, hg, hC⟩
  · refine wpList_plain hgd fun _ hK => ?_
    have hr : (Builtin.append_ #[50, 50] o.type #[.slice none 0 0, .slice none 0 0]).run Try.prog w = .ok (.slice none 0 0) w := by
      simp [Builtin.append_, run_underlying Try.underlying50, sizeOf, typeInfo, hi, Builtin.lenOf, Builtin.firstCells, loadCells, loadCellsFrom]
    unfold Oper.wp execOp
    simp only [ho, resolve, invoke, builtin, Sem.run_bind, Sem.run_pure, Result.andThen_ok, List.map_toArray, List.map_cons, List.map_nil, hs, hx, hr]
    exact hK _ _ (h none 0 w w.heap.size (.inl ⟨rfl, rfl⟩) (Nat.le_refl _) (Upd.refl _ _))
  · refine wpList_plain hgd fun _ hK => ?_
    have hnews : ∀ j u, (l.map (Value.int .u32))[j]? = some u → w.cell? ((⟨g, of_, none⟩ : Addr).add j) = some u := by
      intro j u hu
      have hj : j < l.length := by
        have := (List.getElem?_eq_some_iff.1 hu).1
        simpa using this
      rw [Addr.add_lit, cells_of hg, hC j hj]
      rw [List.getElem?_map, List.getElem?_eq_getElem hj] at hu
      simp only [Option.map_some, Option.some.injEq] at hu
      rw [List.getD_eq_getElem?_getD, List.getElem?_eq_getElem hj, Option.getD_some, hu]
    obtain ⟨v', w', h1, h2, h3, _, h5⟩ := run_append_own_at (P := Try.prog) w w.heap.size 50 o.type 33 i _ 1 4 Try.underlying50 hi hz0 hz1 hz2 rfl (by decide) (.slice none 0 0) 0 [] (World.ownsRow_nil _ _ _ _) ⟨g, of_, none⟩ l.length c (l.map (Value.int .u32)) (by simp) hnews
      (by intro u hu; simp only [List.mem_map] at hu; obtain ⟨z, _, rfl⟩ := hu; rfl) (by unfold maxLen; omega) (by omega) (Nat.le_refl _)
    obtain ⟨g', h6, h7⟩ := rp_of_own (l := l) (by simp) (by simp) h2
    have hu : Upd [] w w' := Upd.of_grown (row := none) h3
    obtain ⟨b', c', rfl⟩ := h6.form
    unfold Oper.wp execOp
    simp only [ho, resolve, invoke, builtin, Sem.run_bind, Sem.run_pure, Result.andThen_ok, List.map_toArray, List.map_cons, List.map_nil, hs, hx, h1]
    rcases h7 with h7 | ⟨h7, h8⟩
    · rw [h7] at h6 ⊢
      have hl0 : l = [] := by
        rcases h6 with h6 | ⟨_, _, _, _, _, e, _⟩
        · exact h6.2
        · cases e
      subst hl0
      exact hK _ _ (h none 0 w' w.heap.size (.inl ⟨rfl, rfl⟩) (Nat.le_refl _) hu)
    · exact hK _ _ (h b' c' w' g' h6 h7 hu)
theorem run_neq_st (s : St) (w : World) : (binOp .neq 39 (.agg s.cells) (.agg s.cells)).run Try.prog w = .ok (.bool false) w := by
  have h := run_equalIn_state s s w 9997
  rw [run_neq_struct]
  rw [show (10000 : Nat) = 9997 + 1 + 1 + 1 from rfl, h, Result.andThen_ok, St.eqB_self]; rfl
/-- Along a statement that tells events (i) and holds them against others. -/
structure Qe (wR : World) (L : List Ev) (i : Nat) (dn : Nat → Bool) (r : Nat → Value) (w1 : World) : Prop where
  u : Upd [] wR w1
  e : dn i = true → ∃ g, ESl w1 (r i) L g
section
variable {wR w1 w2 : World} {L : List Ev} {i : Nat} {dn : Nat → Bool} {r : Nat → Value}
theorem Qe.start (wR : World) (L : List Ev) (i : Nat) (r : Nat → Value) : Qe wR L i (fun _ => false) r wR.drew := ⟨(Upd.refl [] wR).drew, fun h => (by cases h)⟩
theorem Qe.same (h : Qe wR L i dn r w1) (j : Nat) (hj : i ≠ j) : Qe wR L i (updD dn j) r w1 := ⟨h.u, by rw [eq_ne hj]; exact h.e⟩
theorem Qe.quiet (h : Qe wR L i dn r w1) (j : Nat) (hj : i ≠ j) (u : Upd [] w1 w2) : Qe wR L i (updD dn j) r w2 :=
  ⟨h.u.also u (by simp), fun hd => by rw [eq_ne hj] at hd; obtain ⟨g, hg⟩ := h.e hd; exact ⟨g, hg.keep u (by simp)⟩⟩
theorem Qe.ev (h : Qe wR L i dn r w1) (u : Upd [] w1 w2) {v : Value} {g : Nat} (hv : ESl w2 v L g) : Qe wR L i (updD dn i) (updV r i v) w2 :=
  ⟨h.u.also u (by simp), fun _ => ⟨g, by rw [ew_eq]; exact hv⟩⟩
end
theorem doC_len (M : Mem) (s : St) (C : Cd) : (doC M s C).L.length = C.L.length + 1 := by simp [doC]
theorem doC_l (M : Mem) (s : St) (C : Cd) : (doC M s C).l.length ≤ C.l.length := by
  unfold doC doL; dsimp only; split
  · simp
  · exact Nat.le_refl _
theorem last_all (C : Cd) (h : C.L.length ≤ 200) : C.last = C.L := by unfold Cd.last; rw [show C.L.length - 200 = 0 by omega, List.drop_zero]
theorem doM_zero (M : Mem) (C : Cd) : doM M St.zero C = M := by unfold doM; simp [St.zero]
end Go.Proofs.Ytdgclmibbmofcaa

/-
  The law CallReads: plain facts. No condition.
-/
namespace Go.Proofs.Ytdgclmibbmofcaa
open Go Go.RowKit Go.Maps
set_option linter.unusedVariables false
set_option linter.unusedSimpArgs false

def crM : Mem := Mem.zero.mapM 0 2 3
def crB (b : Int) : St := ((St.zero.setR 0 3).setR 1 16).setR 2 b
theorem cr_map : Mem.zero.mapB 0 2 3 = true := by decide +kernel
theorem cr_R (p : Nat) : crM.R p = if p < 2 then 3 else 0 := by
  unfold crM Mem.mapM
  rw [cr_map]
  simp only [Mem.mapN, if_true, Mem.zero]
  by_cases h : p < 2
  · rw [if_pos h, if_pos (by simp; omega)]
  · rw [if_neg h, if_neg (by simp; omega)]
theorem cr_can {M : Mem} (hM : M.R = crM.R) (x : Int) (h0 : 0 ≤ x) (h1 : x < 512) : M.can x 2 = true := by
  unfold Mem.can
  rw [hM, cr_R, if_pos (by omega), decide_eq_true (by omega)]
  decide
theorem cr_mapped {M : Mem} (hM : M.R = crM.R) (x : Int) (h0 : 0 ≤ x) (h1 : x < 512) : M.mappedB x = true := by
  unfold Mem.mappedB
  rw [hM, cr_R, if_pos (by omega)]
  simp; omega
theorem writeM1 (M : Mem) (x v : Int) (h0 : 0 ≤ x) (h1 : x < 4294967296) (hc : M.can x 2 = true) (y : Nat) : (M.writeM x 1 v).B y = if y = x.toNat then v % 256 else M.B y := by
  have e1 : plus x 0 = x := by unfold plus; omega
  have e2 : (widthI 1).toNat = 1 := by decide
  have hb : M.bad x 2 (widthI 1).toNat = none := by
    rw [e2, Mem.bad, List.find?_eq_none]
    intro t ht
    have : t = 0 := by simpa using ht
    subst this
    rw [e1, hc]; decide
  unfold Mem.writeM
  rw [hb]
  simp only [e2, Mem.putN, Mem.setB]
  rw [e1]
  simp
set_option maxRecDepth 100000 in
theorem rdMem_B {M : Mem} (hM : M.R = crM.R) (L : List Int) (hL : ∀ i, 0 ≤ L.getD i 0 ∧ L.getD i 0 ≤ 255) (k : Nat) : k ≤ 64 → ∀ i, i < k → (rdMem M 16 L k).B (16 + i) = L.getD i 0 := by
  induction k with
  | zero => intro _ i hi; omega
  | succ k ih =>
    intro hk i hi
    have hR : (rdMem M 16 L k).R = crM.R := by rw [rdMem_R, hM]
    have e1 : plus 16 k = 16 + (k : Int) := plus_sm (by omega) (by omega)
    rw [rdMem, e1, writeM1 _ _ _ (by omega) (by omega) (cr_can hR _ (by omega) (by omega))]
    by_cases h : i = k
    · subst h
      rw [if_pos (by omega)]
      have := hL i
      omega
    · rw [if_neg (by omega)]
      exact ih (by omega) i (by omega)
theorem strInts_len (s : ByteArray) : (strInts s).length = s.size := by
  unfold strInts; rw [List.length_map, Array.length_toList]; rfl
theorem strInts_bnd (s : ByteArray) (i : Nat) : 0 ≤ (strInts s).getD i 0 ∧ (strInts s).getD i 0 ≤ 255 := by
  rw [List.getD_eq_getElem?_getD]
  cases h : (strInts s)[i]? with
  | none => show (0 : Int) ≤ 0 ∧ (0 : Int) ≤ 255; omega
  | some x =>
    have hm := List.mem_of_getElem? h
    rw [strInts, List.mem_map] at hm
    obtain ⟨b, _, rfl⟩ := hm
    have := b.toNat_lt
    show 0 ≤ (b.toNat : Int) ∧ (b.toNat : Int) ≤ 255
    omega
theorem rd_peek {M : Mem} (hM : M.R = crM.R) (s : ByteArray) (hs : s.size ≤ 64) : strOfNums ((rdMem M 16 (strInts s) s.size).peek 16 s.size) = s := by
  have hR : (rdMem M 16 (strInts s) s.size).R = crM.R := by rw [rdMem_R, hM]
  have e : (rdMem M 16 (strInts s) s.size).peek 16 s.size = strInts s := by
    unfold Mem.peek
    rw [show (min (s.size : Int) 16384).toNat = s.size by omega, peekN_all _ _ _ (fun t ht => by rw [plus_sm (by decide) (by omega)]; exact cr_mapped hR _ (by omega) (by omega))]
    apply List.ext_getElem
    · rw [peekL_length, strInts_len]
    · intro i h1 h2
      rw [peekL_length] at h1
      simp only [Mem.peekL, List.getElem_map, List.getElem_range]
      rw [plus_sm (by decide) (by omega), show ((16 : Int) + i).toNat = 16 + i by omega, rdMem_B hM _ (strInts_bnd s) _ hs i h1, List.getD_eq_getElem?_getD, List.getElem?_eq_getElem h2]
      rfl
  rw [e, strOf_ints]
/-- How far the law has come. -/
structure CrI (inp : ByteArray) (rep : List Int) (M : Mem) (C : Cd) (q G asked : Nat) : Prop where
  r : M.R = crM.R
  l : C.l = rep.drop asked
  i : C.i = inp.extract G inp.size
  n : C.L.length = q
  g : G ≤ inp.size
section
variable {inp : ByteArray} {rep : List Int} {M : Mem} {C : Cd} {q G asked : Nat}
theorem CrI.get (h : CrI inp rep M C q G asked) (b : Int) (hb : 0 ≤ b ∧ b < 256) (N : Nat) (hN : N = min (min b 64).toNat (inp.size - G)) :
    CrI inp rep (doM M (crB b) C) (doC M (crB b) C) (q + 1) (G + N) asked ∧ doR M (crB b) C = N ∧ strOfNums ((doM M (crB b) C).peek 16 N) = inp.extract G (G + N) := by
  have e0 : (crB b).R 0 = 3 := rfl
  have e1 : (crB b).R 1 = 16 := rfl
  have e2 : (crB b).R 2 = b := rfl
  have hg := h.g
  have hz : C.i.size = inp.size - G := by rw [h.i, ByteArray.size_extract]; omega
  have eN : rdN C.i b = N := by unfold rdN; rw [hz, hN]
  have hK : rdK M 16 N = true := by
    unfold rdK
    rw [List.all_eq_true]
    intro i hi
    have := List.mem_range.1 hi
    rw [plus_sm (by decide) (by omega)]
    exact cr_can h.r _ (by omega) (by omega)
  have eS : C.i.extract 0 N = inp.extract G (G + N) := by
    rw [h.i, ByteArray.extract_extract]
    congr 1
    omega
  have hsz : (inp.extract G (G + N)).size = N := by rw [ByteArray.size_extract]; omega
  have eM : doM M (crB b) C = rdMem M 16 (strInts (inp.extract G (G + N))) N := by
    unfold doM
    rw [if_pos e0, e1, e2, eN, hK, if_pos rfl, eS]
  refine ⟨⟨?_, ?_, ?_, ?_, by omega⟩, ?_, ?_⟩
  · rw [eM, rdMem_R, h.r]
  · show doL (crB b) C = _
    unfold doL; rw [e0]; exact h.l
  · show doI M (crB b) C = _
    unfold doI
    rw [if_pos e0, e1, e2, eN, hK, if_pos rfl, hz, h.i, ByteArray.extract_extract]
    congr 1
    omega
  · show (C.L ++ [_]).length = _
    rw [List.length_append, h.n]; rfl
  · unfold doR
    rw [e0, e1, e2, eN, hK]; rfl
  · have := rd_peek h.r (inp.extract G (G + N)) (by rw [hsz]; omega)
    rw [hsz] at this
    rw [eM]
    exact this
theorem CrI.start (inp : ByteArray) (rep : List Int) : CrI inp rep crM ⟨rep, inp, []⟩ 0 0 0 :=
  ⟨rfl, rfl, by simp, rfl, Nat.zero_le _⟩
end
/-- A state of which three registers are written, in whatever order. -/
def stD (s : St) (i1 i2 i3 r1 r2 r3 : Nat) (v1 v2 v3 : Int) (d : Nat → Bool) : St :=
  { s with R := fun j => if j = r1 then cond (d i1) v1 (s.R j) else if j = r2 then cond (d i2) v2 (s.R j) else if j = r3 then cond (d i3) v3 (s.R j) else s.R j }
section
variable {s : St} {i1 i2 i3 r1 r2 r3 : Nat} {v1 v2 v3 : Int} {d : Nat → Bool}
theorem stD_same (j : Nat) (h1 : i1 ≠ j) (h2 : i2 ≠ j) (h3 : i3 ≠ j) : stD s i1 i2 i3 r1 r2 r3 v1 v2 v3 (updD d j) = stD s i1 i2 i3 r1 r2 r3 v1 v2 v3 d := by
  unfold stD; simp [updD, h1, h2, h3]
theorem stD_1 (h2 : i2 ≠ i1) (h3 : i3 ≠ i1) : (stD s i1 i2 i3 r1 r2 r3 v1 v2 v3 d).setR r1 v1 = stD s i1 i2 i3 r1 r2 r3 v1 v2 v3 (updD d i1) := by
  unfold stD St.setR; simp only [St.mk.injEq, and_true]; funext j
  by_cases a1 : j = r1 <;> simp [updD, h2, h3, a1]
theorem stD_2 (h1 : i1 ≠ i2) (h3 : i3 ≠ i2) (hr : r2 ≠ r1) : (stD s i1 i2 i3 r1 r2 r3 v1 v2 v3 d).setR r2 v2 = stD s i1 i2 i3 r1 r2 r3 v1 v2 v3 (updD d i2) := by
  unfold stD St.setR; simp only [St.mk.injEq, and_true]; funext j
  by_cases a1 : j = r2
  · subst a1; simp [updD, h1, h3, hr]
  · simp [updD, h1, h3, a1]
theorem stD_3 (h1 : i1 ≠ i3) (h2 : i2 ≠ i3) (hr : r3 ≠ r1) (hr2 : r3 ≠ r2) : (stD s i1 i2 i3 r1 r2 r3 v1 v2 v3 d).setR r3 v3 = stD s i1 i2 i3 r1 r2 r3 v1 v2 v3 (updD d i3) := by
  unfold stD St.setR; simp only [St.mk.injEq, and_true]; funext j
  by_cases a1 : j = r3
  · subst a1; simp [updD, h1, h2, hr, hr2]
  · simp [updD, h1, h2, a1]
theorem stD_none : stD s i1 i2 i3 r1 r2 r3 v1 v2 v3 (fun _ => false) = s := by
  unfold stD; cases s; simp
end
end Go.Proofs.Ytdgclmibbmofcaa

/-
  The law CallPages: its walk. No condition.
-/
namespace Go.Proofs.Ytdgclmibbmofcaa
open Go Go.RowKit Go.Maps
set_option linter.unusedVariables false
set_option linter.unusedSimpArgs false

section
variable {M : Mem} {C : Cd} {k x y z : Int}
end
/-- New calls behind a new memory and a block. -/
theorem New_kr {w w1 : World} {a pb g rb : Nat} {M : Mem} {l : List Int} {i : ByteArray} {v : Value} {o : Obj} (hu : Upd [] w w1) (hM : IsMem w1 a pb M) (h0 : w.heap.size ≤ a ∧ w.heap.size ≤ pb ∧ w.heap.size ≤ rb) (hn : rb ≠ a ∧ rb ≠ pb) (ho : w1.heap[rb]? = some o) (hr : Rp w1 v l g) (hl : l.length ≤ 1000) :
    Calls Try.prog 7 #[v, .string i] w1 fun e w' => ∃ c b, e = .returned (.pointer (some ⟨c, 0, none⟩)) ∧ Kc w a pb M c b ⟨l, i, []⟩ [(rb, o)] w' := by
  refine (New_all l i v g w1 hr hl).mono ?_
  rintro e w2 ⟨c, b, g', rfl, hC, hz, hu2⟩
  have hlt := lt_of_heap ho
  have ha := hM.al
  have hp := hM.pl
  refine ⟨c, b, rfl, hM.keep hu2 (by simp) (by simp), ⟨g', hC, by omega, by omega, by omega, fun p hp => ?_⟩, hu.also hu2 (by simp), fun p hp => ?_, List.pairwise_singleton _ _, fun p hp => ?_, by omega, by omega⟩
  · rw [List.mem_singleton.1 hp]; dsimp only; omega
  · rw [List.mem_singleton.1 hp]; exact hu2.get ho (by simp)
  · rw [List.mem_singleton.1 hp]; dsimp only; omega
/-- Along the statement that writes three registers: stored at 17, 20, 23. -/
def CpD (w : World) (a pb : Nat) (M : Mem) (c b : Nat) (C : Cd) (sb : Nat) (o : Nat × Obj) (k x y z : Int) (d : Nat → Bool) (r : Nat → Value) (w1 : World) : Prop :=
  Kc w a pb M c b C [(sb, .cells (stD (St.zero.setR 0 k) 17 20 23 3 1 2 x y z d).cells 39 (0, 0)), o] w1
section
variable {w w1 : World} {a pb c b sb : Nat} {M : Mem} {C : Cd} {o : Nat × Obj} {k x y z : Int} {d : Nat → Bool} {r : Nat → Value}
theorem CpD.same (h : CpD w a pb M c b C sb o k x y z d r w1) (j : Nat) (h1 : 17 ≠ j) (h2 : 20 ≠ j) (h3 : 23 ≠ j) : CpD w a pb M c b C sb o k x y z (updD d j) r w1 := by
  unfold CpD at *; rw [stD_same j h1 h2 h3]; exact h
theorem CpD.p1 (h : CpD w a pb M c b C sb o k x y z d r w1) : CpD w a pb M c b C sb o k x y z (updD d 17) r (w1.setCell ⟨sb, 3, none⟩ (.int .u32 x)) := by
  have := Kc.putR h 0 rfl 3 (by decide) x
  unfold CpD; rw [← stD_1 (by decide) (by decide)]; exact this
theorem CpD.p2 (h : CpD w a pb M c b C sb o k x y z d r w1) : CpD w a pb M c b C sb o k x y z (updD d 20) r (w1.setCell ⟨sb, 1, none⟩ (.int .u32 y)) := by
  have := Kc.putR h 0 rfl 1 (by decide) y
  unfold CpD; rw [← stD_2 (by decide) (by decide) (by decide)]; exact this
theorem CpD.p3 (h : CpD w a pb M c b C sb o k x y z d r w1) : CpD w a pb M c b C sb o k x y z (updD d 23) r (w1.setCell ⟨sb, 2, none⟩ (.int .u32 z)) := by
  have := Kc.putR h 0 rfl 2 (by decide) z
  unfold CpD; rw [← stD_3 (by decide) (by decide) (by decide) (by decide)]; exact this
theorem CpD.start (h : Kc w a pb M c b C [(sb, .cells (St.zero.setR 0 k).cells 39 (0, 0)), o] w1) (r : Nat → Value) : CpD w a pb M c b C sb o k x y z (fun _ => false) r w1 := by
  unfold CpD; rw [stD_none]; exact h
end
end Go.Proofs.Ytdgclmibbmofcaa
