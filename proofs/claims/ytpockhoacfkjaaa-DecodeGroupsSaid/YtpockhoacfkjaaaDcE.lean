/-
  Package decode: one, two, lea: each by its contract.
-/
import Derived.Test.YtpockhoacfkjaaaDcD
import Derived.Test.YtpockhoacfkjaaaDraw3
namespace Go.Proofs.Ytpockhoacfkjaaa
open Go Go.RowKit
set_option linter.unusedVariables false
set_option linter.unusedSimpArgs false

/-- The result's variable at block rb, the decoder at k. -/
structure RS (w : World) (d : Nat) (v : Value) (L : List Int) (g rb k : Nat) (C : Array Value) (w1 : World) : Prop where
  dd : IsDec w1 d v L g k
  uu : Upd [d] w w1
  rr : w1.heap[rb]? = some (.cells C 28 (0, 0))
  nn : d < w.heap.size ∧ w.heap.size ≤ rb

section
variable {w w1 w2 : World} {d : Nat} {v : Value} {L : List Int} {g rb k k' : Nat} {C C' : Array Value}

theorem RS.start (h : IsDec w d v L g k) : RS w d v L g w.heap.size k Ins.zero.cells (w.alloc (.cells Ins.zero.cells 28)) :=
  ⟨h.step ((Upd.refl [] w).alloc _), (Upd.refl [d] w).alloc _, heap_alloc_new _ _, lt_of_heap h.h, Nat.le_refl _⟩

theorem RS.step (h : RS w d v L g rb k C w1) (hd : IsDec w2 d v L g k') (u : Upd [d] w1 w2) : RS w d v L g rb k' C w2 := by
  have hn := h.nn
  exact ⟨hd, h.uu.also u (by simp), u.get h.rr (by simp; omega), hn⟩

theorem RS.same (h : RS w d v L g rb k C w1) (u : Upd [] w1 w2) : RS w d v L g rb k C w2 :=
  ⟨h.dd.step u, h.uu.also u (by simp), u.get h.rr (by simp), h.nn⟩

theorem RS.far (h : RS w d v L g rb k C w1) (hD0 : IsDec w d v L g k') {q : Nat} (u : Upd [q] w1 w2) (hq : rb < q) : RS w d v L g rb k C w2 := by
  have hn := h.nn
  obtain ⟨h1, h2⟩ := dec_fin hD0 h.dd h.uu u (by simp; omega)
  exact ⟨h1, h2, u.get h.rr (by simp; omega), hn⟩

theorem RS.put (h : RS w d v L g rb k C w1) (hD0 : IsDec w d v L g k') (u : Upd [rb] w1 w2) (hr : w2.heap[rb]? = some (.cells C' 28 (0, 0))) : RS w d v L g rb k C' w2 := by
  have hn := h.nn
  obtain ⟨h1, h2⟩ := dec_fin hD0 h.dd h.uu u (by simp; omega)
  exact ⟨h1, h2, hr, hn⟩

theorem RS.store (h : RS w d v L g rb k C w1) (hD0 : IsDec w d v L g k') (hC : C.size = 16) {i : Ins} (hw : w1.setCells rb 0 i.cells.toList = w2) : RS w d v L g rb k i.cells w2 := by
  obtain ⟨h1, h2⟩ := ins_new (S := [rb]) (w0 := w1) hw h.rr hC (Upd.refl _ _) (.inl (by simp))
  exact h.put hD0 h2 h1

theorem RS.lt (h : RS w d v L g rb k C w1) : rb < w1.heap.size := lt_of_heap h.rr
end

set_option maxRecDepth 100000 in
set_option maxHeartbeats 2000000 in
theorem one_any (d g k : Nat) (v : Value) (L : List Int) (op : Int) (m : Mrm) (w : World) (hD : IsDec w d v L g k) (hok : m.Ok) :
    Calls Try.prog 74 #[.pointer (some ⟨d, 0, none⟩), .int .i64 op, .agg m.cells] w (DAns d v L g w (dcOne L op m k) Ins.val) := by
  have HD := Lib.hid hD
  have S := Lib.hid (show RS w d v L g (w.heap.size + 1) k Ins.zero.cells ((w.alloc (.cells m.cells 119)).alloc (.cells Ins.zero.cells 28)) from
    ⟨hD.step (((Upd.refl [] w).alloc _).alloc _), ((Upd.refl [d] w).alloc _).alloc _, heap_alloc2_new _ _ _, lt_of_heap hD.h, by omega⟩)
  have hb := place_any d g k v L m _ S.out.dd hok
  have cm := cells_of (heap_alloc_keep (.cells Ins.zero.cells 28) (heap_alloc_new w (.cells m.cells 119)))
  unfold dcOne
  cases h : dcPlace L m k with
  | err c =>
    rw [h] at hb
    rw [DR.bind_err]
    have HB := Lib.hid hb
    clear hb hD h hok
    unfold Mrm.cells at cm ⊢
    go_enter Try.func74, Try.ntmps74
    go_wp2_with (go_at_call 97; refine HB.out.mono ?_; rintro e w2 ⟨rfl, hu⟩)
    exact ⟨rfl, rfl, S.out.uu.also hu (by simp)⟩
  | ok o k1 =>
    rw [h] at hb
    rw [DR.bind_ok]
    have HB := Lib.hid hb
    clear hb hD h hok
    unfold Mrm.cells at cm ⊢
    go_enter Try.func74, Try.ntmps74
    go_wp2_with (first | (go_at_call 97; refine HB.out.mono ?_; rintro e w2 ⟨rfl, hD2, hu⟩; unfold Opd.val; have S2 := Lib.hid (S.out.step hD2 hu); clear hD2 hu S) | (have _t := S2; clear _t; refine at_store 28 rfl ?_; refine wpList_store_ins ⟨op, 0, o, Opd.none, false, 0⟩ (w.heap.size + 1) rfl _ _ rfl rfl rfl S2.out.rr rfl ?_; intro w3 hw; have S3 := Lib.hid (S2.out.store HD.out rfl hw); clear hw S2))
    exact bodyPost_ret (results_one' rfl (res_ins 6 (w.heap.size + 1) _ rfl S3.out.rr)) rfl ⟨rfl, S3.out.dd, S3.out.uu⟩

theorem bD_ne {d : Nat → Bool} {m i : Nat} (h : i ≠ m) : updD d m i = d i := by simp [updD, h]
theorem bD_eq {d : Nat → Bool} {m : Nat} : updD d m m = true := by simp [updD]
theorem bV_ne {r : Nat → Value} {m i : Nat} {v : Value} (h : i ≠ m) : updV r m v i = r i := by simp [updV, h]
theorem bV_eq {r : Nat → Value} {m : Nat} {v : Value} : updV r m v m = v := by simp [updV]

/-- Along a region with one reading of the decoder (operation c), one new instruction (laid by i, stored by j). -/
structure TwB (w : World) (dd : Nat) (v : Value) (L : List Int) (g rb k1 k2 mb : Nat) (m : Mrm) (I : Ins) (c i j : Nat) (d : Nat → Bool) (r : Nat → Value) (w1 : World) : Prop where
  s : RS w dd v L g rb (if d c = true then k2 else k1) Ins.zero.cells w1
  m : w1.heap[mb]? = some (.cells m.cells 119 (0, 0))
  x : d i = true → ∃ q Z, r i = .pointer (some ⟨q, 0, none⟩) ∧ mb < q ∧ w1.heap[q]? = some (.cells Z 28 (0, 0)) ∧ Z.size = 16 ∧ (d j = true → Z = I.cells)
  o : d j = true → d i = true
  ne : c ≠ i ∧ c ≠ j ∧ i ≠ j
  lt : dd < mb ∧ rb < mb

section
variable {w w1 w2 : World} {dd : Nat} {v : Value} {L : List Int} {g rb k1 k2 mb : Nat} {m : Mrm} {I : Ins} {c i j : Nat} {d : Nat → Bool} {r : Nat → Value}

theorem TwB.start (h : RS w dd v L g rb k1 Ins.zero.cells w1) (hm : w1.heap[mb]? = some (.cells m.cells 119 (0, 0))) (ne : c ≠ i ∧ c ≠ j ∧ i ≠ j) (lt : dd < mb ∧ rb < mb) (r : Nat → Value) : TwB w dd v L g rb k1 k2 mb m I c i j (fun _ => false) r w1 :=
  ⟨by simpa using h, hm, fun h => (by cases h), fun h => (by cases h), ne, lt⟩

theorem TwB.quiet (h : TwB w dd v L g rb k1 k2 mb m I c i j d r w1) (u : Upd [] w1 w2) (q : Nat) (h1 : c ≠ q) (h2 : i ≠ q) (h3 : j ≠ q) : TwB w dd v L g rb k1 k2 mb m I c i j (updD d q) r w2 := by
  refine ⟨by rw [bD_ne h1]; exact h.s.same u, u.get h.m (by simp), fun hx => ?_, fun ho => ?_, h.ne, h.lt⟩
  · rw [bD_ne h2] at hx
    obtain ⟨q', Z, e1, e2, e3, e4, e5⟩ := h.x hx
    exact ⟨q', Z, e1, e2, u.get e3 (by simp), e4, fun hk => e5 (by rwa [bD_ne h3] at hk)⟩
  · rw [bD_ne h3] at ho; rw [bD_ne h2]; exact h.o ho

theorem TwB.same (h : TwB w dd v L g rb k1 k2 mb m I c i j d r w1) (q : Nat) (h1 : c ≠ q) (h2 : i ≠ q) (h3 : j ≠ q) : TwB w dd v L g rb k1 k2 mb m I c i j (updD d q) r w1 := h.quiet (Upd.refl [] w1) q h1 h2 h3

theorem TwB.at1 (h : TwB w dd v L g rb k1 k2 mb m I c i j d r w1) (hd : d c = false) : IsDec w1 dd v L g k1 := by
  have := h.s.dd
  rwa [hd, if_neg (by simp)] at this

theorem TwB.call (h : TwB w dd v L g rb k1 k2 mb m I c i j d r w1) (hD : IsDec w2 dd v L g k2) (u : Upd [dd] w1 w2) : TwB w dd v L g rb k1 k2 mb m I c i j (updD d c) r w2 := by
  obtain ⟨n1, n2, n3⟩ := h.ne
  have hlt := h.lt
  refine ⟨by rw [bD_eq, if_pos rfl]; exact h.s.step hD u, u.get h.m (by simp; omega), fun hx => ?_, fun ho => ?_, h.ne, h.lt⟩
  · rw [bD_ne n1.symm] at hx
    obtain ⟨q', Z, e1, e2, e3, e4, e5⟩ := h.x hx
    exact ⟨q', Z, e1, e2, u.get e3 (by simp; omega), e4, fun hk => e5 (by rwa [bD_ne n2.symm] at hk)⟩
  · rw [bD_ne n2.symm] at ho; rw [bD_ne n1.symm]; exact h.o ho

theorem TwB.lay (h : TwB w dd v L g rb k1 k2 mb m I c i j d r w1) (hd : d i = false) (Z : Array Value) (hZ : Z.size = 16) : TwB w dd v L g rb k1 k2 mb m I c i j (updD d i) (updV r i (.pointer (some ⟨w1.heap.size, 0, none⟩))) (w1.alloc (.cells Z 28)) := by
  obtain ⟨n1, n2, n3⟩ := h.ne
  have u := (Upd.refl [] w1).alloc (.cells Z 28)
  refine ⟨by rw [bD_ne n1]; exact h.s.same u, u.get h.m (by simp), fun _ => ⟨_, _, bV_eq, lt_of_heap h.m, heap_alloc_new _ _, hZ, fun hk => ?_⟩, fun _ => bD_eq, h.ne, h.lt⟩
  rw [bD_ne n3.symm] at hk
  rw [h.o hk] at hd; cases hd
end

end Go.Proofs.Ytpockhoacfkjaaa
