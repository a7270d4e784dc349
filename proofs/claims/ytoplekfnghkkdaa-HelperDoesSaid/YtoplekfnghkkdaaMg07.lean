/-
  Package operand: Can, Read8, Write8, each by its contract.
-/
import Derived.Test.YtoplekfnghkkdaaMg06
namespace Go.Proofs.Ytoplekfnghkkdaa
open Go Go.RowKit
set_option linter.unusedVariables false
set_option linter.unusedSimpArgs false

def opCanF (M : Mem) (s : St) (o : Opd) (b r : Int) : Flt := if o.k = 3 then M.canF (s.place o) (wd b).toNat r else Flt.zero
def opCanK (M : Mem) (s : St) (o : Opd) (b r : Int) : Bool := if o.k = 3 then M.canK (s.place o) (wd b).toNat r else true

set_option maxRecDepth 100000 in
set_option maxHeartbeats 2000000 in
theorem opCan_any (M : Mem) (a pb : Nat) (s : St) (o : Opd) (b r : Int) (w : World) (hM : IsMem w a pb M) :
    Calls Try.prog 134 #[.pointer (some ⟨a, 0, none⟩), .agg s.cells, o.val, .int .i64 b, .int .i64 r] w fun e w' => e = .returned (.tuple #[(opCanF M s o b r).val, .bool (opCanK M s o b r)]) ∧ Upd [] w w' := by
  have HB := Lib.hid (RdB.start s o w)
  have HM := Lib.hid hM
  clear hM
  unfold Opd.val
  by_cases h3 : o.k = 3
  · have e3 : (o.k == 3) = true := by simpa using h3
    have e3' : (o.k != 3) = false := by simpa using h3
    have hp := place_range s o
    have hq : (b = 1 ∧ (wd b).toNat = 1) ∨ (b ≠ 1 ∧ (wd b).toNat = 4) := by unfold wd; split <;> simp_all
    have HF := Lib.hid (show opCanF M s o b r = M.canF (s.place o) (wd b).toNat r by rw [opCanF, if_pos h3])
    have HK := Lib.hid (show opCanK M s o b r = M.canK (s.place o) (wd b).toNat r by rw [opCanK, if_pos h3])
    clear h3
    rcases hq with ⟨hb, hw⟩ | ⟨hb, hw⟩
    · rw [hw] at HF HK
      have hb1 : (b == 1) = true := by simpa using hb
      have hb2 : (b != 1) = false := by simpa using hb
      subst hb
      clear hw
      go_enter Try.func134, Try.ntmps134
      go_wp2_with (first | (refine wpList_load_state s w.heap.size rfl _ rfl rfl HB.out.s ?_) | (go_at_call 193; refine (Place_any s o _).mono ?_; rintro e w2 ⟨rfl, hu⟩; have H2 := Lib.hid (HB.out.step hu); clear hu) | (go_at_call 192; refine (can_any M a pb 1 (s.place o) r _ (HM.out.keep H2.out.u (by simp) (by simp)) hp.1 hp.2 (by decide)).mono ?_; rintro e w3 ⟨rfl, hu⟩; unfold Flt.val; have H3 := Lib.hid (H2.out.step hu); clear hu H2; have ff := free_of H3.out.f; have cf := cells_of H3.out.f))
      refine bodyPost_ret (results_two' rfl (res_flt 10 (w.heap.size + 1 + 1) _ rfl (store4 H3.out.f _ _ _ _)) (res_tmp _ rfl)) rfl ⟨?_, Upd_store4 H3.out.u (.inr (by omega)) _ _ _ _⟩
      rw [HF.out, HK.out]
      rfl
    · rw [hw] at HF HK
      have hb1 : (b == 1) = false := by simpa using hb
      have hb2 : (b != 1) = true := by simpa using hb
      clear hb hw
      go_enter Try.func134, Try.ntmps134
      go_wp2_with (first | (refine wpList_load_state s w.heap.size rfl _ rfl rfl HB.out.s ?_) | (go_at_call 193; refine (Place_any s o _).mono ?_; rintro e w2 ⟨rfl, hu⟩; have H2 := Lib.hid (HB.out.step hu); clear hu) | (go_at_call 192; refine (can_any M a pb 4 (s.place o) r _ (HM.out.keep H2.out.u (by simp) (by simp)) hp.1 hp.2 (by decide)).mono ?_; rintro e w3 ⟨rfl, hu⟩; unfold Flt.val; have H3 := Lib.hid (H2.out.step hu); clear hu H2; have ff := free_of H3.out.f; have cf := cells_of H3.out.f))
      refine bodyPost_ret (results_two' rfl (res_flt 10 (w.heap.size + 1 + 1) _ rfl (store4 H3.out.f _ _ _ _)) (res_tmp _ rfl)) rfl ⟨?_, Upd_store4 H3.out.u (.inr (by omega)) _ _ _ _⟩
      rw [HF.out, HK.out]
      rfl
  · have e3 : (o.k == 3) = false := by simpa using h3
    have e3' : (o.k != 3) = true := by simpa using h3
    have HF := Lib.hid (show opCanF M s o b r = Flt.zero by rw [opCanF, if_neg h3])
    have HK := Lib.hid (show opCanK M s o b r = true by rw [opCanK, if_neg h3])
    clear h3
    go_enter Try.func134, Try.ntmps134
    go_wp2_with fail
    refine bodyPost_ret (results_two' rfl (res_flt 10 (w.heap.size + 1 + 1) Flt.zero rfl HB.out.f) (res_tmp _ rfl)) rfl ⟨?_, HB.out.u⟩
    rw [HF.out, HK.out]
    rfl

/-! ### Eight bytes -/
structure FkB (S : List Nat) (w : World) (F : Flt) (K : Bool) (w1 : World) : Prop where
  f : w1.heap[w.heap.size]? = some (.cells #[.int .i64 F.k, .int .u32 F.pc, .int .u32 F.a, .int .i64 F.wt] 49 (0, 0))
  k : w1.heap[w.heap.size + 1]? = some (.cells #[.bool K] 4 (0, 0))
  u : Upd S w w1

theorem FkB.start (w : World) : FkB [] w Flt.zero false ((w.alloc (.cells #[.int .i64 0, .int .u32 0, .int .u32 0, .int .i64 0] 49)).alloc (.cells #[.bool false] 4)) :=
  ⟨heap_alloc2_old _ _ _, heap_alloc2_new _ _ _, ((Upd.refl _ _).alloc _).alloc _⟩

theorem FkB.step {S S' T : List Nat} {w w1 w2 : World} {F : Flt} {K : Bool} (h : FkB T w F K w1) (u : Upd S w1 w2) (hS : ∀ x, x ∈ S → x < w.heap.size) (hu : Upd S' w w2) : FkB S' w F K w2 :=
  ⟨u.get h.f (fun hh => by have := hS _ hh; omega), u.get h.k (fun hh => by have := hS _ hh; omega), hu⟩

theorem FkB.st {S : List Nat} {w w1 : World} {F : Flt} {K : Bool} (h : FkB S w F K w1) (F' : Flt) (K' : Bool) :
    FkB S w F' K' (((((w1.setCell ⟨w.heap.size, 0, none⟩ (.int .i64 F'.k)).setCell ⟨w.heap.size, 0 + 1, none⟩ (.int .u32 F'.pc)).setCell ⟨w.heap.size, 0 + 2, none⟩ (.int .u32 F'.a)).setCell ⟨w.heap.size, 0 + 3, none⟩ (.int .i64 F'.wt)).setCell ⟨w.heap.size + 1, 0, none⟩ (.bool K')) := by
  have UK := Upd_store4 (S := [w.heap.size]) (b := w.heap.size) (Upd.refl _ w1) (.inl (by simp)) (.int .i64 F'.k) (.int .u32 F'.pc) (.int .u32 F'.a) (.int .i64 F'.wt)
  exact ⟨heap_set_keep (a := ⟨w.heap.size + 1, 0, none⟩) _ (by simp) (store4 h.f _ _ _ _), heap_set_same (UK.get h.k (by simp)) 0 _, (Upd_store4 (b := w.heap.size) h.u (.inr (Nat.le_refl _)) _ _ _ _).setCell (.inr (by simp)) _⟩

def Mem.rd8K (M : Mem) (x : Int) : Bool := M.readK x 4 1 && M.readK (plus x 4) 4 1
def Mem.rd8F (M : Mem) (x : Int) : Flt := if M.readK x 4 1 then M.rdF (plus x 4) 4 1 else M.rdF x 4 1
def Mem.rd8V (M : Mem) (x : Int) : Int := if M.rd8K x then M.readV x 4 1 + M.readV (plus x 4) 4 1 * 4294967296 else 0

theorem readV_range {w : World} {a pb : Nat} {M : Mem} (h : IsMem w a pb M) (x b r : Int) : 0 ≤ M.readV x b r ∧ M.readV x b r < 4294967296 := by
  unfold Mem.readV
  have hw := width_cases b
  split
  · have := get_bd h x (widthI b).toNat
    rcases hw with hw | hw | hw
    · rw [hw] at this ⊢
      exact ⟨this.1, Int.lt_of_lt_of_le this.2 (by decide)⟩
    · rw [hw] at this ⊢
      exact ⟨this.1, Int.lt_of_lt_of_le this.2 (by decide)⟩
    · rw [hw] at this ⊢
      exact ⟨this.1, this.2⟩
  · omega

theorem join64 (a b : Int) (a0 : 0 ≤ a) (a1 : a < 4294967296) (b0 : 0 ≤ b) (b1 : b < 4294967296) : bits .or .u64 a (b * 4294967296) = a + b * 4294967296 := by
  obtain ⟨a, rfl⟩ := Int.eq_ofNat_of_zero_le a0
  obtain ⟨b, rfl⟩ := Int.eq_ofNat_of_zero_le b0
  have h := u64_or_nat a (b * 4294967296) (by omega) (by omega)
  rw [Nat.or_comm, nat_join 32 _ _ (by omega) (by omega)] at h
  have e : (b : Int) * 4294967296 = ((b * 4294967296 : Nat) : Int) := by omega
  rw [e, h]
  omega

set_option maxRecDepth 100000 in
set_option maxHeartbeats 2000000 in
theorem Read8_any (M : Mem) (a pb : Nat) (x : Int) (w : World) (hM : IsMem w a pb M) (h0 : 0 ≤ x) (h1 : x < 4294967296) :
    Calls Try.prog 132 #[.pointer (some ⟨a, 0, none⟩), .int .u32 x] w fun e w' => e = .returned (.tuple #[.int .u64 (M.rd8V x), (M.rd8F x).val, .bool (M.rd8K x)]) ∧ Upd [] w w' := by
  have HS := Lib.hid (FkB.start w)
  have HM := Lib.hid hM
  clear hM
  have hp4 : 0 ≤ plus x 4 ∧ plus x 4 < 4294967296 := by unfold plus; omega
  have hq : (x + 4) % 4294967296 = plus x 4 := rfl
  cases hk1 : M.readK x 4 1
  · have HV := Lib.hid (show M.rd8V x = 0 ∧ M.rd8F x = M.rdF x 4 1 ∧ M.rd8K x = false by
      refine ⟨?_, ?_, ?_⟩ <;> simp [Mem.rd8V, Mem.rd8F, Mem.rd8K, hk1])
    go_enter_defers Try.func132, Try.ntmps132
    have HK1 := Lib.hid hk1
    clear hk1
    go_wp2_with (first | (go_at_call 130; refine (Read_any M a pb x 4 1 _ (HM.out.keep HS.out.u (by simp) (by simp)) h0 h1).mono ?_; rintro e w2 ⟨rfl, hu⟩; rw [Mem.readF_val, HK1.out]; unfold Flt.val; have H2 := Lib.hid (HS.out.step hu (by simp) (HS.out.u.also hu (by simp))); clear hu; have cf := cells_of H2.out.f; have ff := free_of H2.out.f; have ck := cells_of H2.out.k; have fk := free_of H2.out.k) | (go_at_call 191; refine (must_bad (M.rdF x 4 1) _).mono ?_; rintro e w3 ⟨rfl, hu⟩; have H3 := Lib.hid ((H2.out.st (M.rdF x 4 1) false).step hu (by simp) ((H2.out.st (M.rdF x 4 1) false).u.also hu (by simp))); clear hu))
    refine odoor_panic (fb := w.heap.size) (kb := w.heap.size + 1) (M.rdF x 4 1) (.tuple #[.int .u64 (M.rd8V x), (M.rd8F x).val, .bool (M.rd8K x)]) (fun w9 hf hk hU => ?_) H3.out.f H3.out.k (by omega) (fun w9 hU => ⟨rfl, H3.out.u.also hU (by simp <;> omega)⟩)
    rw [HV.out.1, HV.out.2.1, HV.out.2.2]
    exact results_three' rfl (res_tmp 4 rfl) (res_flt 5 w.heap.size _ rfl hf) (res_bool 6 (w.heap.size + 1) _ rfl hk)
  · have tok1 : True := trivial
    cases hk2 : M.readK (plus x 4) 4 1
    · have HV := Lib.hid (show M.rd8V x = 0 ∧ M.rd8F x = M.rdF (plus x 4) 4 1 ∧ M.rd8K x = false by
        refine ⟨?_, ?_, ?_⟩ <;> simp [Mem.rd8V, Mem.rd8F, Mem.rd8K, hk1, hk2])
      have HK1 := Lib.hid hk1
      have HK2 := Lib.hid hk2
      clear hk1 hk2
      go_enter_defers Try.func132, Try.ntmps132
      go_wp2_with (first | (go_at_call 130; have _t := tok1; refine (Read_any M a pb x 4 1 _ (HM.out.keep HS.out.u (by simp) (by simp)) h0 h1).mono ?_; rintro e w2 ⟨rfl, hu⟩; rw [Mem.readF_val, HK1.out]; unfold Flt.val; have H2 := Lib.hid (HS.out.step hu (by simp) (HS.out.u.also hu (by simp))); clear hu; have cf := cells_of H2.out.f; have ff := free_of H2.out.f; have ck := cells_of H2.out.k; have fk := free_of H2.out.k) | (go_at_call 191; have _t := tok1; refine (must_ok (M.rdF x 4 1) _).mono ?_; rintro e w3 ⟨rfl, hu⟩; have H3 := Lib.hid ((H2.out.st (M.rdF x 4 1) true).step hu (by simp) ((H2.out.st (M.rdF x 4 1) true).u.also hu (by simp))); clear hu tok1 _t cf ff ck fk) | (go_at_call 130; refine (Read_any M a pb (plus x 4) 4 1 _ (HM.out.keep H3.out.u (by simp) (by simp)) hp4.1 hp4.2).mono ?_; rintro e w4 ⟨rfl, hu⟩; rw [Mem.readF_val, HK2.out]; unfold Flt.val; have H4 := Lib.hid (H3.out.step hu (by simp) (H3.out.u.also hu (by simp))); clear hu; have cf := cells_of H4.out.f; have ff := free_of H4.out.f; have ck := cells_of H4.out.k; have fk := free_of H4.out.k) | (go_at_call 191; refine (must_bad (M.rdF (plus x 4) 4 1) _).mono ?_; rintro e w5 ⟨rfl, hu⟩; have H5 := Lib.hid ((H4.out.st (M.rdF (plus x 4) 4 1) false).step hu (by simp) ((H4.out.st (M.rdF (plus x 4) 4 1) false).u.also hu (by simp))); clear hu))
      refine odoor_panic (fb := w.heap.size) (kb := w.heap.size + 1) (M.rdF (plus x 4) 4 1) (.tuple #[.int .u64 (M.rd8V x), (M.rd8F x).val, .bool (M.rd8K x)]) (fun w9 hf hk hU => ?_) H5.out.f H5.out.k (by omega) (fun w9 hU => ⟨rfl, H5.out.u.also hU (by simp <;> omega)⟩)
      rw [HV.out.1, HV.out.2.1, HV.out.2.2]
      exact results_three' rfl (res_tmp 4 rfl) (res_flt 5 w.heap.size _ rfl hf) (res_bool 6 (w.heap.size + 1) _ rfl hk)
    · have hr1 := readV_range HM.out x 4 1
      have hr2 := readV_range HM.out (plus x 4) 4 1
      have hj := join64 _ _ hr1.1 hr1.2 hr2.1 hr2.2
      have HV := Lib.hid (show M.rd8V x = M.readV x 4 1 + M.readV (plus x 4) 4 1 * 4294967296 ∧ M.rd8F x = Flt.zero ∧ M.rd8K x = true by
        refine ⟨?_, ?_, ?_⟩
        · simp [Mem.rd8V, Mem.rd8K, hk1, hk2]
        · rw [Mem.rd8F, if_pos hk1]
          revert hk2
          unfold Mem.readK Mem.rdF
          cases M.bad (plus x 4) (rightI 1) (widthI 4).toNat <;> simp
        · simp [Mem.rd8K, hk1, hk2])
      have HK1 := Lib.hid hk1
      have HK2 := Lib.hid hk2
      clear hk1 hk2
      go_enter_defers Try.func132, Try.ntmps132
      go_wp2_with (first | (go_at_call 130; have _t := tok1; refine (Read_any M a pb x 4 1 _ (HM.out.keep HS.out.u (by simp) (by simp)) h0 h1).mono ?_; rintro e w2 ⟨rfl, hu⟩; rw [Mem.readF_val, HK1.out]; unfold Flt.val; have H2 := Lib.hid (HS.out.step hu (by simp) (HS.out.u.also hu (by simp))); clear hu; have cf := cells_of H2.out.f; have ff := free_of H2.out.f; have ck := cells_of H2.out.k; have fk := free_of H2.out.k) | (go_at_call 191; have _t := tok1; refine (must_ok (M.rdF x 4 1) _).mono ?_; rintro e w3 ⟨rfl, hu⟩; have H3 := Lib.hid ((H2.out.st (M.rdF x 4 1) true).step hu (by simp) ((H2.out.st (M.rdF x 4 1) true).u.also hu (by simp))); clear hu tok1 _t cf ff ck fk) | (go_at_call 130; refine (Read_any M a pb (plus x 4) 4 1 _ (HM.out.keep H3.out.u (by simp) (by simp)) hp4.1 hp4.2).mono ?_; rintro e w4 ⟨rfl, hu⟩; rw [Mem.readF_val, HK2.out]; unfold Flt.val; have H4 := Lib.hid (H3.out.step hu (by simp) (H3.out.u.also hu (by simp))); clear hu; have cf := cells_of H4.out.f; have ff := free_of H4.out.f; have ck := cells_of H4.out.k; have fk := free_of H4.out.k) | (go_at_call 191; refine (must_ok (M.rdF (plus x 4) 4 1) _).mono ?_; rintro e w5 ⟨rfl, hu⟩; have H5 := Lib.hid ((H4.out.st (M.rdF (plus x 4) 4 1) true).step hu (by simp) ((H4.out.st (M.rdF (plus x 4) 4 1) true).u.also hu (by simp))); clear hu cf ff ck fk; have cf := cells_of H5.out.f; have ff := free_of H5.out.f; have ck := cells_of H5.out.k; have fk := free_of H5.out.k))
      have HE := H5.out.st Flt.zero true
      refine odoor_ret (.tuple #[.int .u64 (M.rd8V x), (M.rd8F x).val, .bool (M.rd8K x)]) ?_ ⟨rfl, HE.u⟩
      rw [HV.out.1, HV.out.2.1, HV.out.2.2]
      exact results_three' rfl (res_tmp 4 rfl) (res_flt 5 w.heap.size Flt.zero rfl HE.f) (res_bool 6 (w.heap.size + 1) true rfl HE.k)

end Go.Proofs.Ytoplekfnghkkdaa

/-
  Package operand: Write8, by its contract.
-/
namespace Go.Proofs.Ytoplekfnghkkdaa
open Go Go.RowKit
set_option linter.unusedVariables false
set_option linter.unusedSimpArgs false

/-- What Write8 leaves. -/
def Mem.wr8M (M : Mem) (x v : Int) : Mem := if M.canK x 8 2 then (M.putN x (v % 4294967296) 4).putN (plus x 4) (v / 4294967296) 4 else M

theorem wr8_writes {M : Mem} (hM : M.Ok) (x v : Int) (hv0 : 0 ≤ v) (hv1 : v < 18446744073709551616) (h : M.canK x 8 2 = true) :
    (M.wrF x 4 = Flt.zero ∧ M.writeK x 4 = true ∧ ∀ u, M.writeM x 4 u = M.putN x u 4) ∧
    (∀ N : Mem, N.R = M.R → N.wrF (plus x 4) 4 = Flt.zero ∧ N.writeK (plus x 4) 4 = true ∧ ∀ u, N.writeM (plus x 4) 4 u = N.putN (plus x 4) u 4) := by
  have hl := (canK_iff M x 8 2).1 h
  have hc : ∀ t, t < 8 → M.can (plus x t) 2 = true := fun t ht => (lack_can hM _ (plus_nn _ _) 2 (by simp)).1 (hl t ht)
  have w4 : (widthI 4).toNat = 4 := by decide
  have b1 : M.bad x 2 (widthI 4).toNat = none := (bad_isNone M x _ 2).2 (fun t ht => hc t (by omega))
  refine ⟨⟨by rw [Mem.wrF, b1], by rw [Mem.writeK, b1]; rfl, fun u => by rw [Mem.writeM, b1, w4]⟩, fun N hN => ?_⟩
  have b2 : N.bad (plus x 4) 2 (widthI 4).toNat = none := (bad_isNone N _ _ 2).2 (fun t ht => by
    rw [plus_plus]
    have : N.can (plus x (4 + t)) 2 = M.can (plus x (4 + t)) 2 := by simp only [Mem.can, hN]
    rw [this]
    exact hc _ (by omega))
  exact ⟨by rw [Mem.wrF, b2], by rw [Mem.writeK, b2]; rfl, fun u => by rw [Mem.writeM, b2, w4]⟩

set_option maxRecDepth 100000 in
set_option maxHeartbeats 2000000 in
theorem Write8_any (M : Mem) (a pb : Nat) (x v : Int) (w : World) (hM : IsMem w a pb M) (h0 : 0 ≤ x) (h1 : x < 4294967296) (hv0 : 0 ≤ v) (hv1 : v < 18446744073709551616) :
    Calls Try.prog 133 #[.pointer (some ⟨a, 0, none⟩), .int .u32 x, .int .u64 v] w fun e w' => e = .returned (.tuple #[(M.canF x 8 2).val, .bool (M.canK x 8 2)]) ∧ IsMem w' a pb (M.wr8M x v) ∧ Upd [pb] w w' := by
  have HS := Lib.hid (FkB.start w)
  have HM := Lib.hid hM
  have hp4 : 0 ≤ plus x 4 ∧ plus x 4 < 4294967296 := by unfold plus; omega
  have hq : (x + 4) % 4294967296 = plus x 4 := rfl
  cases hk : M.canK x 8 2
  · have HK := Lib.hid hk
    have HW := Lib.hid (show M.wr8M x v = M by rw [Mem.wr8M, if_neg (by rw [hk]; simp)])
    clear hk hM
    go_enter_defers Try.func133, Try.ntmps133
    go_wp2_with (first | (go_at_call 192; refine (can_any M a pb 8 x 2 _ (HM.out.keep HS.out.u (by simp) (by simp)) h0 h1 (by decide)).mono ?_; rintro e w2 ⟨rfl, hu⟩; rw [HK.out]; have H2 := Lib.hid (HS.out.step hu (by simp) (HS.out.u.also hu (by simp))); clear hu) | (go_at_call 191; refine (must_bad (M.canF x 8 2) _).mono ?_; rintro e w3 ⟨rfl, hu⟩; have H3 := Lib.hid (H2.out.step hu (by simp) (H2.out.u.also hu (by simp))); clear hu))
    refine odoor_panic (fb := w.heap.size) (kb := w.heap.size + 1) (M.canF x 8 2) (.tuple #[(M.canF x 8 2).val, .bool false]) (fun w9 hf hk hU => ?_) H3.out.f H3.out.k (by omega) (fun w9 hU => ?_)
    · exact results_two' rfl (res_flt 6 w.heap.size _ rfl hf) (res_bool 7 (w.heap.size + 1) _ rfl hk)
    · have U9 := H3.out.u.also hU (by simp <;> omega)
      exact ⟨rfl, by rw [HW.out]; exact HM.out.keep U9 (by simp) (by simp), U9.mono (by simp)⟩
  · have hF : M.canF x 8 2 = Flt.zero := by
      revert hk
      unfold Mem.canK Mem.canF
      cases M.canBad x 8 2 <;> simp
    obtain ⟨⟨f1, k1, m1⟩, hN⟩ := wr8_writes hM.ok x v hv0 hv1 hk
    obtain ⟨f2, k2, m2⟩ := hN (M.putN x (v % 4294967296) 4) (Mem.putN_R _ _ _ _)
    have HK := Lib.hid hk
    have HW := Lib.hid (show M.wr8M x v = (M.putN x (v % 4294967296) 4).putN (plus x 4) (v / 4294967296) 4 by rw [Mem.wr8M, if_pos hk])
    have H1 := Lib.hid (And.intro f1 (And.intro k1 (m1 (v % 4294967296))))
    have H2' := Lib.hid (And.intro f2 (And.intro k2 (m2 (v / 4294967296))))
    have HF := Lib.hid hF
    have hv2 : 0 ≤ v % 4294967296 := by omega
    have hv3 : v % 4294967296 < 4294967296 := by omega
    have hv4 : 0 ≤ v / 4294967296 := by omega
    have hv5 : v / 4294967296 < 4294967296 := by omega
    have hv6 : v / 4294967296 % 4294967296 = v / 4294967296 := by omega
    have hal := hM.al
    have hpl := hM.pl
    clear hk hM hF f1 k1 m1 f2 k2 m2 hN
    have tok1 : True := trivial
    have tok2 : True := trivial
    go_enter_defers Try.func133, Try.ntmps133
    go_wp2_with (first | (go_at_call 192; refine (can_any M a pb 8 x 2 _ (HM.out.keep HS.out.u (by simp) (by simp)) h0 h1 (by decide)).mono ?_; rintro e w2 ⟨rfl, hu⟩; rw [HK.out, HF.out]; have H2 := Lib.hid (HS.out.step hu (by simp) (HS.out.u.also hu (by simp))); clear hu) | (go_at_call 191; have _t := tok1; refine (must_ok Flt.zero _).mono ?_; rintro e w3 ⟨rfl, hu⟩; have H3 := Lib.hid (H2.out.step hu (by simp) (H2.out.u.also hu (by simp))); clear hu tok1 _t H2) | (go_at_call 131; have _t := tok2; refine (Write_any M a pb x 4 (v % 4294967296) _ (HM.out.keep H3.out.u (by simp) (by simp)) h0 h1 hv2 hv3).mono ?_; rintro e w4 ⟨rfl, hM4, hu⟩; rw [Mem.writeF_val, H1.out.1, H1.out.2.1]; rw [H1.out.2.2] at hM4; have HM4 := Lib.hid hM4; have H4 := Lib.hid (H3.out.step (S' := [pb]) hu (by simp; omega) ((H3.out.u.mono (by simp)).also hu (by simp))); clear hu hM4 tok2 _t) | (go_at_call 191; have _t := H4; refine (must_ok Flt.zero _).mono ?_; rintro e w5 ⟨rfl, hu⟩; have H5 := Lib.hid (H4.out.step hu (by simp) (H4.out.u.also hu (by simp))); have HM5 := Lib.hid (HM4.out.keep hu (by simp) (by simp)); clear hu H4 _t) | (go_at_call 131; refine (Write_any (M.putN x (v % 4294967296) 4) a pb (plus x 4) 4 (v / 4294967296) _ HM5.out hp4.1 hp4.2 hv4 hv5).mono ?_; rintro e w6 ⟨rfl, hM6, hu⟩; rw [Mem.writeF_val, H2'.out.1, H2'.out.2.1]; rw [H2'.out.2.2] at hM6; have HM6 := Lib.hid hM6; have H6 := Lib.hid (H5.out.step (S' := [pb]) hu (by simp; omega) (H5.out.u.also hu (by simp))); clear hu hM6) | (go_at_call 191; refine (must_ok Flt.zero _).mono ?_; rintro e w7 ⟨rfl, hu⟩; have H7 := Lib.hid (H6.out.step hu (by simp) (H6.out.u.also hu (by simp))); have HM7 := Lib.hid (HM6.out.keep hu (by simp) (by simp)); clear hu H6; have cf := cells_of H7.out.f; have ff := free_of H7.out.f; have ck := cells_of H7.out.k; have fk := free_of H7.out.k))
    have HE := H7.out.st Flt.zero true
    have hE : Upd [w.heap.size, w.heap.size + 1] w7 (((((w7.setCell ⟨w.heap.size, 0, none⟩ (.int .i64 Flt.zero.k)).setCell ⟨w.heap.size, 0 + 1, none⟩ (.int .u32 Flt.zero.pc)).setCell ⟨w.heap.size, 0 + 2, none⟩ (.int .u32 Flt.zero.a)).setCell ⟨w.heap.size, 0 + 3, none⟩ (.int .i64 Flt.zero.wt)).setCell ⟨w.heap.size + 1, 0, none⟩ (.bool true)) :=
      (Upd_store4 (b := w.heap.size) (Upd.refl _ w7) (.inl (by simp)) _ _ _ _).setCell (.inl (by simp)) _
    refine odoor_ret (.tuple #[(M.canF x 8 2).val, .bool true]) ?_ ⟨by rw [HF.out], by rw [HW.out]; exact HM7.out.keep hE (by simp; omega) (by simp; omega), HE.u⟩
    rw [HF.out]
    exact results_two' rfl (res_flt 6 w.heap.size Flt.zero rfl HE.f) (res_bool 7 (w.heap.size + 1) true rfl HE.k)

end Go.Proofs.Ytoplekfnghkkdaa

/-
  Package helper: what stands behind a call: arg, two, must, answers, number, each by its contract. No condition.
-/
namespace Go.Proofs.Ytoplekfnghkkdaa
open Go Go.RowKit
set_option linter.unusedVariables false
set_option linter.unusedSimpArgs false

/-- One that asks: its host, its memory. -/
structure IsAsk (w : World) (ab hb a : Nat) : Prop where
  h : w.heap[ab]? = some (.cells #[.pointer (some ⟨hb, 0, none⟩), .pointer (some ⟨a, 0, none⟩)] 129 (0, 0))
theorem IsAsk.keep {w w' : World} {ab hb a : Nat} {S : List Nat} (h : IsAsk w ab hb a) (u : Upd S w w') (hn : ab ∉ S) : IsAsk w' ab hb a := ⟨u.get h.h hn⟩

set_option maxRecDepth 100000 in
set_option maxHeartbeats 400000 in
theorem arg_any (H : Hs) (ab hb a : Nat) (i : Int) (hi : 0 ≤ i ∧ i ≤ 8) (w : World) (h : IsHost w hb H) (hA : IsAsk w ab hb a) :
    Calls Try.prog 127 #[.pointer (some ⟨ab, 0, none⟩), .int .i64 i] w fun e w' => e = .returned (.int .u32 (H.get (10 + i))) ∧ w = w' := by
  have c := cells_of hA.h
  have HH := Lib.hid h
  have q : wrap64 (10 + i) = 10 + i := by unfold wrap64; omega
  clear h hA
  go_enter Try.func127, Try.ntmps127
  go_wp2_with (go_at_call 25; refine (X_any H hb (10 + i) _ HH.out).mono ?_; rintro e w' ⟨rfl, rfl⟩)
  go_ret
  exact ⟨rfl, rfl⟩

/-- Two arguments as one number. -/
def Hs.two (H : Hs) (i : Int) : Int := H.get (10 + i) + H.get (11 + i) * 4294967296

set_option maxRecDepth 100000 in
set_option maxHeartbeats 400000 in
theorem two_any (H : Hs) (ab hb a : Nat) (i : Int) (hi : 0 ≤ i ∧ i ≤ 4) (w : World) (h : IsHost w hb H) (hA : IsAsk w ab hb a) :
    Calls Try.prog 117 #[.pointer (some ⟨ab, 0, none⟩), .int .i64 i] w fun e w' => e = .returned (.int .u64 (H.two i)) ∧ w = w' := by
  have HH := Lib.hid (And.intro h hA)
  have q : wrap64 (i + 1) = i + 1 := by unfold wrap64; omega
  have g1 := Hs.get_range h (10 + i)
  have g2 := Hs.get_range h (11 + i)
  have hj := join64 _ _ g1.1 g1.2 g2.1 g2.2
  have q3 : 10 + (i + 1) = 11 + i := by omega
  have q4 : H.get (11 + i) * 4294967296 % 18446744073709551616 = H.get (11 + i) * 4294967296 := by omega
  clear h hA
  have tok1 : True := trivial
  go_enter Try.func117, Try.ntmps117
  go_wp2_with (first | (have _t := tok1; clear _t; go_at_call 127; refine (arg_any H ab hb a i (by omega) _ HH.out.1 HH.out.2).mono ?_; rintro e w' ⟨rfl, rfl⟩; clear tok1) | (go_at_call 127; refine (arg_any H ab hb a (i + 1) (by omega) _ HH.out.1 HH.out.2).mono ?_; rintro e w' ⟨rfl, rfl⟩; rw [q3]))
  go_ret
  exact ⟨rfl, rfl⟩

theorem hmust_ok (F : Flt) (w : World) : Calls Try.prog 128 #[F.val, .bool true] w fun e w' => e = .returned (.tuple #[]) ∧ Upd [] w w' := by
  unfold Flt.val
  go_enter Try.func128, Try.ntmps128
  go_wp2
  go_end0
  exact ⟨rfl, (Upd.refl _ _).alloc _⟩

theorem hmust_bad (F : Flt) (w : World) : Calls Try.prog 128 #[F.val, .bool false] w fun e w' => e = .panicked [{ v := .iface 49 F.val, recovered := false }] ∧ Upd [] w w' := by
  unfold Flt.val
  go_enter Try.func128, Try.ntmps128
  go_wp2
  exact ⟨rfl, rfl, (Upd.refl _ _).alloc _⟩

set_option maxRecDepth 100000 in
set_option maxHeartbeats 400000 in
theorem answers_any (H : Hs) (ab hb a : Nat) (v : Int) (hv : 0 ≤ v ∧ v < 4294967296) (w : World) (h : IsHost w hb H) (hA : IsAsk w ab hb a) :
    Calls Try.prog 123 #[.pointer (some ⟨ab, 0, none⟩), .int .u32 v] w fun e w' => e = .returned (.tuple #[]) ∧ IsHost w' hb (H.put 10 v) ∧ Upd [hb] w w' := by
  have c := cells_of hA.h
  have HH := Lib.hid (And.intro h hv)
  clear h hA hv
  go_enter Try.func123, Try.ntmps123
  go_wp2_with (go_at_call 20; refine (SetX_any H hb 10 v _ HH.out.1 HH.out.2).mono ?_; rintro e w' ⟨rfl, h1, hu⟩; have H1 := Lib.hid (And.intro h1 hu); clear h1 hu)
  go_end0
  exact ⟨rfl, H1.out.1, H1.out.2⟩

set_option maxRecDepth 100000 in
set_option maxHeartbeats 400000 in
theorem number_any (H : Hs) (ab hb a : Nat) (v : Int) (hv : 0 ≤ v ∧ v < 18446744073709551616) (w : World) (h : IsHost w hb H) (hA : IsAsk w ab hb a) (hne : ab ≠ hb) :
    Calls Try.prog 118 #[.pointer (some ⟨ab, 0, none⟩), .int .u64 v] w fun e w' => e = .returned (.tuple #[]) ∧ IsHost w' hb ((H.put 10 (v % 4294967296)).put 11 (v / 4294967296)) ∧ Upd [hb] w w' := by
  have c := cells_of hA.h
  have HH := Lib.hid (And.intro h (And.intro hA hne))
  have q : v / 4294967296 % 4294967296 = v / 4294967296 := by omega
  have q1 := Lib.hid (show (0 ≤ v % 4294967296 ∧ v % 4294967296 < 4294967296) ∧ (0 ≤ v / 4294967296 ∧ v / 4294967296 < 4294967296) by omega)
  clear h hA hv hne
  have tok1 : True := trivial
  go_enter Try.func118, Try.ntmps118
  go_wp2_with (first | (have _t := tok1; clear _t; go_at_call 20; refine (SetX_any H hb 10 (v % 4294967296) _ HH.out.1 q1.out.1).mono ?_; rintro e w1 ⟨rfl, h1, hu⟩; have H1 := Lib.hid (And.intro h1 hu); clear h1 hu tok1 c; have c := cells_of (HH.out.2.1.keep H1.out.2 (by simpa using HH.out.2.2)).h) | (go_at_call 20; refine (SetX_any (H.put 10 (v % 4294967296)) hb 11 (v / 4294967296) _ H1.out.1 q1.out.2).mono ?_; rintro e w2 ⟨rfl, h1, hu⟩; have H2 := Lib.hid (And.intro h1 (H1.out.2.also hu (by simp))); clear h1 hu))
  go_end0
  exact ⟨rfl, H2.out.1, H2.out.2⟩
end Go.Proofs.Ytoplekfnghkkdaa

/-
  Package alu: Div without signs; package helper: divides: by their contracts. No condition.
-/
namespace Go.Proofs.Ytoplekfnghkkdaa
open Go Go.RowKit
set_option linter.unusedVariables false
set_option linter.unusedSimpArgs false

def divK (lo hi d : Int) : Bool := decide (hi < d)
def divQ (lo hi d : Int) : Int := if hi < d then (hi * 4294967296 + lo) / d else 0
def divR (lo hi d : Int) : Int := if hi < d then (hi * 4294967296 + lo) % d else 0

theorem div_small {lo hi d : Int} (hl : 0 ≤ lo ∧ lo < 4294967296) (hh : 0 ≤ hi ∧ hi < 4294967296) (hd : 0 < d) : (hi * 4294967296 + lo) / d ≤ 4294967295 ↔ hi < d := by
  constructor
  · intro h
    have h1 := Int.lt_ediv_add_one_mul_self (hi * 4294967296 + lo) hd
    have h2 : ((hi * 4294967296 + lo) / d + 1) * d ≤ 4294967296 * d := Int.mul_le_mul_of_nonneg_right (by omega) (by omega)
    have h3 : hi * 4294967296 < 4294967296 * d := by omega
    omega
  · intro h
    have h4 : hi * 4294967296 + lo < 4294967296 * d := by omega
    have := Int.ediv_lt_of_lt_mul hd h4
    omega

set_option maxRecDepth 100000 in
set_option maxHeartbeats 1000000 in
theorem Div_any (lo hi d : Int) (hl : 0 ≤ lo ∧ lo < 4294967296) (hh : 0 ≤ hi ∧ hi < 4294967296) (hd : 0 ≤ d ∧ d < 4294967296) (w : World) :
    Calls Try.prog 126 #[.int .i64 19, .int .u32 lo, .int .u32 hi, .int .u32 d] w fun e w' => e = .returned (.tuple #[.int .u32 (divQ lo hi d), .int .u32 (divR lo hi d), .bool (divK lo hi d)]) ∧ Upd [] w w' := by
  have hmo : Try.prog.follows .mixedOrders = true := by kernel_rfl
  have hj : bits .or .u64 (hi * 4294967296) lo = hi * 4294967296 + lo := by
    obtain ⟨a, rfl⟩ := Int.eq_ofNat_of_zero_le hl.1
    obtain ⟨b, rfl⟩ := Int.eq_ofNat_of_zero_le hh.1
    have h := u64_or_nat (b * 4294967296) a (by omega) (by omega)
    rw [nat_join 32 _ _ (by omega) (by omega)] at h
    have e : ((b : Int)) * 4294967296 = ((b * 4294967296 : Nat) : Int) := by omega
    rw [e, h]
    omega
  have q1 : hi * 4294967296 % 18446744073709551616 = hi * 4294967296 := by omega
  by_cases h0 : d = 0
  · have HV := Lib.hid (show divQ lo hi d = 0 ∧ divR lo hi d = 0 ∧ divK lo hi d = false by
      unfold divQ divR divK
      exact ⟨if_neg (by omega), if_neg (by omega), by rw [decide_eq_false_iff_not]; omega⟩)
    subst h0
    obtain ⟨hl0, hl1⟩ := hl
    obtain ⟨hh0, hh1⟩ := hh
    go_enter Try.func126, Try.ntmps126
    go_wp2
    refine bodyPost_ret (results_three' rfl (res_tmp 8 rfl) (res_tmp 9 rfl) (res_tmp 10 rfl)) rfl ⟨?_, Upd.refl _ _⟩
    rw [HV.out.1, HV.out.2.1, HV.out.2.2]
    rfl
  · have hs := div_small (lo := lo) (hi := hi) (d := d) hl hh (by omega)
    have hd0 : (d == 0) = false := by simpa using h0
    have hn0 : 0 ≤ (hi * 4294967296 + lo) / d := Int.ediv_nonneg (by omega) (by omega)
    have q2 : (hi * 4294967296 + lo).tdiv d = (hi * 4294967296 + lo) / d := Int.tdiv_eq_ediv_of_nonneg (by omega)
    have q3 : (hi * 4294967296 + lo).tmod d = (hi * 4294967296 + lo) % d := Int.tmod_eq_emod_of_nonneg (by omega)
    have hm0 := Int.emod_nonneg (hi * 4294967296 + lo) h0
    have hm1 := Int.emod_lt_of_pos (hi * 4294967296 + lo) (show 0 < d by omega)
    have hle : (hi * 4294967296 + lo) / d ≤ hi * 4294967296 + lo := Int.ediv_le_self _ (by omega)
    have q4 : (hi * 4294967296 + lo) / d % 18446744073709551616 = (hi * 4294967296 + lo) / d := by omega
    have q5 : (hi * 4294967296 + lo) % d % 18446744073709551616 = (hi * 4294967296 + lo) % d := by omega
    have q6 : (hi * 4294967296 + lo) % d % 4294967296 = (hi * 4294967296 + lo) % d := by omega
    by_cases h1 : hi < d
    · have HV := Lib.hid (show divQ lo hi d = (hi * 4294967296 + lo) / d ∧ divR lo hi d = (hi * 4294967296 + lo) % d ∧ divK lo hi d = true by
        unfold divQ divR divK
        exact ⟨if_pos h1, if_pos h1, by simpa using h1⟩)
      have hq := hs.2 h1
      have q7 : (hi * 4294967296 + lo) / d % 4294967296 = (hi * 4294967296 + lo) / d := by omega
      have q8 : decide (4294967295 < (hi * 4294967296 + lo) / d) = false := by rw [decide_eq_false_iff_not]; omega
      obtain ⟨hl0, hl1⟩ := hl
      obtain ⟨hh0, hh1⟩ := hh
      obtain ⟨hd0, hd1⟩ := hd
      clear hs hle h1
      generalize (hi * 4294967296 + lo) / d = q at *
      generalize (hi * 4294967296 + lo) % d = r at *
      go_enter Try.func126, Try.ntmps126
      go_wp2
      refine wp_draw 10 (fun w1 => Upd [] w w1) (fun _ _ => False) (by kernel_rfl) (by kernel_rfl) (Upd.refl [] w).drew (fun _ _ _ h => h.elim) ?_
      simp only [List.take_succ_cons, List.take_zero, List.drop_succ_cons, List.drop_zero]
      iterate 10
        apply headW_val rfl rfl
        · intro K hK w1 hB1
          have HB := Lib.hid hB1
          clear hB1
          go_wp2_with fail
          first
          | exact hK _ HB.out
          | exact HB.out
        · exact ⟨_, rfl⟩
      refine headW_nil (fun _ w7 hB1 => ?_)
      go_wp2_with fail
      refine bodyPost_ret (results_three' rfl (res_tmp 8 rfl) (res_tmp 9 rfl) (res_tmp 10 rfl)) rfl ⟨?_, hB1⟩
      rw [HV.out.1, HV.out.2.1, HV.out.2.2]
      rfl
    · have HV := Lib.hid (show divQ lo hi d = 0 ∧ divR lo hi d = 0 ∧ divK lo hi d = false by
        unfold divQ divR divK
        exact ⟨if_neg h1, if_neg h1, by rw [decide_eq_false_iff_not]; exact h1⟩)
      have hq : ¬ (hi * 4294967296 + lo) / d ≤ 4294967295 := fun h => h1 (hs.1 h)
      have q8 : decide (4294967295 < (hi * 4294967296 + lo) / d) = true := by rw [decide_eq_true_eq]; omega
      obtain ⟨hl0, hl1⟩ := hl
      obtain ⟨hh0, hh1⟩ := hh
      obtain ⟨hd0, hd1⟩ := hd
      clear hs hle h1 hm0 hm1 q5 q6 q3
      generalize (hi * 4294967296 + lo) / d = q at *
      go_enter Try.func126, Try.ntmps126
      go_wp2
      refine bodyPost_ret (results_three' rfl (res_tmp 8 rfl) (res_tmp 9 rfl) (res_tmp 10 rfl)) rfl ⟨?_, Upd.refl _ _⟩
      rw [HV.out.1, HV.out.2.1, HV.out.2.2]
      rfl

theorem divQ_range (lo hi d : Int) (hl : 0 ≤ lo ∧ lo < 4294967296) (hh : 0 ≤ hi ∧ hi < 4294967296) (hd : 0 ≤ d ∧ d < 4294967296) : (0 ≤ divQ lo hi d ∧ divQ lo hi d < 4294967296) ∧ (0 ≤ divR lo hi d ∧ divR lo hi d < 4294967296) := by
  unfold divQ divR
  by_cases h : hi < d
  · rw [if_pos h, if_pos h]
    have h1 := (div_small (lo := lo) (hi := hi) (d := d) hl hh (by omega)).2 h
    have h2 : 0 ≤ (hi * 4294967296 + lo) / d := Int.ediv_nonneg (by omega) (by omega)
    have h3 := Int.emod_nonneg (hi * 4294967296 + lo) (show d ≠ 0 by omega)
    have h4 := Int.emod_lt_of_pos (hi * 4294967296 + lo) (show 0 < d by omega)
    omega
  · rw [if_neg h, if_neg h]; omega

/-- A fault of a division. -/
def Flt.div : Flt := ⟨2, 0, 0, 0⟩

set_option maxRecDepth 100000 in
set_option maxHeartbeats 1000000 in
theorem divides_ok (H : Hs) (ab hb a : Nat) (w : World) (h : IsHost w hb H) (hA : IsAsk w ab hb a) (hne : ab ≠ hb) (hk : divK (H.get 10) (H.get 11) (H.get 12) = true) :
    Calls Try.prog 60 #[.pointer (some ⟨ab, 0, none⟩), .int .u32 5] w fun e w' => e = .returned (.tuple #[]) ∧ IsHost w' hb ((H.put 10 (divQ (H.get 10) (H.get 11) (H.get 12))).put 11 (divR (H.get 10) (H.get 11) (H.get 12))) ∧ Upd [hb] w w' := by
  have HH := Lib.hid (And.intro h (And.intro hA hne))
  have g0 := Lib.hid (Hs.get_range h 10)
  have g1 := Lib.hid (Hs.get_range h 11)
  have g2 := Lib.hid (Hs.get_range h 12)
  have gq := Lib.hid (divQ_range _ _ _ (Hs.get_range h 10) (Hs.get_range h 11) (Hs.get_range h 12))
  have HK := Lib.hid hk
  clear h hA hne hk
  have tok0 : True := trivial
  have tok1 : True := trivial
  have tok2 : True := trivial
  go_enter Try.func60, Try.ntmps60
  go_wp2_with (first | (have _t := tok0; clear _t; go_at_call 127; refine (arg_any H ab hb a 0 (by decide) _ HH.out.1 HH.out.2.1).mono ?_; rintro e w' ⟨rfl, rfl⟩; clear tok0) | (have _t := tok1; clear _t; go_at_call 127; refine (arg_any H ab hb a 1 (by decide) _ HH.out.1 HH.out.2.1).mono ?_; rintro e w' ⟨rfl, rfl⟩; clear tok1) | (have _t := tok2; clear _t; go_at_call 127; refine (arg_any H ab hb a 2 (by decide) _ HH.out.1 HH.out.2.1).mono ?_; rintro e w' ⟨rfl, rfl⟩; clear tok2) | (go_at_call 126; refine (Div_any (H.get 10) (H.get 11) (H.get 12) g0.out g1.out g2.out _).mono ?_; rintro e w1 ⟨rfl, hu⟩; rw [HK.out]; have U1 := Lib.hid hu; clear hu) | (go_at_call 128; refine (hmust_ok Flt.div _).mono ?_; rintro e w2 ⟨rfl, hu⟩; have U2 := Lib.hid (U1.out.also hu (by simp)); clear hu U1) | (have _t := U2; clear _t; go_at_call 123; refine (answers_any H ab hb a _ gq.out.1 _ (HH.out.1.keep U2.out (by simp)) (HH.out.2.1.keep U2.out (by simp))).mono ?_; rintro e w3 ⟨rfl, h3, hu⟩; have H3 := Lib.hid (And.intro h3 ((U2.out.mono (T := [hb]) (by simp)).also hu (by simp))); clear h3 hu U2; have c := cells_of (HH.out.2.1.keep H3.out.2 (by simpa using HH.out.2.2)).h) | (have _t := H3; clear _t; go_at_call 20; refine (SetX_any _ hb 11 _ _ H3.out.1 gq.out.2).mono ?_; rintro e w4 ⟨rfl, h4, hu⟩; have H4 := Lib.hid (And.intro h4 (H3.out.2.also hu (by simp))); clear h4 hu H3))
  go_end0
  exact ⟨rfl, H4.out.1, H4.out.2⟩

set_option maxRecDepth 100000 in
set_option maxHeartbeats 1000000 in
theorem divides_bad (H : Hs) (ab hb a : Nat) (w : World) (h : IsHost w hb H) (hA : IsAsk w ab hb a) (hk : divK (H.get 10) (H.get 11) (H.get 12) = false) :
    Calls Try.prog 60 #[.pointer (some ⟨ab, 0, none⟩), .int .u32 5] w fun e w' => e = .panicked [{ v := .iface 49 Flt.div.val, recovered := false }] ∧ Upd [] w w' := by
  have HH := Lib.hid (And.intro h hA)
  have g0 := Lib.hid (Hs.get_range h 10)
  have g1 := Lib.hid (Hs.get_range h 11)
  have g2 := Lib.hid (Hs.get_range h 12)
  have HK := Lib.hid hk
  clear h hA hk
  have tok0 : True := trivial
  have tok1 : True := trivial
  have tok2 : True := trivial
  go_enter Try.func60, Try.ntmps60
  go_wp2_with (first | (have _t := tok0; clear _t; go_at_call 127; refine (arg_any H ab hb a 0 (by decide) _ HH.out.1 HH.out.2).mono ?_; rintro e w' ⟨rfl, rfl⟩; clear tok0) | (have _t := tok1; clear _t; go_at_call 127; refine (arg_any H ab hb a 1 (by decide) _ HH.out.1 HH.out.2).mono ?_; rintro e w' ⟨rfl, rfl⟩; clear tok1) | (have _t := tok2; clear _t; go_at_call 127; refine (arg_any H ab hb a 2 (by decide) _ HH.out.1 HH.out.2).mono ?_; rintro e w' ⟨rfl, rfl⟩; clear tok2) | (go_at_call 126; refine (Div_any (H.get 10) (H.get 11) (H.get 12) g0.out g1.out g2.out _).mono ?_; rintro e w1 ⟨rfl, hu⟩; rw [HK.out]; have U1 := Lib.hid hu; clear hu) | (go_at_call 128; refine (hmust_bad Flt.div _).mono ?_; rintro e w2 ⟨rfl, hu⟩; have U2 := Lib.hid (U1.out.also hu (by simp)); clear hu U1))
  exact ⟨rfl, rfl, U2.out⟩
end Go.Proofs.Ytoplekfnghkkdaa

/-
  Package alu: Div with signs. No condition.
-/
namespace Go.Proofs.Ytoplekfnghkkdaa
open Go Go.RowKit
set_option linter.unusedVariables false
set_option linter.unusedSimpArgs false

def sdivK (n d : Int) : Bool := !(n == -9223372036854775808 && d == -1) && (decide (-2147483648 ≤ n.tdiv d) && decide (n.tdiv d < 2147483648))
def sdivQ (n d : Int) : Int := if sdivK n d then n.tdiv d % 4294967296 else 0
def sdivR (n d : Int) : Int := if sdivK n d then n.tmod d % 4294967296 else 0

theorem w64_id (q : Int) (h0 : -9223372036854775808 ≤ q) (h1 : q ≤ 9223372036854775807) : wrap64 q = q := by unfold wrap64; omega
theorem w32_id (q : Int) (h0 : -2147483648 ≤ q) (h1 : q ≤ 2147483647) : wrap32 q = q := by unfold wrap32; omega
theorem w32_range (q : Int) : -2147483648 ≤ wrap32 q ∧ wrap32 q ≤ 2147483647 := by unfold wrap32; omega

theorem tdiv_range (n d : Int) (hn : -9223372036854775808 ≤ n ∧ n ≤ 9223372036854775807) (h0 : d ≠ 0) (h1 : ¬(n = -9223372036854775808 ∧ d = -1)) : -9223372036854775808 ≤ n.tdiv d ∧ n.tdiv d ≤ 9223372036854775807 := by
  have ha : (n.tdiv d).natAbs = n.natAbs / d.natAbs := Int.natAbs_tdiv n d
  by_cases hd : d.natAbs = 1
  · have : d = 1 ∨ d = -1 := by omega
    rcases this with rfl | rfl
    · simp; omega
    · simp; omega
  · have h2 : 2 ≤ d.natAbs := by omega
    have h3 : n.natAbs / d.natAbs ≤ n.natAbs / 2 := Nat.div_le_div_left h2 (by decide)
    omega

theorem tmod_range (n d : Int) (hd : -2147483648 ≤ d ∧ d ≤ 2147483647) (h0 : d ≠ 0) : -2147483648 ≤ n.tmod d ∧ n.tmod d ≤ 2147483648 := by
  have ha : (n.tmod d).natAbs = n.natAbs % d.natAbs := Int.natAbs_tmod n d
  have := Nat.mod_lt n.natAbs (show 0 < d.natAbs by omega)
  omega

theorem sdivK_yes {n d q : Int} (hq : n.tdiv d = q) (h1 : ¬(n = -9223372036854775808 ∧ d = -1)) : sdivK n d = (decide (-2147483648 ≤ q) && decide (q < 2147483648)) := by
  have hb : ((n == -9223372036854775808) && (d == -1)) = false := by
    rw [← Bool.not_eq_true, Bool.and_eq_true, beq_iff_eq, beq_iff_eq]; exact h1
  rw [sdivK, hb, hq]
  rfl

set_option maxRecDepth 100000 in
set_option maxHeartbeats 1000000 in
theorem divs_any (n d : Int) (hn : -9223372036854775808 ≤ n ∧ n ≤ 9223372036854775807) (hd : -2147483648 ≤ d ∧ d ≤ 2147483647) (h0 : d ≠ 0) (w : World) :
    Calls Try.prog 185 #[.int .i64 n, .int .i64 d] w fun e w' => e = .returned (.tuple #[.int .u32 (sdivQ n d), .int .u32 (sdivR n d), .bool (sdivK n d)]) ∧ Upd [] w w' := by
  have hmo : Try.prog.follows .mixedOrders = true := by kernel_rfl
  by_cases h1 : n = -9223372036854775808 ∧ d = -1
  · obtain ⟨rfl, rfl⟩ := h1
    have HV := Lib.hid (show sdivQ (-9223372036854775808) (-1) = 0 ∧ sdivR (-9223372036854775808) (-1) = 0 ∧ sdivK (-9223372036854775808) (-1) = false by decide +kernel)
    clear hn hd h0
    go_enter Try.func185, Try.ntmps185
    go_wp2_with fail
    refine bodyPost_ret (results_three' rfl (res_tmp 4 rfl) (res_tmp 5 rfl) (res_tmp 6 rfl)) rfl ⟨?_, Upd.refl _ _⟩
    rw [HV.out.1, HV.out.2.1, HV.out.2.2]
    rfl
  · have hd0 : (d == 0) = false := by simpa using h0
    obtain ⟨q, hq⟩ : ∃ q, n.tdiv d = q := ⟨_, rfl⟩
    obtain ⟨r, hr⟩ : ∃ r, n.tmod d = r := ⟨_, rfl⟩
    have hqr := tdiv_range n d hn h0 h1
    have hrr := tmod_range n d hd h0
    have hK := sdivK_yes hq h1
    rw [hq] at hqr
    rw [hr] at hrr
    have w1 := w64_id q hqr.1 hqr.2
    have w2 := w64_id r (by omega) (by omega)
    by_cases hk : -2147483648 ≤ q ∧ q < 2147483648
    · have hK2 : sdivK n d = true := by rw [hK]; simp; omega
      have HV := Lib.hid (show sdivQ n d = q % 4294967296 ∧ sdivR n d = r % 4294967296 ∧ sdivK n d = true from ⟨by rw [sdivQ, hK2, if_pos rfl, hq], by rw [sdivR, hK2, if_pos rfl, hr], hK2⟩)
      have w3 := w32_id q hk.1 (by omega)
      clear hqr hrr hK hK2 hk hn hd
      cases hm : (n == -9223372036854775808)
      case' true =>
        have hm2 : (d == -1) = false := by
          rw [← Bool.not_eq_true, beq_iff_eq]
          exact fun e => h1 ⟨by simpa using hm, e⟩
      all_goals
        clear h1
        go_enter Try.func185, Try.ntmps185
        go_wp2_with fail
        refine wp_draw 9 (fun w1 => Upd [] w w1) (fun _ _ => False) (by kernel_rfl) (by kernel_rfl) (Upd.refl [] w).drew (fun _ _ _ h => h.elim) ?_
        simp only [List.take_succ_cons, List.take_zero, List.drop_succ_cons, List.drop_zero]
        repeat
          apply headW_val rfl rfl
          · intro K hK w1 hB1
            have HB := Lib.hid hB1
            clear hB1
            go_wp2_with fail
            first
            | exact hK _ HB.out
            | exact HB.out
          · exact ⟨_, rfl⟩
        refine headW_nil (fun _ w7 hB1 => ?_)
        go_wp2_with fail
        refine bodyPost_ret (results_three' rfl (res_tmp 4 rfl) (res_tmp 5 rfl) (res_tmp 6 rfl)) rfl ⟨?_, hB1⟩
        rw [HV.out.1, HV.out.2.1, HV.out.2.2]
        rfl
    · have hK2 : sdivK n d = false := by rw [hK, ← Bool.not_eq_true]; simp; omega
      have HV := Lib.hid (show sdivQ n d = 0 ∧ sdivR n d = 0 ∧ sdivK n d = false from ⟨by rw [sdivQ, hK2]; rfl, by rw [sdivR, hK2]; rfl, hK2⟩)
      obtain ⟨z, hz⟩ : ∃ z, wrap32 q = z := ⟨_, rfl⟩
      have hzr := w32_range q
      rw [hz] at hzr
      have w3 := w64_id z (by omega) (by omega)
      have hne : (q != z) = true := by simp; omega
      clear hqr hrr hK hK2 hk hn hd hzr
      cases hm : (n == -9223372036854775808)
      case' true =>
        have hm2 : (d == -1) = false := by
          rw [← Bool.not_eq_true, beq_iff_eq]
          exact fun e => h1 ⟨by simpa using hm, e⟩
      all_goals
        clear h1
        go_enter Try.func185, Try.ntmps185
        go_wp2_with fail
        refine bodyPost_ret (results_three' rfl (res_tmp 4 rfl) (res_tmp 5 rfl) (res_tmp 6 rfl)) rfl ⟨?_, Upd.refl _ _⟩
        rw [HV.out.1, HV.out.2.1, HV.out.2.2]
        rfl

theorem or_join (lo hi : Int) (hl : 0 ≤ lo ∧ lo < 4294967296) (hh : 0 ≤ hi ∧ hi < 4294967296) : bits .or .u64 (hi * 4294967296) lo = hi * 4294967296 + lo := by
  obtain ⟨a, rfl⟩ := Int.eq_ofNat_of_zero_le hl.1
  obtain ⟨b, rfl⟩ := Int.eq_ofNat_of_zero_le hh.1
  have h := u64_or_nat (b * 4294967296) a (by omega) (by omega)
  rw [nat_join 32 _ _ (by omega) (by omega)] at h
  have e : ((b : Int)) * 4294967296 = ((b * 4294967296 : Nat) : Int) := by omega
  rw [e, h]
  omega

/-- A quotient with signs, of two words by one. -/
def sgK (lo hi d : Int) : Bool := !(d == 0) && sdivK (wrap64 (hi * 4294967296 + lo)) (wrap32 d)
def sgQ (lo hi d : Int) : Int := if d == 0 then 0 else sdivQ (wrap64 (hi * 4294967296 + lo)) (wrap32 d)
def sgR (lo hi d : Int) : Int := if d == 0 then 0 else sdivR (wrap64 (hi * 4294967296 + lo)) (wrap32 d)

theorem sg_range (lo hi d : Int) : (0 ≤ sgQ lo hi d ∧ sgQ lo hi d < 4294967296) ∧ (0 ≤ sgR lo hi d ∧ sgR lo hi d < 4294967296) := by
  unfold sgQ sgR sdivQ sdivR
  split
  · omega
  · split <;> omega

theorem w64_range (q : Int) : -9223372036854775808 ≤ wrap64 q ∧ wrap64 q ≤ 9223372036854775807 := by unfold wrap64; omega

set_option maxRecDepth 100000 in
set_option maxHeartbeats 1000000 in
theorem SDiv_any (lo hi d : Int) (hl : 0 ≤ lo ∧ lo < 4294967296) (hh : 0 ≤ hi ∧ hi < 4294967296) (hd : 0 ≤ d ∧ d < 4294967296) (w : World) :
    Calls Try.prog 126 #[.int .i64 20, .int .u32 lo, .int .u32 hi, .int .u32 d] w fun e w' => e = .returned (.tuple #[.int .u32 (sgQ lo hi d), .int .u32 (sgR lo hi d), .bool (sgK lo hi d)]) ∧ Upd [] w w' := by
  have hj := or_join lo hi hl hh
  have q1 : hi * 4294967296 % 18446744073709551616 = hi * 4294967296 := by omega
  by_cases h0 : d = 0
  · have HV := Lib.hid (show sgQ lo hi d = 0 ∧ sgR lo hi d = 0 ∧ sgK lo hi d = false by
      rw [h0]
      exact ⟨rfl, rfl, rfl⟩)
    subst h0
    obtain ⟨hl0, hl1⟩ := hl
    obtain ⟨hh0, hh1⟩ := hh
    go_enter Try.func126, Try.ntmps126
    go_wp2
    refine bodyPost_ret (results_three' rfl (res_tmp 8 rfl) (res_tmp 9 rfl) (res_tmp 10 rfl)) rfl ⟨?_, Upd.refl _ _⟩
    rw [HV.out.1, HV.out.2.1, HV.out.2.2]
    rfl
  · have hd0 : (d == 0) = false := by simpa using h0
    have hz : wrap32 d ≠ 0 := by unfold wrap32; omega
    obtain ⟨n, hn⟩ : ∃ n, wrap64 (hi * 4294967296 + lo) = n := ⟨_, rfl⟩
    obtain ⟨e, he⟩ : ∃ e, wrap32 d = e := ⟨_, rfl⟩
    have hnr := w64_range (hi * 4294967296 + lo)
    have her := w32_range d
    rw [hn] at hnr
    rw [he] at her hz
    have w1 := w64_id e (by omega) (by omega)
    have HV := Lib.hid (show sgQ lo hi d = sdivQ n e ∧ sgR lo hi d = sdivR n e ∧ sgK lo hi d = sdivK n e by
      unfold sgQ sgR sgK
      rw [hd0, hn, he]
      exact ⟨rfl, rfl, rfl⟩)
    have HR := Lib.hid (And.intro hnr (And.intro her hz))
    obtain ⟨hl0, hl1⟩ := hl
    obtain ⟨hh0, hh1⟩ := hh
    obtain ⟨hd1, hd2⟩ := hd
    clear hnr her hz
    go_enter Try.func126, Try.ntmps126
    go_wp2_with (go_at_call 185; refine (divs_any n e HR.out.1 HR.out.2.1 HR.out.2.2 _).mono ?_; rintro e w2 ⟨rfl, hu⟩; have U2 := Lib.hid hu; clear hu)
    refine bodyPost_ret (results_three' rfl (res_tmp 8 rfl) (res_tmp 9 rfl) (res_tmp 10 rfl)) rfl ⟨?_, U2.out⟩
    rw [HV.out.1, HV.out.2.1, HV.out.2.2]
    rfl

set_option maxRecDepth 100000 in
set_option maxHeartbeats 1000000 in
theorem divides6_ok (H : Hs) (ab hb a : Nat) (w : World) (h : IsHost w hb H) (hA : IsAsk w ab hb a) (hne : ab ≠ hb) (hk : sgK (H.get 10) (H.get 11) (H.get 12) = true) :
    Calls Try.prog 60 #[.pointer (some ⟨ab, 0, none⟩), .int .u32 6] w fun e w' => e = .returned (.tuple #[]) ∧ IsHost w' hb ((H.put 10 (sgQ (H.get 10) (H.get 11) (H.get 12))).put 11 (sgR (H.get 10) (H.get 11) (H.get 12))) ∧ Upd [hb] w w' := by
  have HH := Lib.hid (And.intro h (And.intro hA hne))
  have g0 := Lib.hid (Hs.get_range h 10)
  have g1 := Lib.hid (Hs.get_range h 11)
  have g2 := Lib.hid (Hs.get_range h 12)
  have gq := Lib.hid (sg_range (H.get 10) (H.get 11) (H.get 12))
  have HK := Lib.hid hk
  clear h hA hne hk
  have tok0 : True := trivial
  have tok1 : True := trivial
  have tok2 : True := trivial
  go_enter Try.func60, Try.ntmps60
  go_wp2_with (first | (have _t := tok0; clear _t; go_at_call 127; refine (arg_any H ab hb a 0 (by decide) _ HH.out.1 HH.out.2.1).mono ?_; rintro e w' ⟨rfl, rfl⟩; clear tok0) | (have _t := tok1; clear _t; go_at_call 127; refine (arg_any H ab hb a 1 (by decide) _ HH.out.1 HH.out.2.1).mono ?_; rintro e w' ⟨rfl, rfl⟩; clear tok1) | (have _t := tok2; clear _t; go_at_call 127; refine (arg_any H ab hb a 2 (by decide) _ HH.out.1 HH.out.2.1).mono ?_; rintro e w' ⟨rfl, rfl⟩; clear tok2) | (go_at_call 126; refine (SDiv_any (H.get 10) (H.get 11) (H.get 12) g0.out g1.out g2.out _).mono ?_; rintro e w1 ⟨rfl, hu⟩; rw [HK.out]; have U1 := Lib.hid hu; clear hu) | (go_at_call 128; refine (hmust_ok Flt.div _).mono ?_; rintro e w2 ⟨rfl, hu⟩; have U2 := Lib.hid (U1.out.also hu (by simp)); clear hu U1) | (have _t := U2; clear _t; go_at_call 123; refine (answers_any H ab hb a _ gq.out.1 _ (HH.out.1.keep U2.out (by simp)) (HH.out.2.1.keep U2.out (by simp))).mono ?_; rintro e w3 ⟨rfl, h3, hu⟩; have H3 := Lib.hid (And.intro h3 ((U2.out.mono (T := [hb]) (by simp)).also hu (by simp))); clear h3 hu U2; have c := cells_of (HH.out.2.1.keep H3.out.2 (by simpa using HH.out.2.2)).h) | (have _t := H3; clear _t; go_at_call 20; refine (SetX_any _ hb 11 _ _ H3.out.1 gq.out.2).mono ?_; rintro e w4 ⟨rfl, h4, hu⟩; have H4 := Lib.hid (And.intro h4 (H3.out.2.also hu (by simp))); clear h4 hu H3))
  go_end0
  exact ⟨rfl, H4.out.1, H4.out.2⟩

set_option maxRecDepth 100000 in
set_option maxHeartbeats 1000000 in
theorem divides6_bad (H : Hs) (ab hb a : Nat) (w : World) (h : IsHost w hb H) (hA : IsAsk w ab hb a) (hk : sgK (H.get 10) (H.get 11) (H.get 12) = false) :
    Calls Try.prog 60 #[.pointer (some ⟨ab, 0, none⟩), .int .u32 6] w fun e w' => e = .panicked [{ v := .iface 49 Flt.div.val, recovered := false }] ∧ Upd [] w w' := by
  have HH := Lib.hid (And.intro h hA)
  have g0 := Lib.hid (Hs.get_range h 10)
  have g1 := Lib.hid (Hs.get_range h 11)
  have g2 := Lib.hid (Hs.get_range h 12)
  have HK := Lib.hid hk
  clear h hA hk
  have tok0 : True := trivial
  have tok1 : True := trivial
  have tok2 : True := trivial
  go_enter Try.func60, Try.ntmps60
  go_wp2_with (first | (have _t := tok0; clear _t; go_at_call 127; refine (arg_any H ab hb a 0 (by decide) _ HH.out.1 HH.out.2).mono ?_; rintro e w' ⟨rfl, rfl⟩; clear tok0) | (have _t := tok1; clear _t; go_at_call 127; refine (arg_any H ab hb a 1 (by decide) _ HH.out.1 HH.out.2).mono ?_; rintro e w' ⟨rfl, rfl⟩; clear tok1) | (have _t := tok2; clear _t; go_at_call 127; refine (arg_any H ab hb a 2 (by decide) _ HH.out.1 HH.out.2).mono ?_; rintro e w' ⟨rfl, rfl⟩; clear tok2) | (go_at_call 126; refine (SDiv_any (H.get 10) (H.get 11) (H.get 12) g0.out g1.out g2.out _).mono ?_; rintro e w1 ⟨rfl, hu⟩; rw [HK.out]; have U1 := Lib.hid hu; clear hu) | (go_at_call 128; refine (hmust_bad Flt.div _).mono ?_; rintro e w2 ⟨rfl, hu⟩; have U2 := Lib.hid (U1.out.also hu (by simp)); clear hu U1))
  exact ⟨rfl, rfl, U2.out⟩
end Go.Proofs.Ytoplekfnghkkdaa
