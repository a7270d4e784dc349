/-
  Package operand: Can, Read8, Write8, each by its contract.
-/
import Derived.Test.YtncafchgdgmeaaaStD
namespace Go.Proofs.Ytncafchgdgmeaaa
open Go Go.RowKit
set_option linter.unusedVariables false
set_option linter.unusedSimpArgs false

def opCanF (M : Mem) (s : St) (o : Opd) (b r : Int) : Flt := if o.k = 3 then M.canF (s.place o) (wd b).toNat r else Flt.zero
def opCanK (M : Mem) (s : St) (o : Opd) (b r : Int) : Bool := if o.k = 3 then M.canK (s.place o) (wd b).toNat r else true

set_option maxRecDepth 100000 in
set_option maxHeartbeats 2000000 in
theorem opCan_any (M : Mem) (a pb : Nat) (s : St) (o : Opd) (b r : Int) (w : World) (hM : IsMem w a pb M) :
    Calls Try.prog 34 #[.pointer (some ⟨a, 0, none⟩), .agg s.cells, o.val, .int .i64 b, .int .i64 r] w fun e w' => e = .returned (.tuple #[(opCanF M s o b r).val, .bool (opCanK M s o b r)]) ∧ Upd [] w w' := by
  have HB := Lib.hid (RdB.start s o w)
  have HM := Lib.hid hM
  clear hM
  unfold Opd.val
  by_cases h3 : o.k = 3
  · have e3 : (o.k == 3) = true := by simpa using h3
    have e3' : (o.k != 3) = false := by simpa using h3
    have hp := place_range s o
    have hq : (b = 1 ∧ (wd b).toNat = 1) ∨ (b ≠ 1 ∧ (wd b).toNat = 4) := by unfold wd; split <;> simp_all
    have HF := Lib.hid (show opCanF M s o b r = M.canF (s.place o) (wd b).toNat r by rw [opCanF, if_pos h3])
    have HK := Lib.hid (show opCanK M s o b r = M.canK (s.place o) (wd b).toNat r by rw [opCanK, if_pos h3])
    clear h3
    rcases hq with ⟨hb, hw⟩ | ⟨hb, hw⟩
    · rw [hw] at HF HK
      have hb1 : (b == 1) = true := by simpa using hb
      have hb2 : (b != 1) = false := by simpa using hb
      subst hb
      clear hw
      go_enter Try.func34, Try.ntmps34
      go_wp2_with (first | (refine wpList_load_state s w.heap.size rfl _ rfl rfl HB.out.s ?_) | (go_at_call 32; refine (Place_any s o _).mono ?_; rintro e w2 ⟨rfl, hu⟩; have H2 := Lib.hid (HB.out.step hu); clear hu) | (go_at_call 78; refine (can_any M a pb 1 (s.place o) r _ (HM.out.keep H2.out.u (by simp) (by simp)) hp.1 hp.2 (by decide)).mono ?_; rintro e w3 ⟨rfl, hu⟩; unfold Flt.val; have H3 := Lib.hid (H2.out.step hu); clear hu H2; have ff := free_of H3.out.f; have cf := cells_of H3.out.f))
      refine bodyPost_ret (results_two' rfl (res_flt 10 (w.heap.size + 1 + 1) _ rfl (store4 H3.out.f _ _ _ _)) (res_tmp _ rfl)) rfl ⟨?_, Upd_store4 H3.out.u (.inr (by omega)) _ _ _ _⟩
      rw [HF.out, HK.out]
      rfl
    · rw [hw] at HF HK
      have hb1 : (b == 1) = false := by simpa using hb
      have hb2 : (b != 1) = true := by simpa using hb
      clear hb hw
      go_enter Try.func34, Try.ntmps34
      go_wp2_with (first | (refine wpList_load_state s w.heap.size rfl _ rfl rfl HB.out.s ?_) | (go_at_call 32; refine (Place_any s o _).mono ?_; rintro e w2 ⟨rfl, hu⟩; have H2 := Lib.hid (HB.out.step hu); clear hu) | (go_at_call 78; refine (can_any M a pb 4 (s.place o) r _ (HM.out.keep H2.out.u (by simp) (by simp)) hp.1 hp.2 (by decide)).mono ?_; rintro e w3 ⟨rfl, hu⟩; unfold Flt.val; have H3 := Lib.hid (H2.out.step hu); clear hu H2; have ff := free_of H3.out.f; have cf := cells_of H3.out.f))
      refine bodyPost_ret (results_two' rfl (res_flt 10 (w.heap.size + 1 + 1) _ rfl (store4 H3.out.f _ _ _ _)) (res_tmp _ rfl)) rfl ⟨?_, Upd_store4 H3.out.u (.inr (by omega)) _ _ _ _⟩
      rw [HF.out, HK.out]
      rfl
  · have e3 : (o.k == 3) = false := by simpa using h3
    have e3' : (o.k != 3) = true := by simpa using h3
    have HF := Lib.hid (show opCanF M s o b r = Flt.zero by rw [opCanF, if_neg h3])
    have HK := Lib.hid (show opCanK M s o b r = true by rw [opCanK, if_neg h3])
    clear h3
    go_enter Try.func34, Try.ntmps34
    go_wp2_with fail
    refine bodyPost_ret (results_two' rfl (res_flt 10 (w.heap.size + 1 + 1) Flt.zero rfl HB.out.f) (res_tmp _ rfl)) rfl ⟨?_, HB.out.u⟩
    rw [HF.out, HK.out]
    rfl

/-! ### Eight bytes -/
structure FkB (S : List Nat) (w : World) (F : Flt) (K : Bool) (w1 : World) : Prop where
  f : w1.heap[w.heap.size]? = some (.cells #[.int .i64 F.k, .int .u32 F.pc, .int .u32 F.a, .int .i64 F.wt] 32 (0, 0))
  k : w1.heap[w.heap.size + 1]? = some (.cells #[.bool K] 4 (0, 0))
  u : Upd S w w1

theorem FkB.start (w : World) : FkB [] w Flt.zero false ((w.alloc (.cells #[.int .i64 0, .int .u32 0, .int .u32 0, .int .i64 0] 32)).alloc (.cells #[.bool false] 4)) :=
  ⟨heap_alloc2_old _ _ _, heap_alloc2_new _ _ _, ((Upd.refl _ _).alloc _).alloc _⟩

theorem FkB.step {S S' T : List Nat} {w w1 w2 : World} {F : Flt} {K : Bool} (h : FkB T w F K w1) (u : Upd S w1 w2) (hS : ∀ x, x ∈ S → x < w.heap.size) (hu : Upd S' w w2) : FkB S' w F K w2 :=
  ⟨u.get h.f (fun hh => by have := hS _ hh; omega), u.get h.k (fun hh => by have := hS _ hh; omega), hu⟩

theorem FkB.st {S : List Nat} {w w1 : World} {F : Flt} {K : Bool} (h : FkB S w F K w1) (F' : Flt) (K' : Bool) :
    FkB S w F' K' (((((w1.setCell ⟨w.heap.size, 0, none⟩ (.int .i64 F'.k)).setCell ⟨w.heap.size, 0 + 1, none⟩ (.int .u32 F'.pc)).setCell ⟨w.heap.size, 0 + 2, none⟩ (.int .u32 F'.a)).setCell ⟨w.heap.size, 0 + 3, none⟩ (.int .i64 F'.wt)).setCell ⟨w.heap.size + 1, 0, none⟩ (.bool K')) := by
  have UK := Upd_store4 (S := [w.heap.size]) (b := w.heap.size) (Upd.refl _ w1) (.inl (by simp)) (.int .i64 F'.k) (.int .u32 F'.pc) (.int .u32 F'.a) (.int .i64 F'.wt)
  exact ⟨heap_set_keep (a := ⟨w.heap.size + 1, 0, none⟩) _ (by simp) (store4 h.f _ _ _ _), heap_set_same (UK.get h.k (by simp)) 0 _, (Upd_store4 (b := w.heap.size) h.u (.inr (Nat.le_refl _)) _ _ _ _).setCell (.inr (by simp)) _⟩

def Mem.rd8K (M : Mem) (x : Int) : Bool := M.readK x 4 1 && M.readK (plus x 4) 4 1
def Mem.rd8F (M : Mem) (x : Int) : Flt := if M.readK x 4 1 then M.rdF (plus x 4) 4 1 else M.rdF x 4 1
def Mem.rd8V (M : Mem) (x : Int) : Int := if M.rd8K x then M.readV x 4 1 + M.readV (plus x 4) 4 1 * 4294967296 else 0

theorem readV_range {w : World} {a pb : Nat} {M : Mem} (h : IsMem w a pb M) (x b r : Int) : 0 ≤ M.readV x b r ∧ M.readV x b r < 4294967296 := by
  unfold Mem.readV
  have hw := width_cases b
  split
  · have := get_bd h x (widthI b).toNat
    rcases hw with hw | hw | hw
    · rw [hw] at this ⊢
      exact ⟨this.1, Int.lt_of_lt_of_le this.2 (by decide)⟩
    · rw [hw] at this ⊢
      exact ⟨this.1, Int.lt_of_lt_of_le this.2 (by decide)⟩
    · rw [hw] at this ⊢
      exact ⟨this.1, this.2⟩
  · omega

theorem join64 (a b : Int) (a0 : 0 ≤ a) (a1 : a < 4294967296) (b0 : 0 ≤ b) (b1 : b < 4294967296) : bits .or .u64 a (b * 4294967296) = a + b * 4294967296 := by
  obtain ⟨a, rfl⟩ := Int.eq_ofNat_of_zero_le a0
  obtain ⟨b, rfl⟩ := Int.eq_ofNat_of_zero_le b0
  have h := u64_or_nat a (b * 4294967296) (by omega) (by omega)
  rw [Nat.or_comm, nat_join 32 _ _ (by omega) (by omega)] at h
  have e : (b : Int) * 4294967296 = ((b * 4294967296 : Nat) : Int) := by omega
  rw [e, h]
  omega

set_option maxRecDepth 100000 in
set_option maxHeartbeats 2000000 in
theorem Read8_any (M : Mem) (a pb : Nat) (x : Int) (w : World) (hM : IsMem w a pb M) (h0 : 0 ≤ x) (h1 : x < 4294967296) :
    Calls Try.prog 40 #[.pointer (some ⟨a, 0, none⟩), .int .u32 x] w fun e w' => e = .returned (.tuple #[.int .u64 (M.rd8V x), (M.rd8F x).val, .bool (M.rd8K x)]) ∧ Upd [] w w' := by
  have HS := Lib.hid (FkB.start w)
  have HM := Lib.hid hM
  clear hM
  have hp4 : 0 ≤ plus x 4 ∧ plus x 4 < 4294967296 := by unfold plus; omega
  have hq : (x + 4) % 4294967296 = plus x 4 := rfl
  cases hk1 : M.readK x 4 1
  · have HV := Lib.hid (show M.rd8V x = 0 ∧ M.rd8F x = M.rdF x 4 1 ∧ M.rd8K x = false by
      refine ⟨?_, ?_, ?_⟩ <;> simp [Mem.rd8V, Mem.rd8F, Mem.rd8K, hk1])
    go_enter_defers Try.func40, Try.ntmps40
    have HK1 := Lib.hid hk1
    clear hk1
    go_wp2_with (first | (go_at_call 20; refine (Read_any M a pb x 4 1 _ (HM.out.keep HS.out.u (by simp) (by simp)) h0 h1).mono ?_; rintro e w2 ⟨rfl, hu⟩; rw [Mem.readF_val, HK1.out]; unfold Flt.val; have H2 := Lib.hid (HS.out.step hu (by simp) (HS.out.u.also hu (by simp))); clear hu; have cf := cells_of H2.out.f; have ff := free_of H2.out.f; have ck := cells_of H2.out.k; have fk := free_of H2.out.k) | (go_at_call 80; refine (must_bad (M.rdF x 4 1) _).mono ?_; rintro e w3 ⟨rfl, hu⟩; have H3 := Lib.hid ((H2.out.st (M.rdF x 4 1) false).step hu (by simp) ((H2.out.st (M.rdF x 4 1) false).u.also hu (by simp))); clear hu))
    refine odoor_panic (fb := w.heap.size) (kb := w.heap.size + 1) (M.rdF x 4 1) (.tuple #[.int .u64 (M.rd8V x), (M.rd8F x).val, .bool (M.rd8K x)]) (fun w9 hf hk hU => ?_) H3.out.f H3.out.k (by omega) (fun w9 hU => ⟨rfl, H3.out.u.also hU (by simp <;> omega)⟩)
    rw [HV.out.1, HV.out.2.1, HV.out.2.2]
    exact results_three' rfl (res_tmp 4 rfl) (res_flt 5 w.heap.size _ rfl hf) (res_bool 6 (w.heap.size + 1) _ rfl hk)
  · have tok1 : True := trivial
    cases hk2 : M.readK (plus x 4) 4 1
    · have HV := Lib.hid (show M.rd8V x = 0 ∧ M.rd8F x = M.rdF (plus x 4) 4 1 ∧ M.rd8K x = false by
        refine ⟨?_, ?_, ?_⟩ <;> simp [Mem.rd8V, Mem.rd8F, Mem.rd8K, hk1, hk2])
      have HK1 := Lib.hid hk1
      have HK2 := Lib.hid hk2
      clear hk1 hk2
      go_enter_defers Try.func40, Try.ntmps40
      go_wp2_with (first | (go_at_call 20; have _t := tok1; refine (Read_any M a pb x 4 1 _ (HM.out.keep HS.out.u (by simp) (by simp)) h0 h1).mono ?_; rintro e w2 ⟨rfl, hu⟩; rw [Mem.readF_val, HK1.out]; unfold Flt.val; have H2 := Lib.hid (HS.out.step hu (by simp) (HS.out.u.also hu (by simp))); clear hu; have cf := cells_of H2.out.f; have ff := free_of H2.out.f; have ck := cells_of H2.out.k; have fk := free_of H2.out.k) | (go_at_call 80; have _t := tok1; refine (must_ok (M.rdF x 4 1) _).mono ?_; rintro e w3 ⟨rfl, hu⟩; have H3 := Lib.hid ((H2.out.st (M.rdF x 4 1) true).step hu (by simp) ((H2.out.st (M.rdF x 4 1) true).u.also hu (by simp))); clear hu tok1 _t cf ff ck fk) | (go_at_call 20; refine (Read_any M a pb (plus x 4) 4 1 _ (HM.out.keep H3.out.u (by simp) (by simp)) hp4.1 hp4.2).mono ?_; rintro e w4 ⟨rfl, hu⟩; rw [Mem.readF_val, HK2.out]; unfold Flt.val; have H4 := Lib.hid (H3.out.step hu (by simp) (H3.out.u.also hu (by simp))); clear hu; have cf := cells_of H4.out.f; have ff := free_of H4.out.f; have ck := cells_of H4.out.k; have fk := free_of H4.out.k) | (go_at_call 80; refine (must_bad (M.rdF (plus x 4) 4 1) _).mono ?_; rintro e w5 ⟨rfl, hu⟩; have H5 := Lib.hid ((H4.out.st (M.rdF (plus x 4) 4 1) false).step hu (by simp) ((H4.out.st (M.rdF (plus x 4) 4 1) false).u.also hu (by simp))); clear hu))
      refine odoor_panic (fb := w.heap.size) (kb := w.heap.size + 1) (M.rdF (plus x 4) 4 1) (.tuple #[.int .u64 (M.rd8V x), (M.rd8F x).val, .bool (M.rd8K x)]) (fun w9 hf hk hU => ?_) H5.out.f H5.out.k (by omega) (fun w9 hU => ⟨rfl, H5.out.u.also hU (by simp <;> omega)⟩)
      rw [HV.out.1, HV.out.2.1, HV.out.2.2]
      exact results_three' rfl (res_tmp 4 rfl) (res_flt 5 w.heap.size _ rfl hf) (res_bool 6 (w.heap.size + 1) _ rfl hk)
    · have hr1 := readV_range HM.out x 4 1
      have hr2 := readV_range HM.out (plus x 4) 4 1
      have hj := join64 _ _ hr1.1 hr1.2 hr2.1 hr2.2
      have HV := Lib.hid (show M.rd8V x = M.readV x 4 1 + M.readV (plus x 4) 4 1 * 4294967296 ∧ M.rd8F x = Flt.zero ∧ M.rd8K x = true by
        refine ⟨?_, ?_, ?_⟩
        · simp [Mem.rd8V, Mem.rd8K, hk1, hk2]
        · rw [Mem.rd8F, if_pos hk1]
          revert hk2
          unfold Mem.readK Mem.rdF
          cases M.bad (plus x 4) (rightI 1) (widthI 4).toNat <;> simp
        · simp [Mem.rd8K, hk1, hk2])
      have HK1 := Lib.hid hk1
      have HK2 := Lib.hid hk2
      clear hk1 hk2
      go_enter_defers Try.func40, Try.ntmps40
      go_wp2_with (first | (go_at_call 20; have _t := tok1; refine (Read_any M a pb x 4 1 _ (HM.out.keep HS.out.u (by simp) (by simp)) h0 h1).mono ?_; rintro e w2 ⟨rfl, hu⟩; rw [Mem.readF_val, HK1.out]; unfold Flt.val; have H2 := Lib.hid (HS.out.step hu (by simp) (HS.out.u.also hu (by simp))); clear hu; have cf := cells_of H2.out.f; have ff := free_of H2.out.f; have ck := cells_of H2.out.k; have fk := free_of H2.out.k) | (go_at_call 80; have _t := tok1; refine (must_ok (M.rdF x 4 1) _).mono ?_; rintro e w3 ⟨rfl, hu⟩; have H3 := Lib.hid ((H2.out.st (M.rdF x 4 1) true).step hu (by simp) ((H2.out.st (M.rdF x 4 1) true).u.also hu (by simp))); clear hu tok1 _t cf ff ck fk) | (go_at_call 20; refine (Read_any M a pb (plus x 4) 4 1 _ (HM.out.keep H3.out.u (by simp) (by simp)) hp4.1 hp4.2).mono ?_; rintro e w4 ⟨rfl, hu⟩; rw [Mem.readF_val, HK2.out]; unfold Flt.val; have H4 := Lib.hid (H3.out.step hu (by simp) (H3.out.u.also hu (by simp))); clear hu; have cf := cells_of H4.out.f; have ff := free_of H4.out.f; have ck := cells_of H4.out.k; have fk := free_of H4.out.k) | (go_at_call 80; refine (must_ok (M.rdF (plus x 4) 4 1) _).mono ?_; rintro e w5 ⟨rfl, hu⟩; have H5 := Lib.hid ((H4.out.st (M.rdF (plus x 4) 4 1) true).step hu (by simp) ((H4.out.st (M.rdF (plus x 4) 4 1) true).u.also hu (by simp))); clear hu cf ff ck fk; have cf := cells_of H5.out.f; have ff := free_of H5.out.f; have ck := cells_of H5.out.k; have fk := free_of H5.out.k))
      have HE := H5.out.st Flt.zero true
      refine odoor_ret (.tuple #[.int .u64 (M.rd8V x), (M.rd8F x).val, .bool (M.rd8K x)]) ?_ ⟨rfl, HE.u⟩
      rw [HV.out.1, HV.out.2.1, HV.out.2.2]
      exact results_three' rfl (res_tmp 4 rfl) (res_flt 5 w.heap.size Flt.zero rfl HE.f) (res_bool 6 (w.heap.size + 1) true rfl HE.k)

end Go.Proofs.Ytncafchgdgmeaaa
