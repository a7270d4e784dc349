/-
  Package operand: Write8, by its contract.
-/
import Derived.Test.YtncafchgdgmeaaaStE
namespace Go.Proofs.Ytncafchgdgmeaaa
open Go Go.RowKit
set_option linter.unusedVariables false
set_option linter.unusedSimpArgs false

/-- What Write8 leaves. -/
def Mem.wr8M (M : Mem) (x v : Int) : Mem := if M.canK x 8 2 then (M.putN x (v % 4294967296) 4).putN (plus x 4) (v / 4294967296) 4 else M

theorem wr8_writes {M : Mem} (hM : M.Ok) (x v : Int) (hv0 : 0 ≤ v) (hv1 : v < 18446744073709551616) (h : M.canK x 8 2 = true) :
    (M.wrF x 4 = Flt.zero ∧ M.writeK x 4 = true ∧ ∀ u, M.writeM x 4 u = M.putN x u 4) ∧
    (∀ N : Mem, N.R = M.R → N.wrF (plus x 4) 4 = Flt.zero ∧ N.writeK (plus x 4) 4 = true ∧ ∀ u, N.writeM (plus x 4) 4 u = N.putN (plus x 4) u 4) := by
  have hl := (canK_iff M x 8 2).1 h
  have hc : ∀ t, t < 8 → M.can (plus x t) 2 = true := fun t ht => (lack_can hM _ (plus_nn _ _) 2 (by simp)).1 (hl t ht)
  have w4 : (widthI 4).toNat = 4 := by decide
  have b1 : M.bad x 2 (widthI 4).toNat = none := (bad_isNone M x _ 2).2 (fun t ht => hc t (by omega))
  refine ⟨⟨by rw [Mem.wrF, b1], by rw [Mem.writeK, b1]; rfl, fun u => by rw [Mem.writeM, b1, w4]⟩, fun N hN => ?_⟩
  have b2 : N.bad (plus x 4) 2 (widthI 4).toNat = none := (bad_isNone N _ _ 2).2 (fun t ht => by
    rw [plus_plus]
    have : N.can (plus x (4 + t)) 2 = M.can (plus x (4 + t)) 2 := by simp only [Mem.can, hN]
    rw [this]
    exact hc _ (by omega))
  exact ⟨by rw [Mem.wrF, b2], by rw [Mem.writeK, b2]; rfl, fun u => by rw [Mem.writeM, b2, w4]⟩

set_option maxRecDepth 100000 in
set_option maxHeartbeats 2000000 in
theorem Write8_any (M : Mem) (a pb : Nat) (x v : Int) (w : World) (hM : IsMem w a pb M) (h0 : 0 ≤ x) (h1 : x < 4294967296) (hv0 : 0 ≤ v) (hv1 : v < 18446744073709551616) :
    Calls Try.prog 38 #[.pointer (some ⟨a, 0, none⟩), .int .u32 x, .int .u64 v] w fun e w' => e = .returned (.tuple #[(M.canF x 8 2).val, .bool (M.canK x 8 2)]) ∧ IsMem w' a pb (M.wr8M x v) ∧ Upd [pb] w w' := by
  have HS := Lib.hid (FkB.start w)
  have HM := Lib.hid hM
  have hp4 : 0 ≤ plus x 4 ∧ plus x 4 < 4294967296 := by unfold plus; omega
  have hq : (x + 4) % 4294967296 = plus x 4 := rfl
  cases hk : M.canK x 8 2
  · have HK := Lib.hid hk
    have HW := Lib.hid (show M.wr8M x v = M by rw [Mem.wr8M, if_neg (by rw [hk]; simp)])
    clear hk hM
    go_enter_defers Try.func38, Try.ntmps38
    go_wp2_with (first | (go_at_call 78; refine (can_any M a pb 8 x 2 _ (HM.out.keep HS.out.u (by simp) (by simp)) h0 h1 (by decide)).mono ?_; rintro e w2 ⟨rfl, hu⟩; rw [HK.out]; have H2 := Lib.hid (HS.out.step hu (by simp) (HS.out.u.also hu (by simp))); clear hu) | (go_at_call 80; refine (must_bad (M.canF x 8 2) _).mono ?_; rintro e w3 ⟨rfl, hu⟩; have H3 := Lib.hid (H2.out.step hu (by simp) (H2.out.u.also hu (by simp))); clear hu))
    refine odoor_panic (fb := w.heap.size) (kb := w.heap.size + 1) (M.canF x 8 2) (.tuple #[(M.canF x 8 2).val, .bool false]) (fun w9 hf hk hU => ?_) H3.out.f H3.out.k (by omega) (fun w9 hU => ?_)
    · exact results_two' rfl (res_flt 6 w.heap.size _ rfl hf) (res_bool 7 (w.heap.size + 1) _ rfl hk)
    · have U9 := H3.out.u.also hU (by simp <;> omega)
      exact ⟨rfl, by rw [HW.out]; exact HM.out.keep U9 (by simp) (by simp), U9.mono (by simp)⟩
  · have hF : M.canF x 8 2 = Flt.zero := by
      revert hk
      unfold Mem.canK Mem.canF
      cases M.canBad x 8 2 <;> simp
    obtain ⟨⟨f1, k1, m1⟩, hN⟩ := wr8_writes hM.ok x v hv0 hv1 hk
    obtain ⟨f2, k2, m2⟩ := hN (M.putN x (v % 4294967296) 4) (Mem.putN_R _ _ _ _)
    have HK := Lib.hid hk
    have HW := Lib.hid (show M.wr8M x v = (M.putN x (v % 4294967296) 4).putN (plus x 4) (v / 4294967296) 4 by rw [Mem.wr8M, if_pos hk])
    have H1 := Lib.hid (And.intro f1 (And.intro k1 (m1 (v % 4294967296))))
    have H2' := Lib.hid (And.intro f2 (And.intro k2 (m2 (v / 4294967296))))
    have HF := Lib.hid hF
    have hv2 : 0 ≤ v % 4294967296 := by omega
    have hv3 : v % 4294967296 < 4294967296 := by omega
    have hv4 : 0 ≤ v / 4294967296 := by omega
    have hv5 : v / 4294967296 < 4294967296 := by omega
    have hv6 : v / 4294967296 % 4294967296 = v / 4294967296 := by omega
    have hal := hM.al
    have hpl := hM.pl
    clear hk hM hF f1 k1 m1 f2 k2 m2 hN
    have tok1 : True := trivial
    have tok2 : True := trivial
    go_enter_defers Try.func38, Try.ntmps38
    go_wp2_with (first | (go_at_call 78; refine (can_any M a pb 8 x 2 _ (HM.out.keep HS.out.u (by simp) (by simp)) h0 h1 (by decide)).mono ?_; rintro e w2 ⟨rfl, hu⟩; rw [HK.out, HF.out]; have H2 := Lib.hid (HS.out.step hu (by simp) (HS.out.u.also hu (by simp))); clear hu) | (go_at_call 80; have _t := tok1; refine (must_ok Flt.zero _).mono ?_; rintro e w3 ⟨rfl, hu⟩; have H3 := Lib.hid (H2.out.step hu (by simp) (H2.out.u.also hu (by simp))); clear hu tok1 _t H2) | (go_at_call 18; have _t := tok2; refine (Write_any M a pb x 4 (v % 4294967296) _ (HM.out.keep H3.out.u (by simp) (by simp)) h0 h1 hv2 hv3).mono ?_; rintro e w4 ⟨rfl, hM4, hu⟩; rw [Mem.writeF_val, H1.out.1, H1.out.2.1]; rw [H1.out.2.2] at hM4; have HM4 := Lib.hid hM4; have H4 := Lib.hid (H3.out.step (S' := [pb]) hu (by simp; omega) ((H3.out.u.mono (by simp)).also hu (by simp))); clear hu hM4 tok2 _t) | (go_at_call 80; have _t := H4; refine (must_ok Flt.zero _).mono ?_; rintro e w5 ⟨rfl, hu⟩; have H5 := Lib.hid (H4.out.step hu (by simp) (H4.out.u.also hu (by simp))); have HM5 := Lib.hid (HM4.out.keep hu (by simp) (by simp)); clear hu H4 _t) | (go_at_call 18; refine (Write_any (M.putN x (v % 4294967296) 4) a pb (plus x 4) 4 (v / 4294967296) _ HM5.out hp4.1 hp4.2 hv4 hv5).mono ?_; rintro e w6 ⟨rfl, hM6, hu⟩; rw [Mem.writeF_val, H2'.out.1, H2'.out.2.1]; rw [H2'.out.2.2] at hM6; have HM6 := Lib.hid hM6; have H6 := Lib.hid (H5.out.step (S' := [pb]) hu (by simp; omega) (H5.out.u.also hu (by simp))); clear hu hM6) | (go_at_call 80; refine (must_ok Flt.zero _).mono ?_; rintro e w7 ⟨rfl, hu⟩; have H7 := Lib.hid (H6.out.step hu (by simp) (H6.out.u.also hu (by simp))); have HM7 := Lib.hid (HM6.out.keep hu (by simp) (by simp)); clear hu H6; have cf := cells_of H7.out.f; have ff := free_of H7.out.f; have ck := cells_of H7.out.k; have fk := free_of H7.out.k))
    have HE := H7.out.st Flt.zero true
    have hE : Upd [w.heap.size, w.heap.size + 1] w7 (((((w7.setCell ⟨w.heap.size, 0, none⟩ (.int .i64 Flt.zero.k)).setCell ⟨w.heap.size, 0 + 1, none⟩ (.int .u32 Flt.zero.pc)).setCell ⟨w.heap.size, 0 + 2, none⟩ (.int .u32 Flt.zero.a)).setCell ⟨w.heap.size, 0 + 3, none⟩ (.int .i64 Flt.zero.wt)).setCell ⟨w.heap.size + 1, 0, none⟩ (.bool true)) :=
      (Upd_store4 (b := w.heap.size) (Upd.refl _ w7) (.inl (by simp)) _ _ _ _).setCell (.inl (by simp)) _
    refine odoor_ret (.tuple #[(M.canF x 8 2).val, .bool true]) ?_ ⟨by rw [HF.out], by rw [HW.out]; exact HM7.out.keep hE (by simp; omega) (by simp; omega), HE.u⟩
    rw [HF.out]
    exact results_two' rfl (res_flt 6 w.heap.size Flt.zero rfl HE.f) (res_bool 7 (w.heap.size + 1) true rfl HE.k)

end Go.Proofs.Ytncafchgdgmeaaa
