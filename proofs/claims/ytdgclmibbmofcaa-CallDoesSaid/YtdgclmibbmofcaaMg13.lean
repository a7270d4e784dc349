/-
  The document's calls: read, by its contract. No condition. Printed by gen_rch.py.
-/
import Derived.Test.YtdgclmibbmofcaaMg11
import Derived.Test.YtdgclmibbmofcaaMg12
import Derived.Test.YtdgclmibbmofcaaMg02
import Derived.Test.YtdgclmibbmofcaaMg07
namespace Go.Proofs.Ytdgclmibbmofcaa
open Go Go.RowKit Go.Maps
set_option linter.unusedVariables false
set_option linter.unusedSimpArgs false

theorem strInts_take (s : ByteArray) (N i : Nat) (h : i < N) (hN : N ≤ s.size) : (strInts (s.extract 0 N)).getD i 0 = (strInts s).getD i 0 := by
  simp only [strInts, List.getD_eq_getElem?_getD, List.getElem?_map, ByteArray.data_extract, Array.getElem?_toList, Array.getElem?_extract]
  have : s.data.size = s.size := rfl
  rw [if_pos (by omega), Nat.zero_add]
theorem evC_cells {w : World} {x : Nat} {n b c d r : Int} {s : ByteArray} {T : TypeId} {f : Nat × Nat} (h : w.heap[x]? = some (.cells (evC n b c d r s) T f)) : ∀ j, w.cell? ⟨x, j, none⟩ = (#[.int .u32 n, .int .u32 b, .int .u32 c, .int .u32 d, .int .u32 r, .string s] : Array Value)[j]? := cells_of h
/-- Along the statement that tells what was read: the result stored (12), the bytes (15). -/
def Rz (w : World) (x d rb : Nat) (n b c dd : Int) (R : Int) (St : ByteArray) (CD CR : Array Value) (dn : Nat → Bool) (r : Nat → Value) (w1 : World) : Prop :=
  Hs [rb, d, x] w [(x, .cells (evC n b c dd (if dn 12 = true then R else 0) (if dn 15 = true then St else ByteArray.empty)) 70 (0, 0)), (d, .cells CD 57 (0, 0)), (rb, .cells CR 30 (0, 0))] w1
section
variable {w w1 : World} {x d rb : Nat} {n b c dd R : Int} {St : ByteArray} {CD CR : Array Value} {dn : Nat → Bool} {r : Nat → Value}
theorem Rz.same (h : Rz w x d rb n b c dd R St CD CR dn r w1) (j : Nat) (h1 : 12 ≠ j) (h2 : 15 ≠ j) : Rz w x d rb n b c dd R St CD CR (updD dn j) r w1 := by
  unfold Rz at *; rw [eq_ne h1, eq_ne h2]; exact h
theorem Rz.p1 (h : Rz w x d rb n b c dd R St CD CR dn r w1) : Rz w x d rb n b c dd R St CD CR (updD dn 12) r (w1.setCell ⟨x, 4, none⟩ (.int .u32 R)) := by
  have := Hs.cell h 0 rfl 4 (.int .u32 R)
  unfold Rz; rw [eq_eq, eq_ne (by decide), if_pos rfl]; exact this
theorem Rz.p2 (h : Rz w x d rb n b c dd R St CD CR dn r w1) : Rz w x d rb n b c dd R St CD CR (updD dn 15) r (w1.setCell ⟨x, 5, none⟩ (.string St)) := by
  have := Hs.cell h 0 rfl 5 (.string St)
  unfold Rz; rw [eq_eq, eq_ne (by decide), if_pos rfl]; exact this
end
set_option maxRecDepth 100000 in
set_option maxHeartbeats 4000000 in
theorem read_rc (M : Mem) (rb d x : Nat) (rv ev : Value) (inp : ByteArray) (n b c dd : Int) (CR : Array Value) (w : World) (hh : HoldsR CR M ∧ M.Ok) (hk : Hs [rb, d, x] w [(x, .cells (evC n b c dd (0) (ByteArray.empty)) 70 (0, 0)), (d, .cells #[rv, .string (inp), ev] 57 (0, 0)), (rb, .cells CR 30 (0, 0))] w)
    (hc : 0 ≤ c ∧ c < 4294967296) (hd : 0 ≤ dd ∧ dd < 4294967296) :
    Calls Try.prog 36 #[.pointer (some ⟨d, 0, none⟩), .pointer (some ⟨rb, 0, none⟩), .pointer (some ⟨x, 0, none⟩)] w fun e w' =>
      ∃ (R : Int) (St I : ByteArray) (M2 : Mem) (CR2 : Array Value), e = .returned (.tuple #[]) ∧ RdPost M c (rdN inp dd) inp R St I M2 ∧ (HoldsR CR2 M2 ∧ M2.Ok) ∧ Hs [rb, d, x] w [(x, .cells (evC n b c dd (R) (St)) 70 (0, 0)), (d, .cells #[rv, .string (I), ev] 57 (0, 0)), (rb, .cells CR2 30 (0, 0))] w' := by
  obtain ⟨N, hN⟩ : ∃ N, rdN inp dd = N := ⟨_, rfl⟩
  rw [hN]
  have hNs : N ≤ inp.size ∧ N ≤ 64 := by rw [← hN]; unfold rdN; omega
  have hmin : min (min dd 64) (inp.size : Int) = (N : Int) := by rw [← hN]; unfold rdN; omega
  obtain ⟨dl, hdl⟩ : ∃ dl, min dd 64 = dl := ⟨_, rfl⟩
  rw [hdl] at hmin
  obtain ⟨sz, hsz⟩ : ∃ sz : Int, (inp.size : Int) = sz := ⟨_, rfl⟩
  rw [hsz] at hmin
  obtain ⟨ni, hni⟩ : ∃ ni : Int, (N : Int) = ni := ⟨_, rfl⟩
  have hm1 : ∀ w, (Builtin.min_ #[33, 33] 33 #[.int .u32 dd, .int .u32 64]).run Try.prog w = .ok (.int .u32 dl) w := by
    intro w
    have h2 : (if (64 : Int) < dd then 64 else dd) = dl := by rw [← hdl]; omega
    simp [Builtin.min_, Builtin.min2, h2]
  have hm2 : min dl (inp.size : Int) = ni := by rw [hsz, hmin, hni]
  have ewd : wrap64 dl = dl := by unfold wrap64; omega
  have eni : ni % 4294967296 = ni := by omega
  have hL : ∀ w1, IsRef w1 rb M → Calls Try.prog 56 #[.pointer (some ⟨rb, 0, none⟩), .int .u32 c, .int .i64 ni, .int .i64 2] w1 fun e w' => e = .returned (.tuple #[(M.canF c N 2).val, .bool (!rdK M c N)]) ∧ Upd [] w1 w' := by
    intro w1 h1
    have h2 := Lacks_ref M rb N c 2 w1 h1 hc.1 hc.2 (by omega) (by omega) (by omega)
    rw [canK_rd hh.2, hni] at h2
    exact h2
  obtain ⟨F, hF⟩ : ∃ F, M.canF c N 2 = F := ⟨_, rfl⟩
  rw [hF] at hL
  have hsl := fun w' => str_hi w' inp N hNs.1
  have hs2 := fun w' => str_lo w' inp N hNs.1
  obtain ⟨St, hSt⟩ : ∃ St, inp.extract 0 N = St := ⟨_, rfl⟩
  obtain ⟨I2, hI2⟩ : ∃ I2, inp.extract N inp.size = I2 := ⟨_, rfl⟩
  rw [hni, hSt] at hsl
  rw [hni, hI2] at hs2
  have HL := Lib.hid hL
  have K0 := Lib.hid hk
  have HH := Lib.hid hh
  have HN := Lib.hid (And.intro hNs (And.intro hni (And.intro hsz (And.intro hSt hI2))))
  have HC := Lib.hid hc
  have f1 := cells_of (hk.get 1 rfl)
  have f2 := evC_cells (hk.get 0 rfl)
  have tk1 : True := trivial
  clear hh hk hL hNs hmin hd hdl hN hni hsz hF hc hSt hI2
  cases hrk : rdK M c N
  · rw [hrk] at HL
    simp only [Bool.not_false, Bool.not_true] at HL
    have HK := Lib.hid hrk
    clear hrk
    go_enter Try.func36, Try.ntmps36
    go_wp2_with (first
      | (have _t := tk1; clear _t; go_at_call 56; refine (HL.out _ (K0.out.ref 2 rfl HH.out)).mono ?_; rintro e w1 ⟨rfl, hu⟩; unfold Flt.val; have K1 := Lib.hid (K0.out.quiet hu); clear hu K0 f1 f2 tk1)
      | (have _t := K1; clear _t; go_at_call 39; refine (low_any 14 (by decide) _).mono ?_; rintro e w2 ⟨rfl, hu⟩; have K2 := Lib.hid ((K1.out.quiet ((Upd.refl [] w1).alloc _)).quiet hu); have f3 := evC_cells (K2.out.get 0 rfl); have f4 := free_of (K2.out.get 0 rfl); clear hu K1))
    refine bodyPost_ret (results_none rfl _ _ _) rfl ?_
    exact ⟨4294967282, ByteArray.empty, inp, M, CR, rfl, ⟨fun h => (by rw [HK.out] at h; cases h), fun _ => ⟨rfl, rfl, rfl, rfl⟩⟩, HH.out, K2.out.cell 0 rfl 4 (.int .u32 4294967282)⟩
  · rw [hrk] at HL
    simp only [Bool.not_false, Bool.not_true] at HL
    have HK := Lib.hid hrk
    clear hrk
    go_enter Try.func36, Try.ntmps36
    go_wp2_with (have _t := tk1; clear _t; go_at_call 56; refine (HL.out _ (K0.out.ref 2 rfl HH.out)).mono ?_; rintro e w1 ⟨rfl, hu⟩; unfold Flt.val; have K1 := Lib.hid (K0.out.quiet hu); clear hu K0 f1 f2 tk1)
    go_loopw [9] (fun i wr => ∃ q : Int, i = .int .i64 q ∧ Hid (0 ≤ q ∧ q ≤ ni) ∧ ∃ CR2, Hid (HoldsR CR2 (rdMem M c (strInts St) q.toNat) ∧ (rdMem M c (strInts St) q.toNat).Ok) ∧ Hid (Hs [rb, d, x] w [(x, .cells (evC n b c dd (0) (ByteArray.empty)) 70 (0, 0)), (d, .cells #[rv, .string (inp), ev] 57 (0, 0)), (rb, .cells CR2 30 (0, 0))] wr)) (fun i _ => (ni - intOf i).toNat)
    case atStart => exact ⟨0, rfl, Lib.hid (by have := HN.out.2.1; omega), CR, HH, Lib.hid (K1.out.quiet ((Upd.refl [] w1).alloc _))⟩
    case round =>
      clear K1
      obtain ⟨q, rfl, hq, CR2, HR, K2⟩ := hrel
      by_cases hlt : q < ni
      · have dlt : decide (q < ni) = true := by simp [hlt]
        have hqq := hq.out
        have hnn := HN.out
        have HBQ := Lib.hid (show 0 ≤ q ∧ q < ni from ⟨hqq.1, hlt⟩)
        have ewq : wrap64 (q + 1) = q + 1 := by unfold wrap64; omega
        have e1 : q % 4294967296 = q := by omega
        obtain ⟨z, hz⟩ : ∃ z, (c + q) % 4294967296 = z := ⟨_, rfl⟩
        have hzp : plus c q.toNat = z := by rw [← hz]; unfold plus; rw [show ((q.toNat : Nat) : Int) = q by omega]
        obtain ⟨y, hy⟩ : ∃ y, (strInts inp).getD q.toNat 0 = y := ⟨_, rfl⟩
        have hy2 : 0 ≤ y ∧ y ≤ 255 := by rw [← hy]; exact strInts_ok inp _
        have e3 : y % 18446744073709551616 = y := by omega
        have hys : (strInts St).getD q.toNat 0 = y := by rw [← hnn.2.2.2.1, ← hy]; exact strInts_take inp N q.toNat (by omega) hnn.1.1
        have hix := fun w' => str_at w' inp q.toNat (by omega)
        rw [show ((q.toNat : Nat) : Int) = q by omega, hy] at hix
        have hst := rdMem_step (M := M) (c := c) (N := N) HK.out (strInts St) q.toNat (by omega)
        rw [hzp, hys] at hst
        have HX := Lib.hid (And.intro hst (And.intro (show (0 ≤ z ∧ z < 4294967296) by omega) (show 0 ≤ y ∧ y < 18446744073709551616 by omega)))
        have b1 : 0 ≤ q := hqq.1
        clear hqq hnn hzp hy hy2 hys hst hlt hm1 hm2 hsl hs2
        go_upto_region 8 with fail
        refine wp_draw 15 (Hs [rb, d, x] w [(x, .cells (evC n b c dd (0) (ByteArray.empty)) 70 (0, 0)), (d, .cells #[rv, .string (inp), ev] 57 (0, 0)), (rb, .cells CR2 30 (0, 0))]) (fun _ _ => False) (by kernel_rfl) (by decide +kernel) (K2.out.quiet (Upd.refl [] _).drew) (fun _ _ _ h => h.elim) ?_
        simp only [List.take_succ_cons, List.take_zero, List.drop_succ_cons, List.drop_zero]
        iterate 15
          apply headW_val rfl rfl
          · intro K hK w5 hB1
            have f1 := cells_of (hB1.get 1 rfl)
            have f2 := evC_cells (hB1.get 0 rfl)
            have HB := Lib.hid hB1
            clear hB1
            go_wp2_with fail
            first | exact hK _ HB.out | exact HB.out
          · exact ⟨_, rfl⟩
        refine headW_nil (fun _ w8 hB1 => ?_)
        have K3 := Lib.hid hB1
        clear hB1 K2
        go_wp2_with (have _t := K3; clear _t; go_at_call 57; refine (Put_ref _ rb 1 z y _ (K3.out.ref 2 rfl HR.out) HX.out.2.1.1 HX.out.2.1.2 (by decide) (by intro t ht; have ht0 : t = 0 := (by omega); rw [ht0]; exact HX.out.1.2) HX.out.2.2.1 HX.out.2.2.2).mono ?_; rintro e w9 ⟨rfl, hr, hu⟩; rw [← HX.out.1.1] at hr; obtain ⟨CR3, hh3, hk3⟩ := K3.out.refPut 2 rfl hr hu; have K4 := Lib.hid hk3; have HR3 := Lib.hid hh3; clear hr hu hh3 hk3 K3)
        try simp only [ewq]
        go_roundw
        case rel => exact ⟨q + 1, by first | rfl | rw [ewq], Lib.hid (by have := HBQ.out; omega), CR3, by rw [show (q + 1).toNat = q.toNat + 1 by have := HBQ.out; omega]; exact HR3, K4⟩
        case measure => have := HBQ.out; simp only [intOf]; omega
      · have hqn : q = ni := by have := hq.out; omega
        subst hqn
        have dlt : decide (q < q) = false := by simp
        have hqN : q.toNat = N := by have := HN.out.2.1; omega
        rw [hqN] at HR
        have HQ := Lib.hid hqN
        clear hlt hm1 hm2 hqN
        go_upto_region 9 with fail
        refine wp_drawE 16 (Rz w x d rb n b c dd q St #[rv, .string inp, ev] CR2) (fun _ _ => False) (by kernel_rfl) (by decide +kernel) (fun r0 => (show Rz w x d rb n b c dd q St #[rv, .string inp, ev] CR2 (fun _ => false) r0 _ from K2.out.quiet (Upd.refl [] _).drew)) (fun _ _ _ h => h.elim) ?_
        simp only [List.take_succ_cons, List.take_zero, List.drop_succ_cons, List.drop_zero]
        apply headE_val0 rfl rfl
        · intro dn r0 K hd hdep hK w5 hB1
          have f1 := cells_of (Hs.get hB1 1 rfl)
          skip
          have HB := Lib.hid hB1
          clear hB1 hdep
          go_wp2_with fail
          first | exact hK _ (HB.out.same 0 (by decide) (by decide)) | exact (HB.out.same 0 (by decide) (by decide))
        · exact ⟨_, rfl⟩
        apply headE_val0 rfl rfl
        · intro dn r0 K hd hdep hK w5 hB1
          have f1 := cells_of (Hs.get hB1 1 rfl)
          skip
          have HB := Lib.hid hB1
          clear hB1 hdep
          go_wp2_with fail
          first | exact hK _ (HB.out.same 1 (by decide) (by decide)) | exact (HB.out.same 1 (by decide) (by decide))
        · exact ⟨_, rfl⟩
        apply headE_val0 rfl rfl
        · intro dn r0 K hd hdep hK w5 hB1
          have f1 := cells_of (Hs.get hB1 1 rfl)
          skip
          have HB := Lib.hid hB1
          clear hB1 hdep
          go_wp2_with fail
          first | exact hK _ (HB.out.same 2 (by decide) (by decide)) | exact (HB.out.same 2 (by decide) (by decide))
        · exact ⟨_, rfl⟩
        apply headE_val0 rfl rfl
        · intro dn r0 K hd hdep hK w5 hB1
          have f1 := cells_of (Hs.get hB1 1 rfl)
          skip
          have HB := Lib.hid hB1
          clear hB1 hdep
          go_wp2_with fail
          first | exact hK _ (HB.out.same 3 (by decide) (by decide)) | exact (HB.out.same 3 (by decide) (by decide))
        · exact ⟨_, rfl⟩
        apply headE_val0 rfl rfl
        · intro dn r0 K hd hdep hK w5 hB1
          have f1 := cells_of (Hs.get hB1 1 rfl)
          skip
          have HB := Lib.hid hB1
          clear hB1 hdep
          go_wp2_with fail
          first | exact hK _ (HB.out.same 4 (by decide) (by decide)) | exact (HB.out.same 4 (by decide) (by decide))
        · exact ⟨_, rfl⟩
        apply headE_val0 rfl rfl
        · intro dn r0 K hd hdep hK w5 hB1
          have f1 := cells_of (Hs.get hB1 1 rfl)
          skip
          have HB := Lib.hid hB1
          clear hB1 hdep
          go_wp2_with fail
          first | exact hK _ (HB.out.same 5 (by decide) (by decide)) | exact (HB.out.same 5 (by decide) (by decide))
        · exact ⟨_, rfl⟩
        apply headE_val0 rfl rfl
        · intro dn r0 K hd hdep hK w5 hB1
          have f1 := cells_of (Hs.get hB1 1 rfl)
          skip
          have HB := Lib.hid hB1
          clear hB1 hdep
          go_wp2_with fail
          first | exact hK _ (HB.out.same 6 (by decide) (by decide)) | exact (HB.out.same 6 (by decide) (by decide))
        · exact ⟨_, rfl⟩
        apply headE_val0 rfl rfl
        · intro dn r0 K hd hdep hK w5 hB1
          have f1 := cells_of (Hs.get hB1 1 rfl)
          skip
          have HB := Lib.hid hB1
          clear hB1 hdep
          go_wp2_with fail
          first | exact hK _ (HB.out.same 7 (by decide) (by decide)) | exact (HB.out.same 7 (by decide) (by decide))
        · exact ⟨_, rfl⟩
        apply headE_val0 rfl rfl
        · intro dn r0 K hd hdep hK w5 hB1
          have f1 := cells_of (Hs.get hB1 1 rfl)
          skip
          have HB := Lib.hid hB1
          clear hB1 hdep
          go_wp2_with fail
          first | exact hK _ (HB.out.same 8 (by decide) (by decide)) | exact (HB.out.same 8 (by decide) (by decide))
        · exact ⟨_, rfl⟩
        apply headE_val0 rfl rfl
        · intro dn r0 K hd hdep hK w5 hB1
          have f1 := cells_of (Hs.get hB1 1 rfl)
          skip
          have HB := Lib.hid hB1
          clear hB1 hdep
          go_wp2_with fail
          first | exact hK _ (HB.out.same 9 (by decide) (by decide)) | exact (HB.out.same 9 (by decide) (by decide))
        · exact ⟨_, rfl⟩
        apply headE_val0 rfl rfl
        · intro dn r0 K hd hdep hK w5 hB1
          have f1 := cells_of (Hs.get hB1 1 rfl)
          skip
          have HB := Lib.hid hB1
          clear hB1 hdep
          go_wp2_with fail
          first | exact hK _ (HB.out.same 10 (by decide) (by decide)) | exact (HB.out.same 10 (by decide) (by decide))
        · exact ⟨_, rfl⟩
        apply headE_val0 rfl rfl
        · intro dn r0 K hd hdep hK w5 hB1
          have f1 := cells_of (Hs.get hB1 1 rfl)
          skip
          have HB := Lib.hid hB1
          clear hB1 hdep
          go_wp2_with fail
          first | exact hK _ (HB.out.same 11 (by decide) (by decide)) | exact (HB.out.same 11 (by decide) (by decide))
        · exact ⟨_, rfl⟩
        apply headE_val0 rfl rfl
        · intro dn r0 K hd hdep hK w5 hB1
          have f1 := cells_of (Hs.get hB1 1 rfl)
          have f4 := free_of (Hs.get hB1 0 rfl); have f5 : w5.cell? ⟨x, 4, none⟩ = some (.int .u32 (if dn 12 = true then q else 0)) := evC_cells (Hs.get hB1 0 rfl) 4
          have HB := Lib.hid hB1
          clear hB1 hdep
          go_wp2_with fail
          first | exact hK _ HB.out.p1 | exact HB.out.p1
        · exact ⟨undef, rfl⟩
        apply headE_val0 rfl rfl
        · intro dn r0 K hd hdep hK w5 hB1
          have f1 := cells_of (Hs.get hB1 1 rfl)
          skip
          have HB := Lib.hid hB1
          clear hB1 hdep
          go_wp2_with fail
          first | exact hK _ (HB.out.same 13 (by decide) (by decide)) | exact (HB.out.same 13 (by decide) (by decide))
        · exact ⟨_, rfl⟩
        apply headE_val0 rfl rfl
        · intro dn r0 K hd hdep hK w5 hB1
          have f1 := cells_of (Hs.get hB1 1 rfl)
          skip
          have HB := Lib.hid hB1
          clear hB1 hdep
          go_wp2_with fail
          first | exact hK _ (HB.out.same 14 (by decide) (by decide)) | exact (HB.out.same 14 (by decide) (by decide))
        · exact ⟨_, rfl⟩
        apply headE_val0 rfl rfl
        · intro dn r0 K hd hdep hK w5 hB1
          have f1 := cells_of (Hs.get hB1 1 rfl)
          have f4 := free_of (Hs.get hB1 0 rfl); have f5 : w5.cell? ⟨x, 5, none⟩ = some (.string (if dn 15 = true then St else ByteArray.empty)) := evC_cells (Hs.get hB1 0 rfl) 5
          have HB := Lib.hid hB1
          clear hB1 hdep
          go_wp2_with fail
          first | exact hK _ HB.out.p2 | exact HB.out.p2
        · exact ⟨undef, rfl⟩
        refine headE_nil (fun _ r0 w8 dn hall hB1 => ?_)
        unfold Rz at hB1
        rw [hall 12 (by decide), hall 15 (by decide), if_pos rfl, if_pos rfl] at hB1
        have K3 := Lib.hid hB1
        clear hall hB1 K2
        simp only [fillE]
        have f1 := cells_of (K3.out.get 1 rfl)
        have f4 := free_of (K3.out.get 1 rfl)
        go_wp2_with fail
        go_end0
        exact ⟨rfl, q, St, I2, _, ⟨fun _ => ⟨by rw [HN.out.2.1], HN.out.2.2.2.1.symm, HN.out.2.2.2.2.symm, by rw [HN.out.2.2.2.1]⟩, fun h => (by rw [HK.out] at h; cases h)⟩, CR2, HR.out, K3.out.cell 1 rfl 1 (.string I2)⟩
end Go.Proofs.Ytdgclmibbmofcaa

/-
  The document's calls: write, by its contract. No condition. Printed by gen_rci.py.
-/
namespace Go.Proofs.Ytdgclmibbmofcaa
open Go Go.RowKit Go.Maps
set_option linter.unusedVariables false
set_option linter.unusedSimpArgs false

theorem Hs.far {S T : List Nat} {w w1 w2 : World} {L : List (Nat × Obj)} (h : Hs S w L w1) (u : Upd T w1 w2) (hT : ∀ z ∈ T, w.heap.size ≤ z ∧ ∀ p ∈ L, p.1 ≠ z) : Hs S w L w2 :=
  ⟨h.u.also u (fun z hz => .inr (hT z hz).1), fun p hp => u.get (h.v p hp) (fun hm => (hT _ hm).2 p hp rfl), h.s, h.t⟩
theorem byl_lone (w : World) (x : Int) (T : TypeId) : BySl (w.alloc (.cells #[.int .u8 x] T)) (.slice (some ⟨w.heap.size, 0, none⟩) 1 1) [x] w.heap.size := by
  refine .inr ⟨0, 1, #[.int .u8 x], T, _, rfl, heap_alloc_new w _, fun i hi => ?_⟩
  have : i = 0 := by simpa using hi
  subst this; rfl
theorem rc_far {w wr : World} {s x d rb z : Nat} {v : Value} {L : List Int} {o1 o2 o3 : Obj} (ho : Own wr s v L) (h : w.heap.size ≤ s ∧ x < s ∧ d < s ∧ rb < s) (hz : z ∈ v.ownBlock.toList) : w.heap.size ≤ z ∧ ∀ p ∈ [(x, o1), (d, o2), (rb, o3)], p.1 ≠ z := by
  have h1 := (ho.block z (by simpa using hz)).1
  refine ⟨by omega, fun p hp => ?_⟩
  simp only [List.mem_cons, List.not_mem_nil, or_false] at hp
  rcases hp with rfl | rfl | rfl <;> dsimp only <;> omega
set_option maxRecDepth 100000 in
set_option maxHeartbeats 4000000 in
theorem write_rc (M : Mem) (rb d x : Nat) (rv ev : Value) (inp : ByteArray) (n b c dd : Int) (CR : Array Value) (w : World) (hh : HoldsR CR M ∧ M.Ok) (hk : Hs [rb, d, x] w [(x, .cells (evC n b c dd (0) (ByteArray.empty)) 70 (0, 0)), (d, .cells #[rv, .string (inp), ev] 57 (0, 0)), (rb, .cells CR 30 (0, 0))] w)
    (hc : 0 ≤ c ∧ c < 4294967296) (hd : 0 ≤ dd ∧ dd < 4294967296) :
    Calls Try.prog 37 #[.pointer (some ⟨d, 0, none⟩), .pointer (some ⟨rb, 0, none⟩), .pointer (some ⟨x, 0, none⟩)] w fun e w' =>
      e = .returned (.tuple #[]) ∧ Hs [rb, d, x] w [(x, .cells (evC n b c dd (wrR M c dd) (wrS M c dd)) 70 (0, 0)), (d, .cells #[rv, .string (inp), ev] 57 (0, 0)), (rb, .cells CR 30 (0, 0))] w' := by
  obtain ⟨dl, hdl⟩ : ∃ dl, min dd 64 = dl := ⟨_, rfl⟩
  obtain ⟨RV, hRV⟩ : ∃ RV, wrR M c dd = RV := ⟨_, rfl⟩
  obtain ⟨SV, hSV⟩ : ∃ SV, wrS M c dd = SV := ⟨_, rfl⟩
  rw [hRV, hSV]
  unfold wrR at hRV
  unfold wrS at hSV
  rw [hdl] at hRV hSV
  have hNs : 0 ≤ dl ∧ dl ≤ 64 := by omega
  have hm1 : ∀ w, (Builtin.min_ #[33, 33] 33 #[.int .u32 dd, .int .u32 64]).run Try.prog w = .ok (.int .u32 dl) w := by
    intro w
    have h2 : (if (64 : Int) < dd then 64 else dd) = dl := by rw [← hdl]; omega
    simp [Builtin.min_, Builtin.min2, h2]
  have ewd : wrap64 dl = dl := by unfold wrap64; omega
  have eni : dl % 4294967296 = dl := by omega
  have hL : ∀ w1, IsRef w1 rb M → Calls Try.prog 56 #[.pointer (some ⟨rb, 0, none⟩), .int .u32 c, .int .i64 dl, .int .i64 1] w1 fun e w' => e = .returned (.tuple #[(M.canF c dl.toNat 1).val, .bool (!wrK M c dl.toNat)]) ∧ Upd [] w1 w' := by
    intro w1 h1
    have h2 := Lacks_ref M rb dl.toNat c 1 w1 h1 hc.1 hc.2 (by omega) (by omega) (by omega)
    rw [canK_wr hh.2, show ((dl.toNat : Nat) : Int) = dl by omega] at h2
    exact h2
  obtain ⟨F, hF⟩ : ∃ F, M.canF c dl.toNat 1 = F := ⟨_, rfl⟩
  rw [hF] at hL
  have HL := Lib.hid hL
  have K0 := Lib.hid hk
  have HH := Lib.hid hh
  have HN := Lib.hid hNs
  have HC := Lib.hid hc
  have HRS := Lib.hid (And.intro hRV hSV)
  have f1 := cells_of (hk.get 1 rfl)
  have f2 := evC_cells (hk.get 0 rfl)
  have tk1 : True := trivial
  clear hh hk hL hNs hd hdl hF hc hRV hSV
  cases hrk : wrK M c dl.toNat
  · rw [hrk] at HL
    simp only [Bool.not_false, Bool.not_true] at HL
    have hv : RV = 4294967282 ∧ SV = ByteArray.empty := by
      obtain ⟨h1, h2⟩ := HRS.out
      rw [hrk] at h1 h2
      exact ⟨h1.symm, h2.symm⟩
    obtain ⟨hr1, hr2⟩ := hv
    subst hr1 hr2
    have HK := Lib.hid hrk
    clear hrk
    go_enter Try.func37, Try.ntmps37
    go_wp2_with (first
      | (have _t := tk1; clear _t; go_at_call 56; refine (HL.out _ (K0.out.ref 2 rfl HH.out)).mono ?_; rintro e w1 ⟨rfl, hu⟩; unfold Flt.val; have K1 := Lib.hid (K0.out.quiet hu); clear hu K0 f1 f2 tk1)
      | (have _t := K1; clear _t; go_at_call 39; refine (low_any 14 (by decide) _).mono ?_; rintro e w2 ⟨rfl, hu⟩; have K2 := Lib.hid ((K1.out.quiet ((Upd.refl [] w1).alloc _)).quiet hu); have f3 := evC_cells (K2.out.get 0 rfl); have f4 := free_of (K2.out.get 0 rfl); clear hu K1))
    refine bodyPost_ret (results_none rfl _ _ _) rfl ?_
    exact ⟨rfl, K2.out.cell 0 rfl 4 (.int .u32 4294967282)⟩
  · rw [hrk] at HL
    simp only [Bool.not_false, Bool.not_true] at HL
    have hv : RV = dl ∧ SV = strOfNums (M.peekL c dl.toNat) := by
      obtain ⟨h1, h2⟩ := HRS.out
      rw [hrk] at h1 h2
      exact ⟨h1.symm, h2.symm⟩
    obtain ⟨hr1, hr2⟩ := hv
    subst hr1 hr2
    have HK := Lib.hid hrk
    clear hrk HRS
    go_enter Try.func37, Try.ntmps37
    go_wp2_with (have _t := tk1; clear _t; go_at_call 56; refine (HL.out _ (K0.out.ref 2 rfl HH.out)).mono ?_; rintro e w1 ⟨rfl, hu⟩; unfold Flt.val; have K1 := Lib.hid (K0.out.quiet hu); clear hu K0 f1 f2 tk1)
    have HT := Lib.hid (And.intro K1.out.u.size (And.intro (lt_of_heap (K1.out.get 0 rfl)) (And.intro (lt_of_heap (K1.out.get 1 rfl)) (lt_of_heap (K1.out.get 2 rfl)))))
    go_loopw [9, 10] (fun v i wr => ∃ q : Int, i = .int .i64 q ∧ Hid (0 ≤ q ∧ q ≤ RV) ∧ Hid (Own wr w1.heap.size v (M.peekL c q.toNat)) ∧ Hid (w1.heap.size ≤ wr.heap.size) ∧ Hid (Hs [rb, d, x] w [(x, .cells (evC n b c dd (0) (ByteArray.empty)) 70 (0, 0)), (d, .cells #[rv, .string (inp), ev] 57 (0, 0)), (rb, .cells CR 30 (0, 0))] wr)) (fun _ i _ => (RV - intOf i).toNat)
    case atStart => exact ⟨0, rfl, Lib.hid ⟨Int.le_refl _, HN.out.1⟩, Lib.hid (own_nil _ _), Lib.hid (((Upd.refl [] w1).alloc _).size), Lib.hid (K1.out.quiet ((Upd.refl [] w1).alloc _))⟩
    case round =>
      clear K1
      obtain ⟨q, rfl, hq, ho, HZ, K2⟩ := hrel
      by_cases hlt : q < RV
      · have dlt : decide (q < RV) = true := by simp [hlt]
        have hqq := hq.out
        have hnn := HN.out
        have HBQ := Lib.hid (show 0 ≤ q ∧ q < RV from ⟨hqq.1, hlt⟩)
        have ewq : wrap64 (q + 1) = q + 1 := by unfold wrap64; omega
        have e1 : q % 4294967296 = q := by omega
        obtain ⟨z, hz⟩ : ∃ z, (c + q) % 4294967296 = z := ⟨_, rfl⟩
        have hzp : plus c q.toNat = z := by rw [← hz]; unfold plus; rw [show ((q.toNat : Nat) : Int) = q by omega]
        have hst := rcwr_get (M := M) (c := c) (N := RV.toNat) HK.out q.toNat (by omega)
        rw [hzp] at hst
        obtain ⟨y, hy⟩ : ∃ y, M.B z.toNat = y := ⟨_, rfl⟩
        have hy2 : 0 ≤ y ∧ y ≤ 255 := by rw [← hy]; exact HH.out.2.B _
        have e3 : y % 256 = y := by omega
        rw [hy] at hst
        have HX := Lib.hid (And.intro hst (show 0 ≤ z ∧ z < 4294967296 by omega))
        have HY := Lib.hid (show M.peekL c (q + 1).toNat = M.peekL c q.toNat ++ [y] by rw [show (q + 1).toNat = q.toNat + 1 by omega, peekL_succ, hzp, hy])
        have HPL := Lib.hid (show (M.peekL c q.toNat).length + 1 ≤ 10000 by simp [Mem.peekL]; omega)
        have f2 := evC_cells (K2.out.get 0 rfl)
        have tkA : True := trivial
        clear hqq hnn hzp hy hy2 hst hlt hm1
        go_wp2_with (first
          | (go_at_call 58; refine (Get_ref M rb 1 z _ (K2.out.ref 2 rfl HH.out) HX.out.2.1 HX.out.2.2 (by decide) (by intro t ht; have ht0 : t = 0 := (by omega); rw [ht0]; exact HX.out.1.2)).mono ?_; rintro e w2 ⟨rfl, rfl⟩; rw [HX.out.1.1])
          | (have _t := tkA; clear _t; at_builtin; refine wpList_append_by rfl _ _ rfl w1.heap.size _ (M.peekL c q.toNat) rfl (ho.out.keep (S := []) ((Upd.refl [] wr).alloc _) (by simp)) (.slice (some ⟨wr.heap.size, 0, none⟩) 1 1) [y] wr.heap.size rfl (byl_lone wr y _) HPL.out (Nat.le_trans HZ.out ((Upd.refl [] wr).alloc _).size) ?_; intro v' w4 hg; have HG := Lib.hid (And.intro (And.intro hg.o (Nat.le_trans (Nat.le_trans HZ.out ((Upd.refl [] wr).alloc (.cells #[.int .u8 y] 5)).size) hg.u.size)) ((K2.out.quiet ((Upd.refl [] wr).alloc (.cells #[.int .u8 y] 5))).far hg.u (fun z hz => rc_far ho.out HT.out hz))); clear hg tkA))
        try simp only [ewq]
        go_roundw
        case rel => exact ⟨q + 1, by first | rfl | rw [ewq], Lib.hid (by have := HBQ.out; omega), Lib.hid (by rw [HY.out]; exact HG.out.1.1), Lib.hid HG.out.1.2, Lib.hid HG.out.2⟩
        case measure => have := HBQ.out; simp only [intOf]; omega
      · have hqn : q = RV := by have := hq.out; omega
        subst hqn
        have dlt : decide (q < q) = false := by simp
        have hlen : (M.peekL c q.toNat).length = q.toNat := by simp [Mem.peekL]
        have hcv := own_string ho.out
        obtain ⟨ua, uc, hfm⟩ := ho.out.form'
        subst hfm
        rw [hlen] at hcv ⊢
        have f2 := evC_cells (K2.out.get 0 rfl)
        have f4 := free_of (K2.out.get 0 rfl)
        clear hlt hm1 hlen
        go_wp2_with fail
        go_end0
        exact ⟨rfl, (K2.out.cell 0 rfl 4 (.int .u32 q)).cell 0 rfl 5 (.string (strOfNums (M.peekL c q.toNat)))⟩
end Go.Proofs.Ytdgclmibbmofcaa

/-
  The document's calls: Do, each kind of call. No condition. Printed by gen_rcj.py.
-/
namespace Go.Proofs.Ytdgclmibbmofcaa
open Go Go.RowKit Go.Maps
set_option linter.unusedVariables false
set_option linter.unusedSimpArgs false

theorem wp_world {P : Program} {c : Code} {Q : Exit → Act → World → Prop} {a : Act} {w : World} {B : World → Prop} (hB : B w) (h : ∀ w1, B w1 → c.wp P Q a w1) : c.wp P Q a w := h w hB
set_option maxRecDepth 100000 in
set_option maxHeartbeats 8000000 in
theorem DoR_exit (M : Mem) (rb d g1 g2 : Nat) (l : List Int) (inp : ByteArray) (L : List Ev) (rv ev : Value) (CR : Array Value) (s : St) (w : World) (hh : HoldsR CR M ∧ M.Ok) (hd0 : w.heap[d]? = some (.cells #[rv, .string inp, ev] 57 (0, 0))) (hr0 : w.heap[rb]? = some (.cells CR 30 (0, 0))) (ne : rb ≠ d) (hr : Rp w rv l g1) (he : ESl w ev L g2) (n1 : g1 ≠ d ∧ g1 ≠ rb ∧ g2 ≠ d ∧ g2 ≠ rb) (hs : s.Ok) (hn : L.length < 100) (hq : s.R 0 = 1) :
    Calls Try.prog 15 #[.pointer (some ⟨d, 0, none⟩), .pointer (some ⟨rb, 0, none⟩), .agg s.cells] w fun e w' => ∃ (rv2 ev2 : Value) (CR2 : Array Value) (g3 : Nat), e = .returned (.tuple #[.agg (s.setR 0 (s.R 3)).cells, .bool true]) ∧ (HoldsR CR2 M ∧ (M).Ok) ∧ w'.heap[d]? = some (.cells #[rv2, .string inp, ev2] 57 (0, 0)) ∧ w'.heap[rb]? = some (.cells CR2 30 (0, 0)) ∧ Rp w' rv2 l g1 ∧ ESl w' ev2 (L ++ [⟨s.R 0, s.R 3, s.R 1, s.R 2, (s.R 3), ByteArray.empty⟩]) g3 ∧ w.heap.size ≤ g3 ∧ Upd [rb, d] w w' := by
  have HR0 := Lib.hid hr
  have hsR := hs.R
  obtain ⟨x0, h0⟩ : ∃ x, s.R 0 = x := ⟨_, rfl⟩
  obtain ⟨x1, h1⟩ : ∃ x, s.R 1 = x := ⟨_, rfl⟩
  obtain ⟨x2, h2⟩ : ∃ x, s.R 2 = x := ⟨_, rfl⟩
  obtain ⟨x3, h3⟩ : ∃ x, s.R 3 = x := ⟨_, rfl⟩
  have hx0 := hsR 0
  have hx1 := hsR 1
  have hx2 := hsR 2
  have hx3 := hsR 3
  rw [h0] at hx0
  rw [h1] at hx1
  rw [h2] at hx2
  rw [h3] at hx3
  rw [h0] at hq
  have HX := Lib.hid (And.intro hx0 (And.intro hx1 (And.intro hx2 hx3)))
  have K0 := Lib.hid (hs_two hd0 hr0 (fun e => ne e.symm))
  have HH := Lib.hid hh
  have HE := Lib.hid (And.intro he (And.intro hn n1))
  have q1 : (x0 == 1) = true := by simp; exact hq
  have c0 : ∀ o1, (w.alloc (.cells s.cells 39) |>.alloc o1).cell? ⟨w.heap.size, 0, none⟩ = some (.int .u32 x0) := fun o1 => by rw [cells_of (heap_alloc2_old w (.cells s.cells 39) o1), St.cR s 0 (by decide), h0]
  have c1 : ∀ o1, (w.alloc (.cells s.cells 39) |>.alloc o1).cell? ⟨w.heap.size, 1, none⟩ = some (.int .u32 x1) := fun o1 => by rw [cells_of (heap_alloc2_old w (.cells s.cells 39) o1), St.cR s 1 (by decide), h1]
  have c2 : ∀ o1, (w.alloc (.cells s.cells 39) |>.alloc o1).cell? ⟨w.heap.size, 2, none⟩ = some (.int .u32 x2) := fun o1 => by rw [cells_of (heap_alloc2_old w (.cells s.cells 39) o1), St.cR s 2 (by decide), h2]
  have c3 : ∀ o1, (w.alloc (.cells s.cells 39) |>.alloc o1).cell? ⟨w.heap.size, 3, none⟩ = some (.int .u32 x3) := fun o1 => by rw [cells_of (heap_alloc2_old w (.cells s.cells 39) o1), St.cR s 3 (by decide), h3]
  have H03 := Lib.hid (And.intro h0 (And.intro h1 (And.intro h2 h3)))
  clear hs hsR hx0 hx1 hx2 hx3 h0 h1 h2 h3 hd0 hr0 hh ne hr he n1 hn hq
  go_enter Try.func15, Try.ntmps15
  go_upto_region 3 with fail
  have hk := ((K0.out.lay s.cells 39).lay St.zero.cells 39).lay #[.int .u32 x0, .int .u32 x3, .int .u32 x1, .int .u32 x2, .int .u32 0, .string ByteArray.empty] 70
  simp at hk
  refine wp_world (B := fun w1 => Hs [rb, d] w [((w.heap.size + 1 + 1), .cells (evC x0 x3 x1 x2 (0) (ByteArray.empty)) 70 (0, 0)), ((w.heap.size + 1), .cells St.zero.cells 39 (0, 0)), (w.heap.size, .cells (St.cells (s)) 39 (0, 0)), (d, .cells #[rv, .string (inp), ev] 57 (0, 0)), (rb, .cells CR 30 (0, 0))] w1) hk ?_
  intro w1 hk1
  have K1 := Lib.hid hk1
  clear hk hk1 c0 c1 c2 c3 K0
  have f3 := evC_cells (K1.out.get 0 rfl)
  have f4 := free_of (K1.out.get 0 rfl)
  go_upto_region 18 with fail
  have hk := K1.out.cell 0 rfl 4 (.int .u32 x3)
  refine wp_world (B := fun w1 => Hs [rb, d] w [((w.heap.size + 1 + 1), .cells (evC x0 x3 x1 x2 (x3) (ByteArray.empty)) 70 (0, 0)), ((w.heap.size + 1), .cells St.zero.cells 39 (0, 0)), (w.heap.size, .cells (St.cells (s)) 39 (0, 0)), (d, .cells #[rv, .string (inp), ev] 57 (0, 0)), (rb, .cells CR 30 (0, 0))] w1) hk ?_
  intro wC hk1
  have K2 := Lib.hid hk1
  clear hk hk1 K1 f3 f4
  have f3 := evC_cells (K2.out.get 0 rfl)
  have f5 := free_of (K2.out.get 2 rfl)
  have f6 := (cells_of (K2.out.get 2 rfl) 0).trans (St.cR s 0 (by decide))
  rw [H03.out.1] at f6
  go_upto_region 19 with fail
  have hk := K2.out.cell 2 rfl 0 (.int .u32 (x3))
  dsimp only [List.set] at hk
  rw [St.cells_setR s 0 _ (by decide)] at hk
  refine wp_world (B := fun w1 => Hs [rb, d] w [((w.heap.size + 1 + 1), .cells (evC x0 x3 x1 x2 (x3) (ByteArray.empty)) 70 (0, 0)), ((w.heap.size + 1), .cells St.zero.cells 39 (0, 0)), (w.heap.size, .cells (St.cells (s.setR 0 (x3))) 39 (0, 0)), (d, .cells #[rv, .string (inp), ev] 57 (0, 0)), (rb, .cells CR 30 (0, 0))] w1) hk ?_
  intro wA hk1
  have KA := Lib.hid hk1
  clear hk hk1 K2 f3 f5 f6
  have HXD := Lib.hid (show (w.heap.size + 1 + 1) ≠ d from KA.out.ne 0 3 rfl rfl (by decide))
  have HEA := Lib.hid (HE.out.1.keep KA.out.u (by have h := HE.out.2.2; simp; omega))
  have HEL := Lib.hid (show L.length ≤ 9000 by have := HE.out.2.1; omega)
  refine wp_drawE 12 (Ke wA d L ⟨x0, x3, x1, x2, x3, ByteArray.empty⟩ #[rv, .string (inp), ev]) (fun _ _ => False) (by kernel_rfl) (by decide +kernel) (fun r0 => Ke.start (KA.out.get 3 rfl) r0) (fun _ _ _ h => h.elim) ?_
  simp only [List.take_succ_cons, List.take_zero, List.drop_succ_cons, List.drop_zero]
  apply headE_val0 rfl rfl
  · intro dn r0 K hd hdep hK w5 hB1
    skip
    have HB := Lib.hid (hB1.same 0 (by decide))
    clear hB1 hdep
    go_wp2_with fail
    first | exact hK _ HB.out | exact HB.out
  · exact ⟨_, rfl⟩
  apply headE_val0 rfl rfl
  · intro dn r0 K hd hdep hK w5 hB1
    skip
    have HB := Lib.hid (hB1.same 1 (by decide))
    clear hB1 hdep
    go_wp2_with fail
    first | exact hK _ HB.out | exact HB.out
  · exact ⟨_, rfl⟩
  apply headE_val0 rfl rfl
  · intro dn r0 K hd hdep hK w5 hB1
    skip
    have HB := Lib.hid (hB1.same 2 (by decide))
    clear hB1 hdep
    go_wp2_with fail
    first | exact hK _ HB.out | exact HB.out
  · exact ⟨_, rfl⟩
  apply headE_val0 rfl rfl
  · intro dn r0 K hd hdep hK w5 hB1
    skip
    have HB := Lib.hid (hB1.same 3 (by decide))
    clear hB1 hdep
    go_wp2_with fail
    first | exact hK _ HB.out | exact HB.out
  · exact ⟨_, rfl⟩
  apply headE_val0 rfl rfl
  · intro dn r0 K hd hdep hK w5 hB1
    have f1 := cells_of (hB1.at4 hd)
    have HB := Lib.hid (hB1.same 4 (by decide))
    clear hB1 hdep
    go_wp2_with fail
    first | exact hK _ HB.out | exact HB.out
  · exact ⟨_, rfl⟩
  refine headE_freeD rfl (fun _ => rfl) 80 rfl (by simp [Act.put]) ?_ ?_
  · intro dn r0 K hd hdep w5 hB2 hK
    have h4 : dn 4 = true := hdep ⟨4, .data⟩ (by simp) rfl
    refine wp_append_ev _ _ rfl wA.heap.size (.slice none 0 0) [] rfl (ownE_nil _ _) ev L g2 rfl (HEA.out.keep hB2.u (by have h := HE.out.2.2.2.2.1; simpa using h)) (by have := HEL.out; simp; omega) hB2.u.size ?_
    intro v' w6 ho hu
    rw [List.nil_append] at ho
    exact hK _ _ (hB2.first hd h4 ho hu)
  apply headE_val rfl (fun _ => rfl)
  · intro dn r0 K hd hdep hK w5 hB2
    have f3 := evC_cells (hB2.u.get (KA.out.get 0 rfl) (by have := HXD.out; simpa using this))
    have HB := Lib.hid (hB2.same 6 (by decide))
    clear hB2 hdep
    simp only [fillE]
    go_wp2_with fail
    first | exact hK _ HB.out | exact HB.out
  · exact ⟨_, fun _ => rfl, Eq.symm (by go_simp; exact rfl)⟩
  refine headE_freeD rfl (fun _ => rfl) 82 rfl (by simp [Act.put]) ?_ ?_
  · intro dn r0 K hd hdep w5 hB2 hK
    refine wp_buildEv ⟨x0, x3, x1, x2, x3, ByteArray.empty⟩ _ rfl rfl ?_
    exact hK _ _ (hB2.lit hd)
  refine headE_freeD rfl (fun _ => rfl) 83 rfl (by simp [Act.put]) ?_ ?_
  · intro dn r0 K hd hdep w5 hB2 hK
    have h5 : dn 5 = true := hdep ⟨5, .data⟩ (by simp) rfl
    have h7 : dn 7 = true := hdep ⟨7, .data⟩ (by simp) rfl
    obtain ⟨g7, e7, b7⟩ := hB2.b hd h7
    refine wp_append_ev _ _ rfl wA.heap.size (r0 5) L rfl (hB2.a hd h5) (r0 7) [⟨x0, x3, x1, x2, x3, ByteArray.empty⟩] g7 rfl (by rw [e7]; exact esl_one b7) (by have := HEL.out; simp; omega) hB2.u.size ?_
    intro v' w6 ho hu
    exact hK _ _ (hB2.second hd h5 h7 ho hu)
  apply headE_val rfl (fun _ => rfl)
  · intro dn r0 K hd hdep hK w5 hB2
    have HB := Lib.hid (hB2.same 9 (by decide))
    clear hB2 hdep
    simp only [fillE]
    go_wp2_with fail
    first | exact hK _ HB.out | exact HB.out
  · exact ⟨_, fun _ => rfl, Eq.symm (by go_simp; exact rfl)⟩
  apply headE_val rfl (fun _ => rfl)
  · intro dn r0 K hd hdep hK w5 hB2
    have HB := Lib.hid (hB2.same 10 (by decide))
    clear hB2 hdep
    simp only [fillE]
    go_wp2_with fail
    first | exact hK _ HB.out | exact HB.out
  · exact ⟨_, fun _ => rfl, Eq.symm (by go_simp; exact rfl)⟩
  apply headE_val rfl (fun _ => rfl)
  · intro dn r0 K hd hdep hK w5 hB2
    have h8 : dn 8 = true := hdep ⟨8, .data⟩ (by simp) rfl
    have e8 := (hB2.c h8).form2
    generalize slA (r0 8) = a8 at e8
    generalize slC (r0 8) = k8 at e8
    have hdd := hB2.dd
    rw [hd] at hdd
    have f1 := (cells_of hdd 2)
    have f4 := free_of hdd
    have HB := Lib.hid (hB2.store hd h8)
    have E8 := Lib.hid e8
    clear hB2 hdep hdd h8
    simp only [fillE]
    rw [e8]
    clear e8
    simp only [Bool.false_eq_true, if_false] at f1 f4
    go_wp2_with fail
    rw [← E8.out]
    first | exact hK _ HB.out | exact HB.out
  · exact ⟨undef, fun _ => rfl, Eq.symm (by go_simp; exact rfl)⟩
  refine headE_nil (fun _ r0 wB dn hall hB2 => ?_)
  have ho := hB2.c (hall 8 (by decide))
  obtain ⟨a8, k8, e8⟩ := ho.form
  rw [List.length_append, List.length_singleton] at e8
  have hdd := hB2.dd
  rw [hall 11 (by decide), if_pos rfl] at hdd
  have hk := KA.out.put 3 rfl hB2.u hdd
  dsimp only [List.set] at hk
  rw [e8] at hk ho
  obtain ⟨g3, hes, hg3⟩ := ho.esl
  have e2s : (#[rv, .string (inp), ev] : Array Value).setIfInBounds 2 (.slice a8 (L.length + 1) k8) = #[rv, .string (inp), .slice a8 (L.length + 1) k8] := rfl
  rw [e2s] at hk
  have KB := Lib.hid (show Hs [rb, d] w [((w.heap.size + 1 + 1), .cells (evC x0 x3 x1 x2 (x3) (ByteArray.empty)) 70 (0, 0)), ((w.heap.size + 1), .cells St.zero.cells 39 (0, 0)), (w.heap.size, .cells (St.cells (s.setR 0 (x3))) 39 (0, 0)), (d, .cells #[rv, .string (inp), (.slice a8 (L.length + 1) k8)] 57 (0, 0)), (rb, .cells CR 30 (0, 0))] _ from hk)
  have HES := Lib.hid (And.intro hes (And.intro (Nat.le_trans KA.out.u.size hg3) (Nat.lt_of_lt_of_le (lt_of_heap (KA.out.get 1 rfl)) hg3)))
  have d200 : decide (200 < ((L.length + 1 : Nat) : Int)) = false := by have := HE.out.2.1; simp; omega
  obtain ⟨ln, hln⟩ : ∃ ln : Nat, L.length + 1 = ln := ⟨_, rfl⟩
  have f1 := cells_of (KB.out.get 3 rfl)
  rw [hln] at d200 f1
  clear hall hB2 hk hdd ho hes hg3 HEA KA e8
  simp only [fillE]
  generalize r0 5 = z5 at *
  generalize r0 7 = z7 at *
  generalize r0 8 = z8 at *
  have tk1 : True := trivial
  have tk2 : True := trivial
  go_wp2_with (first
    | (have _t := tk1; clear _t; refine at_load 39 rfl ?_; refine wpList_load_state (s.setR 0 (x3)) w.heap.size rfl _ rfl rfl (KB.out.get 2 rfl) ?_; clear tk1)
    | (have _t := tk2; clear _t; refine at_store 39 rfl ?_; refine wpList_store_state' (s.setR 0 (x3)) (w.heap.size + 1) rfl _ _ rfl rfl rfl (KB.out.get 1 rfl) rfl ?_; intro wD hw; have KC := Lib.hid (KB.out.put (w2 := wD) (o' := .cells (St.cells (s.setR 0 (x3))) 39 (0, 0)) 1 rfl (by rw [← hw]; exact (Upd.refl [w.heap.size + 1] wB).setCells (q := w.heap.size + 1) (.inl (by simp)) _ _) (by rw [← hw]; exact heap_store_state (s.setR 0 (x3)) (KB.out.get 1 rfl) rfl)); have HU := Lib.hid (show Upd [w.heap.size + 1] wB wD from (by rw [← hw]; exact (Upd.refl [w.heap.size + 1] wB).setCells (q := w.heap.size + 1) (.inl (by simp)) _ _)); clear hw tk2))
  refine bodyPost_ret (results_two' rfl (res_stateC 6 (w.heap.size + 1) (s.setR 0 (x3)) rfl (KC.out.get 1 rfl)) (res_tmp 7 rfl)) rfl ?_
  obtain ⟨h0, h1, h2, h3⟩ := H03.out
  rw [h0, h1, h2, h3]
  have hn := HE.out.2.2
  refine ⟨rfl, rv, _, CR, HH.out, KC.out.get 3 rfl, KC.out.get 4 rfl, HR0.out.keep KC.out.u (by have h := HE.out.2.2; simp; omega), g3, HES.out.1.keep HU.out ?_, HES.out.2.1, KC.out.u⟩
  have hlt := HES.out.2.2
  simp; omega
end Go.Proofs.Ytdgclmibbmofcaa
