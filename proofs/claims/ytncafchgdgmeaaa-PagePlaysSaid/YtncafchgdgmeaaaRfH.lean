/-
  The reference's memory: Load, by its contract. No condition.
-/
import Derived.Test.YtncafchgdgmeaaaRfG
namespace Go.Proofs.Ytncafchgdgmeaaa
open Go Go.RowKit
set_option linter.unusedVariables false
set_option linter.unusedSimpArgs false

theorem span1_str {M : Mem} {s : SpanV} (hb : M.spanB s = true) : M.span1 s = (M.mapN s.pg.toNat s.ct.toNat s.rt).strN (s.pg.toNat * 256) s.by_ s.by_.size := by
  simp only [Mem.spanB, Bool.and_eq_true, decide_eq_true_eq] at hb
  obtain ⟨hm, hs⟩ := hb
  have hrow := mapB_row hm
  have hr : rightsB s.rt = true := by simp only [Mem.mapB, Bool.and_eq_true] at hm; exact hm.1
  have hr1 := (rightsB_iff _).1 hr
  have hp : (M.mapN s.pg.toNat s.ct.toNat s.rt).pokeB (s.pg * 256) (strInts s.by_) = true := by
    simp only [Mem.pokeB, Bool.and_eq_true, decide_eq_true_eq, List.all_eq_true, List.mem_range, strInts_length]
    refine ⟨by omega, fun i hi => ?_⟩
    have e : plus (s.pg * 256) i = s.pg * 256 + i := by unfold plus; omega
    simp only [Mem.mappedB, e, Mem.mapN]
    rw [decide_eq_true (by omega), Bool.true_and, if_pos (by omega)]
    simp; omega
  rw [Mem.span1, Mem.poke, hp, if_pos rfl, strInts_length, pokeN_strN _ _ hrow.1 _ _ (by omega)]

theorem ref_whole {w : World} {r : Nat} {C D : Array Value} {M : Mem} (h : HoldsR C M) (hb : w.heap[r]? = some (.cells D 52 (0, 0))) (hd : D.size = 16448) (hok : M.Ok) : IsRef (w.setCells r 0 C.toList) r M := by
  have hl : C.toList.length = 16448 := by rw [Array.length_toList, h.size]
  refine ⟨⟨_, ⟨by rw [wr_size, hd], fun k hk => ?_⟩, heap_setCells_same _ _ _ _ hb⟩, hok⟩
  rw [wr_get _ _ _ _ (by rw [hl, hd]; omega), if_pos (by rw [hl]; omega), Nat.sub_zero, Array.getElem?_toList, h.get k hk]

set_option maxRecDepth 100000 in
set_option maxHeartbeats 4000000 in
theorem Load_ref (M : Mem) (r g : Nat) (v : Value) (l : List SpanV) (w : World) (hM : IsRef w r M) (hl : SpansIn w v l g) (hok : ∀ s, s ∈ l → s.ok) :
    Calls Try.prog 71 #[.pointer (some ⟨r, 0, none⟩), v] w fun e w' => e = .returned (.int .i64 (errI (loadB l) 60)) ∧ IsRef w' r (loadR l M) ∧ Upd [r] w w' := by
  have hmo : Try.prog.follows .mixedOrders = true := by kernel_rfl
  obtain ⟨Z, hZ, hbuild⟩ := run_build_ref
  have HZ := Lib.hid hZ
  have HBu := Lib.hid hbuild
  have HM := Lib.hid hM
  have HL := Lib.hid hl
  have hrl := hM.lt
  clear hM hZ hbuild
  have hl2 := hl
  clear hl
  rcases hl2 with ⟨x, c, rfl, rfl⟩ | ⟨o, c, rfl, hg, hlen, hc⟩
  · go_enter Try.func71, Try.ntmps71
    go_wp2_with (refine wpList_build rfl 52 [] rfl [] rfl (.agg Z) (HBu.out _) ?_)
    go_loopw [6, 7, 8] (fun i _ _ wr => i = .int .i64 0 ∧ IsRef wr w.heap.size Mem.zero ∧ Upd [] w wr) (fun _ _ _ _ => 0)
    case atStart => exact ⟨rfl, IsRef.new HZ.out Mem.zero_ok, (Upd.refl _ _).alloc _⟩
    case round =>
      obtain ⟨rfl, hN, hU⟩ := hrel
      have HN := Lib.hid hN
      have HU := Lib.hid hU
      clear hN hU
      have hyes := Lib.hid (show loadB [] = true from rfl)
      obtain ⟨C, hC1, hC2⟩ := HN.out.ex
      obtain ⟨D, hD1, hD2⟩ := HM.out.ex
      have hD2' := HU.out.get hD2 (by simp)
      have HC1 := Lib.hid hC1
      have HC2 := Lib.hid (range_whole hC2)
      have HCS := Lib.hid hC1.size
      have HD2 := Lib.hid hD2'
      have HDS := Lib.hid hD1.size
      clear hC1 hC2 hD1 hD2 hD2'
      go_wp2_with (first | (refine wpList_load_arr rfl 52 _ rfl w.heap.size 0 rfl C _ HC2.out Try.underlying52 rfl (by rw [HCS.out]; exact ref_info) ?_) | (refine wpList_store_arr rfl 52 _ _ rfl r 0 C rfl rfl HD2.out (by rw [HCS.out, HDS.out]; decide) (by rw [HCS.out]; exact ref_info) HC1.out.one ?_))
      go_ret
      exact ⟨by rw [hyes.out]; rfl, by rw [loadR_yes hyes.out]; exact ref_whole HC1.out HD2.out HDS.out HN.out.ok, (HU.out.mono (by simp)).setCells (by simp) _ _⟩
  · have HC := Lib.hid hc
    clear hc
    have HO := Lib.hid hok
    clear hok
    go_enter Try.func71, Try.ntmps71
    go_wp2_with (refine wpList_build rfl 52 [] rfl [] rfl (.agg Z) (HBu.out _) ?_)
    go_loopw [6, 7, 8] (fun i _ _ wr => ∃ j : Nat, j ≤ l.length ∧ i = .int .i64 j ∧ (∀ k, k < j → (loadN l k).spanB (l.getD k default) = true) ∧ IsRef wr w.heap.size (loadN l j) ∧ Upd [] w wr) (fun i _ _ _ => l.length - (intOf i).toNat)
    case atStart => exact ⟨0, Nat.zero_le _, rfl, by omega, IsRef.new HZ.out Mem.zero_ok, (Upd.refl _ _).alloc _⟩
    case round =>
      obtain ⟨j, hj, rfl, hall, hN, hU⟩ := hrel
      have hnl := hN.lt
      have HN := Lib.hid hN
      have HU := Lib.hid hU
      have HA := Lib.hid hall
      clear hN hU hall
      by_cases hlt : j < l.length
      · obtain ⟨s, hs⟩ : ∃ s, l[j]? = some s := ⟨l[j], List.getElem?_eq_getElem hlt⟩
        have hsd : l.getD j default = s := by rw [List.getD_eq_getElem?_getD, hs]; rfl
        have hcs := HL.out.keep HU.out (by simp)
        obtain ⟨c0, c1, c2, c3⟩ : wr.cell? ⟨g, o + j * 4, none⟩ = some (.int .i64 s.pg) ∧ wr.cell? ⟨g, o + j * 4 + 1, none⟩ = some (.int .i64 s.ct) ∧ wr.cell? ⟨g, o + j * 4 + 2, none⟩ = some (.int .i64 s.rt) ∧ wr.cell? ⟨g, o + j * 4 + 3, none⟩ = some (.string s.by_) := by
          rcases hcs with ⟨_, _, hv, _⟩ | ⟨o', c', hv, _, _, h⟩
          · injection hv with _ e _; omega
          · injection hv with e _ _
            injection e with e
            injection e with _ e _
            subst e
            exact h j s hs
        have hsm : s.ok := HO.out s (List.mem_of_getElem? hs)
        have HS := Lib.hid hsm
        have HSD := Lib.hid hsd
        clear hcs hs hsm hsd
        have hmb : (loadN l j).mapB s.pg s.ct s.rt = true ∨ (loadN l j).mapB s.pg s.ct s.rt = false := by cases (loadN l j).mapB s.pg s.ct s.rt <;> simp
        rcases hmb with hmb | hmb
        · have hrow := mapB_row hmb
          have HB := Lib.hid hmb
          clear hmb
          obtain ⟨p1, p2, p3, p4⟩ := hrow
          by_cases hsz : (s.by_.size : Int) ≤ s.ct * 256
          · go_wp2_with (go_at_call 64; refine (Map_ref (loadN l j) w.heap.size s.pg s.ct s.rt _ (HN.out.keep ((Upd.refl [] _).alloc _) (by simp)) HS.out.1 HS.out.2).mono ?_; rintro e w2 ⟨rfl, hM2, hU2⟩; rw [Mem.mapM, HB.out, if_pos rfl] at hM2; rw [HB.out]; have HM2 := Lib.hid hM2; have HU2 := Lib.hid hU2; have hc2 := hU2.get (heap_alloc_new _ _) (by simp; omega); have HC2 := Lib.hid hc2; have cs2 := cells_of hc2; clear hM2 hU2 hc2)
            have hn1 : ∀ x, x ∈ [w.heap.size] → x ∈ ([] : List Nat) ∨ w.heap.size ≤ x := by simp
            obtain ⟨sb, hsb⟩ : ∃ sb, sb = wr.heap.size := ⟨_, rfl⟩
            have HSB := Lib.hid hsb
            have hsb' := HC2.out
            rw [← hsb] at hsb'
            have HC2' := Lib.hid hsb'
            clear hsb hsb'
            have HUA := Lib.hid ((HU.out.alloc _).also HU2.out hn1)
            go_loopw [8] (fun i w3 => ∃ k : Nat, k ≤ s.by_.size ∧ i = .int .i64 k ∧ IsRef w3 w.heap.size (((loadN l j).mapN s.pg.toNat s.ct.toNat s.rt).strN (s.pg.toNat * 256) s.by_ k) ∧ w3.heap[sb]? = some (.cells #[.int .i64 s.pg, .int .i64 s.ct, .int .i64 s.rt, .string s.by_] 41 (0, 0)) ∧ Upd [] w w3) (fun i _ => s.by_.size - (intOf i).toNat)
            case atStart => exact ⟨0, Nat.zero_le _, rfl, HM2.out, HC2'.out, HUA.out⟩
            case round =>
              obtain ⟨k, hk, rfl, hN3, hs3, hU3⟩ := hrel
              rw [← HSB.out]
              have HN3 := Lib.hid hN3
              have HS3 := Lib.hid hs3
              have HU3 := Lib.hid hU3
              have cs3 := cells_of hs3
              clear hN3 hs3 hU3 cs2
              by_cases hk2 : k < s.by_.size
              · have hd : decide ((k : Int) < s.by_.size) = true := by simp; omega
                have hlt8 : s.pg * 256 + k < 16384 := by omega
                have hnn8 : 0 ≤ s.pg * 256 + (k : Int) := by omega
                go_wp2_with fail
                refine wp_draw 13 (fun w1 => IsRef w1 w.heap.size (((loadN l j).mapN s.pg.toNat s.ct.toNat s.rt).strN (s.pg.toNat * 256) s.by_ k) ∧ w1.heap[sb]? = some (.cells #[.int .i64 s.pg, .int .i64 s.ct, .int .i64 s.rt, .string s.by_] 41 (0, 0)) ∧ Upd [] w w1) (fun _ _ => False) (by kernel_rfl) (by decide +kernel) ⟨HN3.out.drew, HS3.out, HU3.out.drew⟩ (fun _ _ _ h => h.elim) ?_
                simp only [List.take_succ_cons, List.take_zero, List.drop_succ_cons, List.drop_zero]
                repeat
                  apply headW_val rfl rfl
                  · intro K hK w1 hB1
                    have cs3 := cells_of hB1.2.1
                    have HB1 := Lib.hid hB1
                    clear hB1
                    go_wp2_with fail
                    exact HB1.out
                  · exact ⟨_, rfl⟩
                refine headW_nil (fun _ w1 hB1 => ?_)
                have ei : (s.pg * 256 + (k : Int)).toNat = s.pg.toNat * 256 + k := by omega
                have cb := hB1.1.cB (s.pg.toNat * 256 + k) (by omega)
                have fb := hB1.1.free (64 + (s.pg.toNat * 256 + k))
                rw [← ei] at cb fb
                have EI := Lib.hid ei
                have HB1 := Lib.hid hB1
                clear hB1 ei
                go_wp2_with fail
                have hgd : ((s.by_[k].toNat : Nat) : Int) = (strInts s.by_).getD k 0 := (strInts_get s.by_ k hk2).symm
                rw [hgd, EI.out]
                go_roundw
                case rel => exact ⟨k + 1, by omega, by go_num, HB1.out.1.setB (s.pg.toNat * 256 + k) ((strInts s.by_).getD k 0) (by omega) (strInts_ok _ _).1 (strInts_ok _ _).2, heap_set_keep _ (by simp; have := HSB.out; omega) HB1.out.2.1, HB1.out.2.2.setCell (by simp) _⟩
                case measure => simp [intOf]; omega
              · have hd : decide ((k : Int) < s.by_.size) = false := by simp; omega
                have hke : k = s.by_.size := by omega
                have HKE := Lib.hid hke
                clear hke
                go_wp2_with fail
                go_roundw
                case rel =>
                  refine ⟨j + 1, by omega, by go_num, fun t ht => ?_, ?_, HU3.out⟩
                  · by_cases e : t = j
                    · subst e
                      rw [HSD.out, Mem.spanB, HB.out]
                      simpa using hsz
                    · exact HA.out t (by omega)
                  · rw [loadN, HSD.out, span1_str (by rw [Mem.spanB, HB.out]; simpa using hsz), ← HKE.out]
                    exact HN3.out
                case measure => simp [intOf]; omega
          · have hsz' : s.ct * 256 < s.by_.size := by omega
            go_wp2_with (go_at_call 64; refine (Map_ref (loadN l j) w.heap.size s.pg s.ct s.rt _ (HN.out.keep ((Upd.refl [] _).alloc _) (by simp)) HS.out.1 HS.out.2).mono ?_; rintro e w2 ⟨rfl, hM2, hU2⟩; rw [Mem.mapM, HB.out, if_pos rfl] at hM2; rw [HB.out]; have HM2 := Lib.hid hM2; have HU2 := Lib.hid hU2; have hc2 := hU2.get (heap_alloc_new _ _) (by simp; omega); have HC2 := Lib.hid hc2; have cs2 := cells_of hc2; clear hM2 hU2 hc2)
            go_ret
            have hn : ∀ x, x ∈ [w.heap.size] → x ∈ ([] : List Nat) ∨ w.heap.size ≤ x := by simp
            have hno : loadB l = false := loadB_no hlt (by rw [HSD.out, Mem.spanB]; simp; omega)
            have hU' := (HU.out.alloc _).also HU2.out hn
            exact ⟨by rw [hno]; rfl, by rw [loadR_no hno]; exact HM.out.keep hU' (by simp), hU'.mono (by simp)⟩
        · have HB := Lib.hid hmb
          clear hmb
          go_wp2_with (go_at_call 64; refine (Map_ref (loadN l j) w.heap.size s.pg s.ct s.rt _ (HN.out.keep ((Upd.refl [] _).alloc _) (by simp)) HS.out.1 HS.out.2).mono ?_; rintro e w2 ⟨rfl, hM2, hU2⟩; rw [HB.out]; have HU2 := Lib.hid hU2; clear hM2 hU2)
          go_ret
          have hn : ∀ x, x ∈ [w.heap.size] → x ∈ ([] : List Nat) ∨ w.heap.size ≤ x := by simp
          have hno : loadB l = false := loadB_no hlt (by rw [HSD.out, Mem.spanB, HB.out]; rfl)
          have hU' := (HU.out.alloc _).also HU2.out hn
          exact ⟨by rw [hno]; rfl, by rw [loadR_no hno]; exact HM.out.keep hU' (by simp), hU'.mono (by simp)⟩
      · have e : j = l.length := by omega
        subst e
        have hyes := Lib.hid (loadB_yes HA.out)
        obtain ⟨C, hC1, hC2⟩ := HN.out.ex
        obtain ⟨D, hD1, hD2⟩ := HM.out.ex
        have hD2' := HU.out.get hD2 (by simp)
        have HC1 := Lib.hid hC1
        have HC2 := Lib.hid (range_whole hC2)
        have HCS := Lib.hid hC1.size
        have HD2 := Lib.hid hD2'
        have HDS := Lib.hid hD1.size
        clear hC1 hC2 hD1 hD2 hD2'
        go_wp2_with (first | (refine wpList_load_arr rfl 52 _ rfl w.heap.size 0 rfl C _ HC2.out Try.underlying52 rfl (by rw [HCS.out]; exact ref_info) ?_) | (refine wpList_store_arr rfl 52 _ _ rfl r 0 C rfl rfl HD2.out (by rw [HCS.out, HDS.out]; decide) (by rw [HCS.out]; exact ref_info) HC1.out.one ?_))
        go_ret
        exact ⟨by rw [hyes.out]; rfl, by rw [loadR_yes hyes.out]; exact ref_whole HC1.out HD2.out HDS.out HN.out.ok, (HU.out.mono (by simp)).setCells (by simp) _ _⟩

end Go.Proofs.Ytncafchgdgmeaaa
