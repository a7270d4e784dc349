/-
  The reference's memory: Load, by its contract. No condition.
-/
import Derived.Test.YtoplekfnghkkdaaMg18
import Derived.Laws.BytesArg
import Derived.Test.YtoplekfnghkkdaaMg01
import Derived.Test.YtoplekfnghkkdaaMg06
import Derived.Test.YtoplekfnghkkdaaMg10
namespace Go.Proofs.Ytoplekfnghkkdaa
open Go Go.RowKit
set_option linter.unusedVariables false
set_option linter.unusedSimpArgs false

theorem span1_str {M : Mem} {s : SpanV} (hb : M.spanB s = true) : M.span1 s = (M.mapN s.pg.toNat s.ct.toNat s.rt).strN (s.pg.toNat * 256) s.by_ s.by_.size := by
  simp only [Mem.spanB, Bool.and_eq_true, decide_eq_true_eq] at hb
  obtain ⟨hm, hs⟩ := hb
  have hrow := mapB_row hm
  have hr : rightsB s.rt = true := by simp only [Mem.mapB, Bool.and_eq_true] at hm; exact hm.1
  have hr1 := (rightsB_iff _).1 hr
  have hp : (M.mapN s.pg.toNat s.ct.toNat s.rt).pokeB (s.pg * 256) (strInts s.by_) = true := by
    simp only [Mem.pokeB, Bool.and_eq_true, decide_eq_true_eq, List.all_eq_true, List.mem_range, strInts_length]
    refine ⟨by omega, fun i hi => ?_⟩
    have e : plus (s.pg * 256) i = s.pg * 256 + i := by unfold plus; omega
    simp only [Mem.mappedB, e, Mem.mapN]
    rw [decide_eq_true (by omega), Bool.true_and, if_pos (by omega)]
    simp; omega
  rw [Mem.span1, Mem.poke, hp, if_pos rfl, strInts_length, pokeN_strN _ _ hrow.1 _ _ (by omega)]

theorem ref_whole {w : World} {r : Nat} {C D : Array Value} {M : Mem} (h : HoldsR C M) (hb : w.heap[r]? = some (.cells D 95 (0, 0))) (hd : D.size = 16448) (hok : M.Ok) : IsRef (w.setCells r 0 C.toList) r M := by
  have hl : C.toList.length = 16448 := by rw [Array.length_toList, h.size]
  refine ⟨⟨_, ⟨by rw [wr_size, hd], fun k hk => ?_⟩, heap_setCells_same _ _ _ _ hb⟩, hok⟩
  rw [wr_get _ _ _ _ (by rw [hl, hd]; omega), if_pos (by rw [hl]; omega), Nat.sub_zero, Array.getElem?_toList, h.get k hk]

set_option maxRecDepth 100000 in
set_option maxHeartbeats 4000000 in
theorem Load_ref (M : Mem) (r g : Nat) (v : Value) (l : List SpanV) (w : World) (hM : IsRef w r M) (hl : SpansIn w v l g) (hok : ∀ s, s ∈ l → s.ok) :
    Calls Try.prog 56 #[.pointer (some ⟨r, 0, none⟩), v] w fun e w' => e = .returned (.int .i64 (errI (loadB l) 60)) ∧ IsRef w' r (loadR l M) ∧ Upd [r] w w' := by
  have hmo : Try.prog.follows .mixedOrders = true := by kernel_rfl
  obtain ⟨Z, hZ, hbuild⟩ := run_build_ref
  have HZ := Lib.hid hZ
  have HBu := Lib.hid hbuild
  have HM := Lib.hid hM
  have HL := Lib.hid hl
  have hrl := hM.lt
  clear hM hZ hbuild
  have hl2 := hl
  clear hl
  rcases hl2 with ⟨x, c, rfl, rfl⟩ | ⟨o, c, rfl, hg, hlen, hc⟩
  · go_enter Try.func56, Try.ntmps56
    go_wp2_with (refine wpList_build rfl 95 [] rfl [] rfl (.agg Z) (HBu.out _) ?_)
    go_loopw [6, 7, 8] (fun i _ _ wr => i = .int .i64 0 ∧ IsRef wr w.heap.size Mem.zero ∧ Upd [] w wr) (fun _ _ _ _ => 0)
    case atStart => exact ⟨rfl, IsRef.new HZ.out Mem.zero_ok, (Upd.refl _ _).alloc _⟩
    case round =>
      obtain ⟨rfl, hN, hU⟩ := hrel
      have HN := Lib.hid hN
      have HU := Lib.hid hU
      clear hN hU
      have hyes := Lib.hid (show loadB [] = true from rfl)
      obtain ⟨C, hC1, hC2⟩ := HN.out.ex
      obtain ⟨D, hD1, hD2⟩ := HM.out.ex
      have hD2' := HU.out.get hD2 (by simp)
      have HC1 := Lib.hid hC1
      have HC2 := Lib.hid (range_whole hC2)
      have HCS := Lib.hid hC1.size
      have HD2 := Lib.hid hD2'
      have HDS := Lib.hid hD1.size
      clear hC1 hC2 hD1 hD2 hD2'
      go_wp2_with (first | (refine wpList_load_arr rfl 95 _ rfl w.heap.size 0 rfl C _ HC2.out Try.underlying95 rfl (by rw [HCS.out]; exact ref_info) ?_) | (refine wpList_store_arr rfl 95 _ _ rfl r 0 C rfl rfl HD2.out (by rw [HCS.out, HDS.out]; decide) (by rw [HCS.out]; exact ref_info) HC1.out.one ?_))
      go_ret
      exact ⟨by rw [hyes.out]; rfl, by rw [loadR_yes hyes.out]; exact ref_whole HC1.out HD2.out HDS.out HN.out.ok, (HU.out.mono (by simp)).setCells (by simp) _ _⟩
  · have HC := Lib.hid hc
    clear hc
    have HO := Lib.hid hok
    clear hok
    go_enter Try.func56, Try.ntmps56
    go_wp2_with (refine wpList_build rfl 95 [] rfl [] rfl (.agg Z) (HBu.out _) ?_)
    go_loopw [6, 7, 8] (fun i _ _ wr => ∃ j : Nat, j ≤ l.length ∧ i = .int .i64 j ∧ (∀ k, k < j → (loadN l k).spanB (l.getD k default) = true) ∧ IsRef wr w.heap.size (loadN l j) ∧ Upd [] w wr) (fun i _ _ _ => l.length - (intOf i).toNat)
    case atStart => exact ⟨0, Nat.zero_le _, rfl, by omega, IsRef.new HZ.out Mem.zero_ok, (Upd.refl _ _).alloc _⟩
    case round =>
      obtain ⟨j, hj, rfl, hall, hN, hU⟩ := hrel
      have hnl := hN.lt
      have HN := Lib.hid hN
      have HU := Lib.hid hU
      have HA := Lib.hid hall
      clear hN hU hall
      by_cases hlt : j < l.length
      · obtain ⟨s, hs⟩ : ∃ s, l[j]? = some s := ⟨l[j], List.getElem?_eq_getElem hlt⟩
        have hsd : l.getD j default = s := by rw [List.getD_eq_getElem?_getD, hs]; rfl
        have hcs := HL.out.keep HU.out (by simp)
        obtain ⟨c0, c1, c2, c3⟩ : wr.cell? ⟨g, o + j * 4, none⟩ = some (.int .i64 s.pg) ∧ wr.cell? ⟨g, o + j * 4 + 1, none⟩ = some (.int .i64 s.ct) ∧ wr.cell? ⟨g, o + j * 4 + 2, none⟩ = some (.int .i64 s.rt) ∧ wr.cell? ⟨g, o + j * 4 + 3, none⟩ = some (.string s.by_) := by
          rcases hcs with ⟨_, _, hv, _⟩ | ⟨o', c', hv, _, _, h⟩
          · injection hv with _ e _; omega
          · injection hv with e _ _
            injection e with e
            injection e with _ e _
            subst e
            exact h j s hs
        have hsm : s.ok := HO.out s (List.mem_of_getElem? hs)
        have HS := Lib.hid hsm
        have HSD := Lib.hid hsd
        clear hcs hs hsm hsd
        have hmb : (loadN l j).mapB s.pg s.ct s.rt = true ∨ (loadN l j).mapB s.pg s.ct s.rt = false := by cases (loadN l j).mapB s.pg s.ct s.rt <;> simp
        rcases hmb with hmb | hmb
        · have hrow := mapB_row hmb
          have HB := Lib.hid hmb
          clear hmb
          obtain ⟨p1, p2, p3, p4⟩ := hrow
          by_cases hsz : (s.by_.size : Int) ≤ s.ct * 256
          · go_wp2_with (go_at_call 44; refine (Map_ref (loadN l j) w.heap.size s.pg s.ct s.rt _ (HN.out.keep ((Upd.refl [] _).alloc _) (by simp)) HS.out.1 HS.out.2).mono ?_; rintro e w2 ⟨rfl, hM2, hU2⟩; rw [Mem.mapM, HB.out, if_pos rfl] at hM2; rw [HB.out]; have HM2 := Lib.hid hM2; have HU2 := Lib.hid hU2; have hc2 := hU2.get (heap_alloc_new _ _) (by simp; omega); have HC2 := Lib.hid hc2; have cs2 := cells_of hc2; clear hM2 hU2 hc2)
            have hn1 : ∀ x, x ∈ [w.heap.size] → x ∈ ([] : List Nat) ∨ w.heap.size ≤ x := by simp
            obtain ⟨sb, hsb⟩ : ∃ sb, sb = wr.heap.size := ⟨_, rfl⟩
            have HSB := Lib.hid hsb
            have hsb' := HC2.out
            rw [← hsb] at hsb'
            have HC2' := Lib.hid hsb'
            clear hsb hsb'
            have HUA := Lib.hid ((HU.out.alloc _).also HU2.out hn1)
            go_loopw [8] (fun i w3 => ∃ k : Nat, k ≤ s.by_.size ∧ i = .int .i64 k ∧ IsRef w3 w.heap.size (((loadN l j).mapN s.pg.toNat s.ct.toNat s.rt).strN (s.pg.toNat * 256) s.by_ k) ∧ w3.heap[sb]? = some (.cells #[.int .i64 s.pg, .int .i64 s.ct, .int .i64 s.rt, .string s.by_] 122 (0, 0)) ∧ Upd [] w w3) (fun i _ => s.by_.size - (intOf i).toNat)
            case atStart => exact ⟨0, Nat.zero_le _, rfl, HM2.out, HC2'.out, HUA.out⟩
            case round =>
              obtain ⟨k, hk, rfl, hN3, hs3, hU3⟩ := hrel
              rw [← HSB.out]
              have HN3 := Lib.hid hN3
              have HS3 := Lib.hid hs3
              have HU3 := Lib.hid hU3
              have cs3 := cells_of hs3
              clear hN3 hs3 hU3 cs2
              by_cases hk2 : k < s.by_.size
              · have hd : decide ((k : Int) < s.by_.size) = true := by simp; omega
                have hlt8 : s.pg * 256 + k < 16384 := by omega
                have hnn8 : 0 ≤ s.pg * 256 + (k : Int) := by omega
                go_wp2_with fail
                refine wp_draw 13 (fun w1 => IsRef w1 w.heap.size (((loadN l j).mapN s.pg.toNat s.ct.toNat s.rt).strN (s.pg.toNat * 256) s.by_ k) ∧ w1.heap[sb]? = some (.cells #[.int .i64 s.pg, .int .i64 s.ct, .int .i64 s.rt, .string s.by_] 122 (0, 0)) ∧ Upd [] w w1) (fun _ _ => False) (by kernel_rfl) (by decide +kernel) ⟨HN3.out.drew, HS3.out, HU3.out.drew⟩ (fun _ _ _ h => h.elim) ?_
                simp only [List.take_succ_cons, List.take_zero, List.drop_succ_cons, List.drop_zero]
                repeat
                  apply headW_val rfl rfl
                  · intro K hK w1 hB1
                    have cs3 := cells_of hB1.2.1
                    have HB1 := Lib.hid hB1
                    clear hB1
                    go_wp2_with fail
                    exact HB1.out
                  · exact ⟨_, rfl⟩
                refine headW_nil (fun _ w1 hB1 => ?_)
                have ei : (s.pg * 256 + (k : Int)).toNat = s.pg.toNat * 256 + k := by omega
                have cb := hB1.1.cB (s.pg.toNat * 256 + k) (by omega)
                have fb := hB1.1.free (64 + (s.pg.toNat * 256 + k))
                rw [← ei] at cb fb
                have EI := Lib.hid ei
                have HB1 := Lib.hid hB1
                clear hB1 ei
                go_wp2_with fail
                have hgd : ((s.by_[k].toNat : Nat) : Int) = (strInts s.by_).getD k 0 := (strInts_get s.by_ k hk2).symm
                rw [hgd, EI.out]
                go_roundw
                case rel => exact ⟨k + 1, by omega, by go_num, HB1.out.1.setB (s.pg.toNat * 256 + k) ((strInts s.by_).getD k 0) (by omega) (strInts_ok _ _).1 (strInts_ok _ _).2, heap_set_keep _ (by simp; have := HSB.out; omega) HB1.out.2.1, HB1.out.2.2.setCell (by simp) _⟩
                case measure => simp [intOf]; omega
              · have hd : decide ((k : Int) < s.by_.size) = false := by simp; omega
                have hke : k = s.by_.size := by omega
                have HKE := Lib.hid hke
                clear hke
                go_wp2_with fail
                go_roundw
                case rel =>
                  refine ⟨j + 1, by omega, by go_num, fun t ht => ?_, ?_, HU3.out⟩
                  · by_cases e : t = j
                    · subst e
                      rw [HSD.out, Mem.spanB, HB.out]
                      simpa using hsz
                    · exact HA.out t (by omega)
                  · rw [loadN, HSD.out, span1_str (by rw [Mem.spanB, HB.out]; simpa using hsz), ← HKE.out]
                    exact HN3.out
                case measure => simp [intOf]; omega
          · have hsz' : s.ct * 256 < s.by_.size := by omega
            go_wp2_with (go_at_call 44; refine (Map_ref (loadN l j) w.heap.size s.pg s.ct s.rt _ (HN.out.keep ((Upd.refl [] _).alloc _) (by simp)) HS.out.1 HS.out.2).mono ?_; rintro e w2 ⟨rfl, hM2, hU2⟩; rw [Mem.mapM, HB.out, if_pos rfl] at hM2; rw [HB.out]; have HM2 := Lib.hid hM2; have HU2 := Lib.hid hU2; have hc2 := hU2.get (heap_alloc_new _ _) (by simp; omega); have HC2 := Lib.hid hc2; have cs2 := cells_of hc2; clear hM2 hU2 hc2)
            go_ret
            have hn : ∀ x, x ∈ [w.heap.size] → x ∈ ([] : List Nat) ∨ w.heap.size ≤ x := by simp
            have hno : loadB l = false := loadB_no hlt (by rw [HSD.out, Mem.spanB]; simp; omega)
            have hU' := (HU.out.alloc _).also HU2.out hn
            exact ⟨by rw [hno]; rfl, by rw [loadR_no hno]; exact HM.out.keep hU' (by simp), hU'.mono (by simp)⟩
        · have HB := Lib.hid hmb
          clear hmb
          go_wp2_with (go_at_call 44; refine (Map_ref (loadN l j) w.heap.size s.pg s.ct s.rt _ (HN.out.keep ((Upd.refl [] _).alloc _) (by simp)) HS.out.1 HS.out.2).mono ?_; rintro e w2 ⟨rfl, hM2, hU2⟩; rw [HB.out]; have HU2 := Lib.hid hU2; clear hM2 hU2)
          go_ret
          have hn : ∀ x, x ∈ [w.heap.size] → x ∈ ([] : List Nat) ∨ w.heap.size ≤ x := by simp
          have hno : loadB l = false := loadB_no hlt (by rw [HSD.out, Mem.spanB, HB.out]; rfl)
          have hU' := (HU.out.alloc _).also HU2.out hn
          exact ⟨by rw [hno]; rfl, by rw [loadR_no hno]; exact HM.out.keep hU' (by simp), hU'.mono (by simp)⟩
      · have e : j = l.length := by omega
        subst e
        have hyes := Lib.hid (loadB_yes HA.out)
        obtain ⟨C, hC1, hC2⟩ := HN.out.ex
        obtain ⟨D, hD1, hD2⟩ := HM.out.ex
        have hD2' := HU.out.get hD2 (by simp)
        have HC1 := Lib.hid hC1
        have HC2 := Lib.hid (range_whole hC2)
        have HCS := Lib.hid hC1.size
        have HD2 := Lib.hid hD2'
        have HDS := Lib.hid hD1.size
        clear hC1 hC2 hD1 hD2 hD2'
        go_wp2_with (first | (refine wpList_load_arr rfl 95 _ rfl w.heap.size 0 rfl C _ HC2.out Try.underlying95 rfl (by rw [HCS.out]; exact ref_info) ?_) | (refine wpList_store_arr rfl 95 _ _ rfl r 0 C rfl rfl HD2.out (by rw [HCS.out, HDS.out]; decide) (by rw [HCS.out]; exact ref_info) HC1.out.one ?_))
        go_ret
        exact ⟨by rw [hyes.out]; rfl, by rw [loadR_yes hyes.out]; exact ref_whole HC1.out HD2.out HDS.out HN.out.ok, (HU.out.mono (by simp)).setCells (by simp) _ _⟩

end Go.Proofs.Ytoplekfnghkkdaa

/-
  Slices of bytes as strings. No condition.
-/
namespace Go.Proofs.Ytoplekfnghkkdaa
open Go Go.RowKit
set_option linter.unusedVariables false
set_option linter.unusedSimpArgs false

theorem strOf_ints (s : ByteArray) : strOfNums (strInts s) = s := by
  have e : (strInts s).map (fun n => UInt8.ofNat n.toNat) = s.data.toList := by
    rw [strInts, List.map_map]
    conv => rhs; rw [← List.map_id s.data.toList]
    apply List.map_congr_left
    intro b _
    simp
  rw [strOfNums, e]

/-- A slice of bytes of one's own, as a string. -/
theorem own_string {w : World} {base : Nat} {l : List Int} {v : Value} (h : w.ownsRow base 5 1 v l.length (l.map (Value.int .u8))) :
    (convert 22 9 v).run Try.prog w = .ok (.string (strOfNums l)) w := by
  have hk := h
  obtain ⟨_, ⟨h1, h2⟩ | ⟨g, cap, cur, h1, _⟩⟩ := h
  · have : l = [] := List.length_eq_zero_iff.1 h2
    subst this
    rw [h1]
    exact run_convert_bytes_nil w 22 5 (by kernel_rfl) (by kernel_rfl) _ _ _ (by kernel_rfl)
  · rw [h1]
    refine run_convert_bytes_arg w 22 5 (by kernel_rfl) (by kernel_rfl) g 0 _ cap l rfl (fun i hi => ?_) _ (by kernel_rfl)
    have := hk.cells (g := g) (by rw [h1]; rfl) i (.int .u8 (l.getD i 0)) (by rw [List.getElem?_map, List.getD_eq_getElem?_getD, List.getElem?_eq_getElem hi]; rfl)
    rw [Nat.zero_add]
    rcases i with _ | i <;> simpa [Addr.add] using this

/-- A slice of one's own reads as its bytes. -/
theorem own_bysl {w : World} {base : Nat} {l : List Int} {v : Value} (h : w.ownsRow base 5 1 v l.length (l.map (Value.int .u8))) : ∃ g, BySl w v l g := by
  rcases h.2 with ⟨h1, h0⟩ | ⟨g, cap, cur, h1, hb, hg, hnc, hcm, hs, ht⟩
  · exact ⟨0, .inl ⟨h1, List.length_eq_zero_iff.1 h0⟩⟩
  · refine ⟨g, .inr ⟨0, cap, cur, _, _, h1, hg, fun i hi => ?_⟩⟩
    have e : (cur.toList.take (l.length * 1))[i]? = some (.int .u8 (l.getD i 0)) := by
      rw [ht, List.getElem?_map, List.getD_eq_getElem?_getD, List.getElem?_eq_getElem hi]; rfl
    rw [Nat.mul_one, List.getElem?_take, if_pos hi, Array.getElem?_toList] at e
    rw [Nat.zero_add]; exact e

theorem bysl_string {w : World} {g : Nat} {l : List Int} {v : Value} (h : BySl w v l g) : (convert 22 9 v).run Try.prog w = .ok (.string (strOfNums l)) w := by
  rcases h with ⟨rfl, rfl⟩ | ⟨o, c, C, T, f, rfl, hb, hc⟩
  · exact run_convert_bytes_nil w 22 5 (by kernel_rfl) (by kernel_rfl) _ _ _ (by kernel_rfl)
  · refine run_convert_bytes_arg w 22 5 (by kernel_rfl) (by kernel_rfl) g o _ c l rfl (fun i hi => ?_) _ (by kernel_rfl)
    have e := hc i hi
    rw [← cells_of hb] at e
    rcases i with _ | i <;> simpa [Addr.add] using e

end Go.Proofs.Ytoplekfnghkkdaa

/-
  Spans of pages as an argument of a law, opened. No condition.
-/
namespace Go.Proofs.Ytoplekfnghkkdaa
open Go Go.RowKit Go.WideShapes Go.ChangeShapes
set_option linter.unusedVariables false
set_option linter.unusedSimpArgs false

def intOfV : Option Value → Int
  | some (.int _ z) => z
  | _ => 0
def strOfV : Option Value → ByteArray
  | some (.string s) => s
  | _ => ByteArray.empty

/-- The span in four cells. -/
def spanAt (w : World) (g o : Nat) : SpanV := ⟨intOfV (w.cell? ⟨g, o, none⟩), intOfV (w.cell? ⟨g, o + 1, none⟩), intOfV (w.cell? ⟨g, o + 2, none⟩), strOfV (w.cell? ⟨g, o + 3, none⟩)⟩

structure SpanV.Ok (s : SpanV) : Prop where
  pg : -9223372036854775808 ≤ s.pg ∧ s.pg ≤ 9223372036854775807
  ct : -9223372036854775808 ≤ s.ct ∧ s.ct ≤ 9223372036854775807
  rt : -9223372036854775808 ≤ s.rt ∧ s.rt ≤ 9223372036854775807
  by_ : s.by_.size ≤ maxLen

theorem wf_i64 {z : Int} (h : (Lit.int .i64 z).wf = true) : -9223372036854775808 ≤ z ∧ z ≤ 9223372036854775807 := by
  simp only [Lit.wf, Bool.and_eq_true, decide_eq_true_eq] at h
  have h1 : IntKind.i64.min = -9223372036854775808 := by decide
  have h2 : IntKind.i64.max = 9223372036854775807 := by decide
  omega

/-- A span read as data lies in four cells. -/
theorem span_cells {H : Type} {enc : TypeId × Value → H} {w : World} {base : Nat} {spare : Nat → Bool} {held : Bool} {n : Nat} {g o : Nat} {y : DataW H × List MemPlace}
    (h : (w.cells? base ⟨g, o, none⟩ (Try.prog.cellsOf 122)).bind (DataW.trod enc Try.prog w base spare held n 122) = some y) :
    w.cell? ⟨g, o, none⟩ = some (.int .i64 (spanAt w g o).pg) ∧ w.cell? ⟨g, o + 1, none⟩ = some (.int .i64 (spanAt w g o).ct) ∧ w.cell? ⟨g, o + 2, none⟩ = some (.int .i64 (spanAt w g o).rt) ∧ w.cell? ⟨g, o + 3, none⟩ = some (.string (spanAt w g o).by_) ∧ (spanAt w g o).Ok ∧ g < w.heap.size := by
  rw [show Try.prog.cellsOf 122 = 4 by kernel_rfl, Option.bind_eq_some_iff] at h
  obtain ⟨cs, hcs, hy⟩ := h
  have hb := World.cells?_block hcs (by decide)
  obtain ⟨_, hl, hc⟩ := World.cells?_some hcs
  have c : ∀ j, j < 4 → ∀ lf, leafAt Try.prog 8 122 j = some lf → ∃ x, w.cell? ⟨g, o + j, none⟩ = some x ∧ LeafOk lf x := by
    intro j hj lf hlf
    obtain ⟨x, hx, hok⟩ := leafAt_ok 8 _ _ _ _ j lf hy hlf
    refine ⟨x, ?_, hok⟩
    have := hc j hj
    rw [Addr.add_lit] at this
    rw [this, hx]
  obtain ⟨x0, h0, z0, rfl, w0⟩ := c 0 (by decide) (.int .i64) (by kernel_rfl)
  obtain ⟨x1, h1, z1, rfl, w1⟩ := c 1 (by decide) (.int .i64) (by kernel_rfl)
  obtain ⟨x2, h2, z2, rfl, w2⟩ := c 2 (by decide) (.int .i64) (by kernel_rfl)
  obtain ⟨x3, h3, s, rfl, w3⟩ := c 3 (by decide) .string (by kernel_rfl)
  have e : spanAt w g o = ⟨z0, z1, z2, s⟩ := by
    have h0' : w.cell? ⟨g, o, none⟩ = _ := h0
    simp only [spanAt, h0', h1, h2, h3]
    rfl
  rw [e]
  exact ⟨h0, h1, h2, h3, ⟨wf_i64 w0, wf_i64 w1, wf_i64 w2, w3⟩, hb⟩

/-- Spans as a law's argument. -/
structure SArg (w : World) (v : Value) (L : List SpanV) (g : Nat) : Prop where
  sp : SpansIn w v L g
  ok : ∀ s ∈ L, s.Ok
  len : L.length ≤ maxLen
  lt : g ≤ w.heap.size
  form : ∀ b n c, v = .slice b n c → n = L.length

theorem SArg.keep {w w' : World} {v : Value} {L : List SpanV} {g : Nat} (h : SArg w v L g) (u : Upd [] w w') : SArg w' v L g :=
  ⟨h.sp.keep u (by simp), h.ok, h.len, Nat.le_trans h.lt u.size, h.form⟩

set_option maxRecDepth 100000 in
theorem spans_of_row {H : Type} {enc : TypeId × Value → H} {w : World} {t : TypeId} (ht : Try.prog.underlying t = some (.slice 122)) {base b0 fuel : Nat} {spare : Nat → Bool} {held : Bool} {r : Reach} {v : Value} {x : DataW H × List MemPlace}
    (hval : Value.okWide Try.prog w r b0 t v) (hf : DataW.trod enc Try.prog w base spare held fuel t v.cells.toList = some x) : ∃ L g, SArg w v L g := by
  obtain ⟨a1, len, cap, rfl⟩ := okWide_slice ht hval
  rcases DataW.trod_slice ht hf with ⟨hcs, hx⟩ | ⟨a, len', cap', elems, rest, n, _, hcs, _, _, hl, hm, hel, he, _, _⟩
  · simp [Value.cells] at hcs
    obtain ⟨rfl, rfl, rfl⟩ := hcs
    exact ⟨[], 0, .inl ⟨_, _, rfl, rfl⟩, by simp, by simp, Nat.zero_le _, fun b n c e => by injection e with _ e _; exact e.symm⟩
  · simp [Value.cells] at hcs
    obtain ⟨rfl, rfl, rfl⟩ := hcs
    simp only [Value.okWide, ht, Cell.okWide, Cell.ok, World.has] at hval
    obtain ⟨_, _, _, hsp, row, cells, hsh, _⟩ := hval
    obtain ⟨ab, ao, spot⟩ := a
    simp only at hsp
    subst hsp
    have hlt : ab < w.heap.size := by
      unfold World.shape? at hsh
      split at hsh
      · rename_i c e f hh
        exact lt_of_heap hh
      · cases hsh
    have hc4 : Try.prog.cellsOf 122 = 4 := by kernel_rfl
    have each : ∀ i, i < len → w.cell? ⟨ab, ao + i * 4, none⟩ = some (.int .i64 (spanAt w ab (ao + i * 4)).pg) ∧ w.cell? ⟨ab, ao + i * 4 + 1, none⟩ = some (.int .i64 (spanAt w ab (ao + i * 4)).ct) ∧ w.cell? ⟨ab, ao + i * 4 + 2, none⟩ = some (.int .i64 (spanAt w ab (ao + i * 4)).rt) ∧ w.cell? ⟨ab, ao + i * 4 + 3, none⟩ = some (.string (spanAt w ab (ao + i * 4)).by_) ∧ (spanAt w ab (ao + i * 4)).Ok ∧ ab < w.heap.size := fun i hi => by
      have h := he i hi
      obtain ⟨y, hy⟩ : ∃ y, elems[i]? = some y := ⟨_, List.getElem?_eq_getElem (by omega)⟩
      rw [hy, Addr.add_lit] at h
      have h2 := span_cells h
      rw [hc4] at h2
      exact h2
    have hl2 : ((List.range len).map fun i => spanAt w ab (ao + i * 4)).length = len := by simp
    refine ⟨(List.range len).map fun i => spanAt w ab (ao + i * 4), ab, .inr ⟨ao, cap, by rw [hl2], hlt, by rw [hl2]; unfold maxLen at hm; omega, fun i s hs => ?_⟩, fun s hs => ?_, by rw [hl2]; omega, Nat.le_of_lt hlt, fun b n c e => by injection e with _ e _; rw [hl2]; exact e.symm⟩
    · have hi : i < len := by
        have := (List.getElem?_eq_some_iff.1 hs).1
        rwa [hl2] at this
      rw [List.getElem?_map, List.getElem?_range hi] at hs
      simp only [Option.map_some, Option.some.injEq] at hs
      subst hs
      have h := each i hi
      exact ⟨h.1, h.2.1, h.2.2.1, h.2.2.2.1⟩
    · obtain ⟨i, hi, rfl⟩ := List.mem_map.1 hs
      have h := each i (List.mem_range.1 hi)
      exact h.2.2.2.2.1

set_option maxRecDepth 100000 in
theorem open_spans {H : Type} {enc : TypeId × Value → H} {w : World} {t : TypeId} (ht : Try.prog.underlying t = some (.slice 122)) {b0 : Nat} {v : Value} {d : DataW H} {p : List MemPlace}
    (hval : Value.okWide Try.prog w .any b0 t v) (h : DataW.Trod enc Try.prog w 0 (fun _ => true) true t v d p) : ∃ L g, SArg w v L g := by
  obtain ⟨fuel, hf⟩ := h
  exact spans_of_row ht hval hf

end Go.Proofs.Ytoplekfnghkkdaa

/-
  The laws of layer 20: both memories alike, both loaded, few spans: each by its contract. No condition.
-/
namespace Go.Proofs.Ytoplekfnghkkdaa
open Go Go.RowKit
set_option linter.unusedVariables false
set_option linter.unusedSimpArgs false

structure AlB (w0 : World) (a pb rr : Nat) (M : Mem) (L : List Int) (d : Nat → Bool) (r : Nat → Value) (w : World) : Prop where
  m : IsMem w a pb M
  f : IsRef w rr M
  u : Upd [] w0 w
  p : d 15 = true → ∃ g, BySl w (r 15) L g
  q : d 21 = true → ∃ g, BySl w (r 21) L g

theorem AlB.same {w0 : World} {a pb rr : Nat} {M : Mem} {L : List Int} {d : Nat → Bool} {r : Nat → Value} {w : World} (h : AlB w0 a pb rr M L d r w) (i : Nat) (h1 : i ≠ 15) (h2 : i ≠ 21) : AlB w0 a pb rr M L (updD d i) r w :=
  ⟨h.m, h.f, h.u, fun e => h.p (by simpa [updD, h1.symm] using e), fun e => h.q (by simpa [updD, h2.symm] using e)⟩

theorem AlB.putP {w0 : World} {a pb rr : Nat} {M : Mem} {L : List Int} {d : Nat → Bool} {r : Nat → Value} {w w1 : World} (h : AlB w0 a pb rr M L d r w) (u : Upd [] w w1) {v : Value} (hv : ∃ g, BySl w1 v L g) : AlB w0 a pb rr M L (updD d 15) (updV r 15 v) w1 :=
  ⟨h.m.keep u (by simp) (by simp), h.f.keep u (by simp), h.u.also u (by simp), fun _ => by simpa [updV] using hv, fun e => by
    obtain ⟨g, hg⟩ := h.q (by simpa [updD] using e)
    exact ⟨g, by simpa [updV] using hg.keep u (by simp)⟩⟩

theorem AlB.putQ {w0 : World} {a pb rr : Nat} {M : Mem} {L : List Int} {d : Nat → Bool} {r : Nat → Value} {w w1 : World} (h : AlB w0 a pb rr M L d r w) (u : Upd [] w w1) {v : Value} (hv : ∃ g, BySl w1 v L g) : AlB w0 a pb rr M L (updD d 21) (updV r 21 v) w1 :=
  ⟨h.m.keep u (by simp) (by simp), h.f.keep u (by simp), h.u.also u (by simp), fun e => by
    obtain ⟨g, hg⟩ := h.p (by simpa [updD] using e)
    exact ⟨g, by simpa [updV] using hg.keep u (by simp)⟩, fun _ => by simpa [updV] using hv⟩

theorem rights_at (M : Mem) (x : Int) (h0 : 0 ≤ x) (h : x < 64) : M.rights x = M.R x.toNat := by rw [Mem.rights, if_neg (by omega)]

set_option maxRecDepth 100000 in
set_option maxHeartbeats 4000000 in
theorem alike20_any (M : Mem) (a pb rr : Nat) (w : World) (hM : IsMem w a pb M) (hR : IsRef w rr M) :
    Calls Try.prog 27 #[.pointer (some ⟨a, 0, none⟩), .pointer (some ⟨rr, 0, none⟩)] w fun e w' => e = .returned (.bool true) ∧ Upd [] w w' := by
  have hmo : Try.prog.follows .mixedOrders = true := by kernel_rfl
  have HM := Lib.hid hM
  have HR := Lib.hid hR
  clear hM hR
  go_enter Try.func27, Try.ntmps27
  go_wp2_with fail
  go_loopw [5] (fun i wr => ∃ x : Int, 0 ≤ x ∧ x ≤ 64 ∧ i = .int .i64 x ∧ Upd [] w wr) (fun i _ => 64 - (intOf i).toNat)
  case atStart => exact ⟨0, by decide, by decide, rfl, Upd.refl _ _⟩
  case round =>
    obtain ⟨x, hx0, hx1, rfl, hU⟩ := hrel
    have HU := Lib.hid hU
    clear hU
    by_cases hlt : x < 64
    · have HRi := Lib.hid (rights_at M x hx0 hlt)
      have q1 : x * 256 % 4294967296 = x * 256 := by omega
      have q2 : 0 ≤ x * 256 := by omega
      have q3 : x * 256 < 4294967296 := by omega
      obtain ⟨S, hS⟩ : ∃ S, strOfNums (M.peek (x * 256) 256) = S := ⟨_, rfl⟩
      have HS := Lib.hid hS
      clear hS
      go_wp2_with fail
      refine wp_drawE 25 (AlB w a pb rr M (M.peek (x * 256) 256)) (fun _ _ => False) (by kernel_rfl) (by kernel_rfl) (fun r0 => ⟨(HM.out.keep HU.out (by simp) (by simp)).drew, (HR.out.keep HU.out (by simp)).drew, HU.out.drew, by simp, by simp⟩) (fun _ _ _ h => h.elim) ?_
      simp only [List.take_succ_cons, List.take_zero, List.drop_succ_cons, List.drop_zero]
      iterate 15
        apply headE_val0 rfl rfl
        · intro d r0 K hd hdep hK w1 hB1
          have cR := hB1.f.cR x.toNat (by omega)
          have HB := Lib.hid hB1
          clear hB1 hdep
          go_wp2_with (go_at_call 71; refine (Rights_any a pb x _ M HB.out.m).mono ?_; rintro e w2 ⟨rfl, rfl⟩; rw [HRi.out])
          first
          | exact hK _ (HB.out.same _ (by decide) (by decide))
          | exact HB.out.same _ (by decide) (by decide)
        · exact ⟨_, rfl⟩
      refine headE_free rfl (fun _ => rfl) 25 rfl (by simp [Act.put]) ?_ ?_
      · intro d r0 K hd w1 hB1 hK
        have HB := Lib.hid hB1
        clear hB1
        simp only [fillE]
        go_wp2_with fail
        refine (Peek_any M a pb (x * 256) 256 _ HB.out.m q2 q3 (by decide) (by decide)).mono ?_
        rintro e w2 ⟨v, rfl, ho, hu⟩
        exact hK v w2 (HB.out.putP hu (own_bysl ho))
      apply headE_val rfl (fun _ => rfl)
      · intro d r0 K hd hdep hK w1 hB1
        have h15 : d 15 = true := hdep ⟨15, .data⟩ (by simp) rfl
        obtain ⟨g, hg⟩ := hB1.p h15
        have hcv := bysl_string hg
        rw [HS.out] at hcv
        have HB := Lib.hid hB1
        clear hB1 hdep hg
        show Oper.wp _ _ (Act.put (fillE _ _ [] _) (some 25) (r0 15)) _ _ _
        simp only [fillE]
        go_wp2_with fail
        first
        | exact hK _ (HB.out.same _ (by decide) (by decide))
        | exact HB.out.same _ (by decide) (by decide)
      · exact ⟨_, fun _ => rfl, Eq.symm (by go_simp; exact rfl)⟩
      iterate 4
        apply headE_val rfl (fun _ => rfl)
        · intro d r0 K hd hdep hK w1 hB1
          have HB := Lib.hid hB1
          clear hB1 hdep
          show Oper.wp _ _ (Act.put (fillE _ _ [] _) (some 25) (r0 15)) _ _ _
          simp only [fillE]
          go_wp2_with fail
          first
          | exact hK _ (HB.out.same _ (by decide) (by decide))
          | exact HB.out.same _ (by decide) (by decide)
        · exact ⟨_, fun _ => rfl, Eq.symm (by go_simp; exact rfl)⟩
      refine headE_free rfl (fun _ => rfl) 31 rfl (by simp [Act.put]) ?_ ?_
      · intro d r0 K hd w1 hB1 hK
        have HB := Lib.hid hB1
        clear hB1
        show Oper.wp _ _ (Act.put (fillE _ _ [] _) (some 25) (r0 15)) _ _ _
        simp only [fillE]
        go_wp2_with fail
        refine (Peek_ref M rr (x * 256) 256 _ HB.out.f q2 q3).mono ?_
        rintro e w2 ⟨v, rfl, ho, hu⟩
        exact hK v w2 (HB.out.putQ hu (own_bysl ho))
      apply headE_val rfl (fun _ => rfl)
      · intro d r0 K hd hdep hK w1 hB1
        have h21 : d 21 = true := hdep ⟨21, .data⟩ (by simp) rfl
        obtain ⟨g, hg⟩ := hB1.q h21
        have hcv := bysl_string hg
        rw [HS.out] at hcv
        have HB := Lib.hid hB1
        clear hB1 hdep hg
        show Oper.wp _ _ (Act.put (Act.put (fillE _ _ [] _) (some 25) (r0 15)) (some 31) (r0 21)) _ _ _
        simp only [fillE]
        go_wp2_with fail
        first
        | exact hK _ (HB.out.same _ (by decide) (by decide))
        | exact HB.out.same _ (by decide) (by decide)
      · exact ⟨_, fun _ => rfl, Eq.symm (by go_simp; exact rfl)⟩
      iterate 2
        apply headE_val rfl (fun _ => rfl)
        · intro d r0 K hd hdep hK w1 hB1
          have HB := Lib.hid hB1
          clear hB1 hdep
          show Oper.wp _ _ (Act.put (Act.put (fillE _ _ [] _) (some 25) (r0 15)) (some 31) (r0 21)) _ _ _
          simp only [fillE]
          go_wp2_with fail
          first
          | exact hK _ (HB.out.same _ (by decide) (by decide))
          | exact HB.out.same _ (by decide) (by decide)
        · exact ⟨_, fun _ => rfl, Eq.symm (by go_simp; exact rfl)⟩
      refine headE_nil (fun _ r0 w1 d hall hB1 => ?_)
      show wpList _ _ _ _ (Act.put (Act.put (fillE _ _ [] _) (some 25) (r0 15)) (some 31) (r0 21)) _
      simp only [fillE]
      have HB := Lib.hid hB1
      clear hB1
      go_wp2_with fail
      go_roundw
      case rel => exact ⟨x + 1, by omega, by omega, rfl, HB.out.u⟩
      case measure => simp [intOf]; omega
    · go_wp2_with fail
      go_ret
      exact ⟨rfl, HU.out⟩

set_option maxRecDepth 100000 in
set_option maxHeartbeats 1000000 in
theorem both20_any (v : Value) (L : List SpanV) (g : Nat) (w : World) (h : SArg w v L g) :
    Calls Try.prog 17 #[v] w fun e w' => ∃ a pb rr, e = .returned (.tuple #[.pointer (some ⟨a, 0, none⟩), .pointer (some ⟨rr, 0, none⟩), .bool (loadB L)]) ∧ IsMem w' a pb (loadR L Mem.zero) ∧ IsRef w' rr (loadR L Mem.zero) ∧ Upd [] w w' ∧ rr ≠ a ∧ rr ≠ pb ∧ w.heap.size ≤ a ∧ w.heap.size ≤ pb ∧ w.heap.size ≤ rr := by
  obtain ⟨Z, hZ, hbuild⟩ := run_build_ref
  have HZ := Lib.hid hZ
  have HBu := Lib.hid hbuild
  have HS := Lib.hid h
  have HO := Lib.hid (show ∀ s, s ∈ L → s.ok from fun s hs => (h.ok s hs).ct)
  clear hZ hbuild h
  cases hb : loadB L
  · have HB := Lib.hid hb
    clear hb
    go_enter Try.func17, Try.ntmps17
    go_wp2_with (first | (go_at_call 29; refine (New_any _).mono ?_; rintro e w1 ⟨a, pb, rfl, ha, hp, hm, hu⟩; have HM := Lib.hid hm; have HU := Lib.hid hu; have HA := Lib.hid (And.intro ha hp); clear hm hu ha hp) | (refine wpList_build rfl 95 [] rfl [] rfl (.agg Z) (HBu.out _) ?_) | (go_at_call 55; refine (Load_any Mem.zero a pb g v L _ (HM.out.keep ((Upd.refl [] _).alloc _) (by simp) (by simp)) (HS.out.sp.keep (HU.out.alloc _) (by simp)) HO.out).mono ?_; rintro e w2 ⟨rfl, hm, hu⟩; rw [HB.out]; have HM2 := Lib.hid hm; have HU2 := Lib.hid hu; clear hm hu))
    obtain ⟨qb, hq, hm⟩ := HM2.out.ex
    have hal := HM.out.al
    have hpl := HM.out.pl
    have hUA := (HU.out.alloc (.cells Z 95)).also HU2.out (by have := HA.out; simp; omega)
    refine bodyPost_ret (v := .tuple #[.pointer (some ⟨a, 0, none⟩), .pointer (some ⟨w1.heap.size, 0, none⟩), .bool false]) (results_three' rfl (res_tmp 2 rfl) (res_tmp 3 rfl) (res_tmp 4 rfl)) rfl ⟨a, qb, w1.heap.size, rfl, hm, ?_, hUA, by omega, ?_, HA.out.1, ?_, HU.out.size⟩
    · rw [loadR_no HB.out]
      exact (IsRef.new HZ.out Mem.zero_ok).keep HU2.out (by simp; omega)
    · rcases hq with rfl | hq
      · omega
      · have : w1.heap.size < (w1.alloc (.cells Z 95)).heap.size := by simp
        omega
    · have := HA.out.2
      have h1 := HU.out.size
      rcases hq with rfl | hq
      · omega
      · simp at hq; omega
  · have HB := Lib.hid hb
    clear hb
    go_enter Try.func17, Try.ntmps17
    go_wp2_with (first | (go_at_call 29; refine (New_any _).mono ?_; rintro e w1 ⟨a, pb, rfl, ha, hp, hm, hu⟩; have HM := Lib.hid hm; have HU := Lib.hid hu; have HA := Lib.hid (And.intro ha hp); clear hm hu ha hp) | (refine wpList_build rfl 95 [] rfl [] rfl (.agg Z) (HBu.out _) ?_) | (go_at_call 55; refine (Load_any Mem.zero a pb g v L _ (HM.out.keep ((Upd.refl [] _).alloc _) (by simp) (by simp)) (HS.out.sp.keep (HU.out.alloc _) (by simp)) HO.out).mono ?_; rintro e w2 ⟨rfl, hm, hu⟩; rw [HB.out]; have HM2 := Lib.hid hm; have HU2 := Lib.hid hu; clear hm hu) | (go_at_call 56; refine (Load_ref Mem.zero w1.heap.size g v L _ ((IsRef.new HZ.out Mem.zero_ok).keep HU2.out (by have := HM.out.al; simp; omega)) (HS.out.sp.keep ((HU.out.alloc _).also HU2.out (by have := HA.out; simp; omega)) (by simp)) HO.out).mono ?_; rintro e w3 ⟨rfl, hr, hu⟩; rw [HB.out]; have HR3 := Lib.hid hr; have HU3 := Lib.hid hu; clear hr hu))
    obtain ⟨qb, hq, hm⟩ := HM2.out.ex
    have hal := HM.out.al
    have hpl := HM.out.pl
    have hqb : qb ≠ w1.heap.size := by
      rcases hq with rfl | hq
      · omega
      · have : w1.heap.size < (w1.alloc (.cells Z 95)).heap.size := by simp
        omega
    have hqn : w.heap.size ≤ qb := by
      have := HA.out.2
      have h1 := HU.out.size
      rcases hq with rfl | hq
      · omega
      · simp at hq; omega
    have hUA := (HU.out.alloc (.cells Z 95)).also HU2.out (by have := HA.out; simp; omega)
    have hUB := hUA.also HU3.out (by have := HU.out.size; simp; omega)
    refine bodyPost_ret (v := .tuple #[.pointer (some ⟨a, 0, none⟩), .pointer (some ⟨w1.heap.size, 0, none⟩), .bool true]) (results_three' rfl (res_tmp 2 rfl) (res_tmp 3 rfl) (res_tmp 4 rfl)) rfl ⟨a, qb, w1.heap.size, rfl, hm.keep HU3.out (by simp; omega) (by simpa using hqb), HR3.out, hUB, by omega, by omega, HA.out.1, hqn, HU.out.size⟩

def fewB (L : List SpanV) : Bool := (L.all fun s => decide (s.by_.size ≤ 3000)) && decide (L.length ≤ 8)

set_option maxRecDepth 100000 in
set_option maxHeartbeats 1000000 in
theorem few20_any (v : Value) (L : List SpanV) (g : Nat) (w : World) (h : SArg w v L g) :
    Calls Try.prog 18 #[v] w fun e w' => e = .returned (.bool (fewB L)) ∧ w = w' := by
  have HS := Lib.hid h
  have hlen := h.len
  unfold maxLen at hlen
  have hsp := h.sp
  clear h
  rcases hsp with ⟨b, c, rfl, rfl⟩ | ⟨o, c, rfl, hg, hlen2, hc⟩
  · have HF := Lib.hid (show fewB [] = true from rfl)
    go_enter Try.func18, Try.ntmps18
    go_wp2_with fail
    go_loop [3] (fun i => i = .int .i64 0) (fun _ => 0)
    case atStart => exact rfl
    case round =>
      subst hrel
      go_wp2_with fail
      go_ret
      exact ⟨by rw [HF.out]; rfl, rfl⟩
  · have HC := Lib.hid hc
    clear hc
    go_enter Try.func18, Try.ntmps18
    go_wp2_with fail
    go_loop [3] (fun i => ∃ j : Nat, j ≤ L.length ∧ i = .int .i64 j ∧ ∀ k, k < j → (L.getD k default).by_.size ≤ 3000) (fun i => L.length - (intOf i).toNat)
    case atStart => exact ⟨0, Nat.zero_le _, rfl, by omega⟩
    case round =>
      obtain ⟨j, hj, rfl, hall⟩ := hrel
      have HA := Lib.hid hall
      clear hall
      by_cases hlt : j < L.length
      · have hd : decide ((j : Int) < L.length) = true := by simp; omega
        obtain ⟨s, hs⟩ : ∃ s, L[j]? = some s := ⟨L[j], List.getElem?_eq_getElem hlt⟩
        have hsd : L.getD j default = s := by rw [List.getD_eq_getElem?_getD, hs]; rfl
        have c3 := (HC.out j s hs).2.2.2
        have HSD := Lib.hid hsd
        have HSS := Lib.hid hs
        clear hs hsd
        by_cases hz : s.by_.size ≤ 3000
        · have hz1 : decide (3000 < (s.by_.size : Int)) = false := by simp; omega
          have HZ := Lib.hid hz
          clear hz
          go_wp2_with fail
          go_round
          case rel => exact ⟨j + 1, by omega, by go_num, fun k hk => by
              by_cases e : k = j
              · subst e; rw [HSD.out]; exact HZ.out
              · exact HA.out k (by omega)⟩
          case measure => simp [intOf]; omega
        · have hz1 : decide (3000 < (s.by_.size : Int)) = true := by simp; omega
          have HF := Lib.hid (show fewB L = false by
            rw [fewB, Bool.and_eq_false_iff]
            refine .inl ?_
            rw [List.all_eq_false]
            exact ⟨s, List.mem_of_getElem? HSS.out, by simpa using hz⟩)
          clear hz
          go_wp2_with fail
          go_ret
          exact ⟨by rw [HF.out]; rfl, rfl⟩
      · have hd : decide ((j : Int) < L.length) = false := by simp; omega
        have hall : (L.all fun s => decide (s.by_.size ≤ 3000)) = true := by
          rw [List.all_eq_true]
          intro s hs
          obtain ⟨k, hk⟩ := List.getElem?_of_mem hs
          have hkl := (List.getElem?_eq_some_iff.1 hk).1
          have := HA.out k (by omega)
          rw [List.getD_eq_getElem?_getD, hk] at this
          simpa using this
        by_cases h8 : L.length ≤ 8
        · have h81 : decide ((L.length : Int) ≤ 8) = true := by simp; omega
          have HF := Lib.hid (show fewB L = true by rw [fewB, hall, Bool.true_and]; simpa using h8)
          clear h8 hall
          go_wp2_with fail
          go_ret
          exact ⟨by rw [HF.out]; rfl, rfl⟩
        · have h81 : decide ((L.length : Int) ≤ 8) = false := by simp; omega
          have HF := Lib.hid (show fewB L = false by rw [fewB, hall, Bool.true_and]; simpa using h8)
          clear h8 hall
          go_wp2_with fail
          go_ret
          exact ⟨by rw [HF.out]; rfl, rfl⟩

end Go.Proofs.Ytoplekfnghkkdaa
