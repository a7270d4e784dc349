/-
  The reference's memory: Poke, Peek: each by its contract. No condition.
-/
import Derived.Test.YtncafchgdgmeaaaRfE
namespace Go.Proofs.Ytncafchgdgmeaaa
open Go Go.RowKit
set_option linter.unusedVariables false
set_option linter.unusedSimpArgs false

theorem rightAt_mapped (M : Mem) (x : Int) : (M.rightAt x == 0) = !M.mappedB x := by
  unfold Mem.rightAt Mem.mappedB
  by_cases h : x < 16384
  · rw [if_pos h, decide_eq_true h, Bool.true_and]
    cases hz : M.R (x / 256).toNat == 0
    · simp only [bne, hz]; rfl
    · simp only [bne, hz]; rfl
  · rw [if_neg h, decide_eq_false h, Bool.false_and]
    rfl

theorem IsRef.drew {w : World} {r : Nat} {M : Mem} (h : IsRef w r M) : IsRef w.drew r M := ⟨h.ex, h.ok⟩

set_option maxRecDepth 100000 in
set_option maxHeartbeats 2000000 in
theorem Poke_ref (M : Mem) (r : Nat) (x : Int) (v : Value) (l : List Int) (g : Nat) (w : World) (hM : IsRef w r M) (h0 : 0 ≤ x) (h1 : x < 4294967296) (hv : BySl w v l g) (hg : g ≠ r) (hl : ∀ i, 0 ≤ l.getD i 0 ∧ l.getD i 0 ≤ 255) (hlen : l.length ≤ 16384) :
    Calls Try.prog 70 #[.pointer (some ⟨r, 0, none⟩), .int .u32 x, v] w fun e w' =>
      e = .returned (.int .i64 (errI (M.pokeB x l) 61)) ∧ IsRef w' r (M.poke x l) ∧ Upd [r] w w' := by
  have hmo : Try.prog.follows .mixedOrders = true := by kernel_rfl
  have HL := Lib.hid hl
  have HV := Lib.hid hv
  obtain ⟨sb, sc, rfl⟩ := hv.form
  have HLen := Lib.hid hlen
  have hpl := hM.lt
  have hfinN : M.pokeB x l = false → (Ending.returned (.int .i64 61) = .returned (.int .i64 (errI (M.pokeB x l) 61)) ∧ IsRef w r (M.poke x l) ∧ Upd [r] w w) := by
    intro h
    rw [Mem.poke, h]
    exact ⟨rfl, hM, Upd.refl _ _⟩
  have HFN := Lib.hid hfinN
  have hfinY : ∀ w', M.pokeB x l = true → IsRef w' r (M.pokeN x l l.length) → Upd [r] w w' → (Ending.returned (.int .i64 0) = .returned (.int .i64 (errI (M.pokeB x l) 61)) ∧ IsRef w' r (M.poke x l) ∧ Upd [r] w w') := by
    intro w' h hm hu
    rw [Mem.poke, h]
    exact ⟨rfl, hm, hu⟩
  have HFY := Lib.hid hfinY
  have hle : (l.length : Int) ≤ 16384 := by omega
  clear hl hv hfinN hfinY hlen
  have HM := Lib.hid hM
  clear hM
  go_enter Try.func70, Try.ntmps70
  go_wp2_with fail
  go_loopw [7] (fun i wr => ∃ j : Nat, j ≤ l.length ∧ i = .int .i64 j ∧ (∀ t, t < j → M.mappedB (plus x t) = true) ∧ w = wr) (fun i _ => l.length - (intOf i).toNat)
  case atStart => exact ⟨0, Nat.zero_le _, rfl, by simp, rfl⟩
  case round =>
    obtain ⟨j, hj, rfl, hc, rfl⟩ := hrel
    have HC := Lib.hid hc
    clear hc
    by_cases hlt : j < l.length
    · have hd : decide ((j : Int) < l.length) = true := by simp; omega
      have h16 : (j : Int) < 16384 := by omega
      have q2 : (x + (j : Int)) % 4294967296 = plus x j := rfl
      cases hb : M.mappedB (plus x j)
      · have HB := Lib.hid hb
        have HR := Lib.hid (show (M.rightAt (plus x j) == 0) = true by rw [rightAt_mapped, hb]; rfl)
        clear hb
        go_wp2_with (go_at_call 72; refine (Right_ref M r (plus x j) _ HM.out (plus_nn x j)).mono ?_; rintro e w' ⟨rfl, rfl⟩; have hr0 := HR.out)
        go_ret
        exact HFN.out (by
          simp only [Mem.pokeB, Bool.and_eq_false_iff, List.all_eq_false]
          exact .inr ⟨j, List.mem_range.2 hlt, by rw [HB.out]; simp⟩)
      · have HB := Lib.hid hb
        have HR := Lib.hid (show (M.rightAt (plus x j) == 0) = false by rw [rightAt_mapped, hb]; rfl)
        clear hb
        go_wp2_with (go_at_call 72; refine (Right_ref M r (plus x j) _ HM.out (plus_nn x j)).mono ?_; rintro e w' ⟨rfl, rfl⟩; have hr0 := HR.out)
        go_roundw
        case rel => exact ⟨j + 1, by omega, by go_num, fun t ht => by
            by_cases e : t = j
            · subst e; exact HB.out
            · exact HC.out t (by omega), trivial⟩
        case measure => simp [intOf]; omega
    · have hall : ∀ t, t < l.length → M.mappedB (plus x t) = true := fun t ht => HC.out t (by omega)
      have hyes : M.pokeB x l = true := by
        simp only [Mem.pokeB, Bool.and_eq_true, decide_eq_true_eq, List.all_eq_true, List.mem_range]
        exact ⟨HLen.out, hall⟩
      have HAll := Lib.hid hall
      have HYes := Lib.hid hyes
      clear hall hyes HC
      have hd : decide ((j : Int) < l.length) = false := by simp; omega
      go_wp2_with fail
      go_loopw [8] (fun i w2 => ∃ t : Nat, t ≤ l.length ∧ i = .int .i64 t ∧ IsRef w2 r (M.pokeN x l t) ∧ Upd [r] w w2) (fun i _ => l.length - (intOf i).toNat)
      case atStart => exact ⟨0, Nat.zero_le _, rfl, HM.out, Upd.refl _ _⟩
      case round =>
        obtain ⟨t, ht, rfl, hm, hu⟩ := hrel
        have HM2 := Lib.hid hm
        have HU2 := Lib.hid hu
        clear hm hu hd
        by_cases hlt2 : t < l.length
        · rcases HV.out with ⟨_, hnil⟩ | ⟨o, c, C, T, f, hs, hC, hcell⟩
          · rw [hnil] at hlt2; simp at hlt2
          · simp only [Value.slice.injEq, true_and] at hs
            obtain ⟨rfl, rfl⟩ := hs
            have hd : decide ((t : Int) < l.length) = true := by simp; omega
            have HCg := Lib.hid hC
            have HCell := Lib.hid (hcell t hlt2)
            clear hC hcell
            have hx := mapped_lt (HAll.out t hlt2)
            have hxn := plus_nn x t
            have h16 : (t : Int) < 16384 := by omega
            have q2 : (x + (t : Int)) % 4294967296 = plus x t := rfl
            have hlb := HL.out t
            go_wp2_with fail
            refine wp_draw 12 (fun w1 => IsRef w1 r (M.pokeN x l t) ∧ Upd [r] w w1) (fun _ _ => False) (by kernel_rfl) (by decide +kernel) ⟨HM2.out.drew, HU2.out.drew⟩ (fun _ _ _ h => h.elim) ?_
            simp only [List.take_succ_cons, List.take_zero, List.drop_succ_cons, List.drop_zero]
            repeat
              apply headW_val rfl rfl
              · intro K hK w1 hB1
                have cg : w1.cell? ⟨g, o + t, none⟩ = some (.int .u8 (l.getD t 0)) := by rw [cells_of (hB1.2.get HCg.out (by simpa using hg))]; exact HCell.out
                have HB1 := Lib.hid hB1
                clear hB1
                go_wp2_with fail
                exact HB1.out
              · exact ⟨_, rfl⟩
            refine headW_nil (fun _ w1 hB1 => ?_)
            have cb := hB1.1.cB (plus x t).toNat (by omega)
            have fb := hB1.1.free (64 + (plus x t).toNat)
            have HB1 := Lib.hid hB1
            clear hB1
            go_wp2_with fail
            have hgd : l[t] = l.getD t 0 := by rw [List.getD_eq_getElem?_getD, List.getElem?_eq_getElem hlt2]; rfl
            rw [hgd]
            go_roundw
            case rel =>
              refine ⟨t + 1, by omega, by go_num, ?_, HB1.out.2.setCell (by simp) _⟩
              exact HB1.out.1.setB (plus x t).toNat (l.getD t 0) (by omega) (HL.out t).1 (HL.out t).2
            case measure => simp [intOf]; omega
        · have hd : decide ((t : Int) < l.length) = false := by simp; omega
          go_wp2_with fail
          go_ret
          have e : t = l.length := by omega
          rw [e] at HM2
          exact HFY.out _ HYes.out HM2.out HU2.out

set_option maxRecDepth 100000 in
set_option maxHeartbeats 2000000 in
theorem Peek_ref (M : Mem) (r : Nat) (x n : Int) (w : World) (hM : IsRef w r M) (h0 : 0 ≤ x) (h1 : x < 4294967296) :
    Calls Try.prog 26 #[.pointer (some ⟨r, 0, none⟩), .int .u32 x, .int .i64 n] w fun e w' =>
      ∃ v, e = .returned v ∧ w'.ownsRow w.heap.size 5 1 v (M.peek x n).length ((M.peek x n).map (Value.int .u8)) ∧ Upd [] w w' := by
  obtain ⟨i0, hi, hz0, hz1, hz2⟩ := info_parts info_u8
  have HI := Lib.hid (And.intro hi (And.intro hz0 (And.intro hz1 hz2)))
  clear hi hz0 hz1 hz2
  obtain ⟨k, hk⟩ : ∃ k : Nat, (min n 16384).toNat = k := ⟨_, rfl⟩
  have hk2 : Hid (k ≤ 16384) := Lib.hid (by omega)
  have HK := Lib.hid hk
  have hmin : (min n 16384 < 0 ∧ k = 0) ∨ (0 ≤ min n 16384 ∧ min n 16384 = k) := by omega
  have HMin := Lib.hid hmin
  clear hk hmin
  have hfin : ∀ (j : Nat) (v : Value) (w' : World), j = M.peekN x k → w'.ownsRow w.heap.size 5 1 v j ((M.peekL x j).map (Value.int .u8)) → Upd [] w w' →
      ∃ u, Ending.returned v = .returned u ∧ w'.ownsRow w.heap.size 5 1 u (M.peek x n).length ((M.peek x n).map (Value.int .u8)) ∧ Upd [] w w' := by
    intro j v w' hj ho hU
    refine ⟨v, rfl, ?_, hU⟩
    simp only [Mem.peek, HK.out, ← hj, peekL_length]
    exact ho
  have HF := Lib.hid hfin
  clear hfin
  have hrl := hM.lt
  go_enter Try.func26, Try.ntmps26
  go_wp2_with fail
  go_loopw [7, 8, 9] (fun v i _ wr => ∃ j : Nat, j ≤ k ∧ i = .int .i64 j ∧ (∀ t, t < j → M.mappedB (plus x t) = true) ∧ IsRef wr r M ∧ Upd [] w wr ∧ wr.ownsRow w.heap.size 5 1 v j ((M.peekL x j).map (Value.int .u8))) (fun v _ _ _ => k - slLen v)
  case atStart => exact ⟨0, Nat.zero_le _, rfl, by simp, hM, Upd.refl _ _, World.ownsRow_nil _ _ _ _⟩
  case round =>
    obtain ⟨j, hj, rfl, hc, hm, hU, ho⟩ := hrel
    have HC := Lib.hid hc
    have HM := Lib.hid hm
    have HU := Lib.hid hU
    have HO := Lib.hid ho
    clear hc hm hU ho hM
    obtain ⟨sb, sc, rfl⟩ := ownsRow_form HO.out
    have hplt := plus_lt x j
    have hpn := plus_nn x j
    by_cases hlt : j < k
    · have hmn : (j : Int) < n := by have := HMin.out; omega
      have h16 : (j : Int) < 16384 := by have := hk2.out; omega
      have q2 : (x + (j : Int)) % 4294967296 = plus x j := rfl
      cases hb : M.mappedB (plus x j)
      · have HB := Lib.hid hb
        have HR := Lib.hid (show (M.rightAt (plus x j) == 0) = true by rw [rightAt_mapped, hb]; rfl)
        clear hb
        go_wp2_with (go_at_call 72; refine (Right_ref M r (plus x j) _ HM.out (plus_nn x j)).mono ?_; rintro e w' ⟨rfl, rfl⟩; have hr0 := HR.out)
        go_ret
        exact HF.out j _ _ (peekN_stop M x k j hlt HC.out HB.out).symm HO.out HU.out
      · have HB := Lib.hid hb
        have HR := Lib.hid (show (M.rightAt (plus x j) == 0) = false by rw [rightAt_mapped, hb]; rfl)
        clear hb
        have hx := mapped_lt HB.out
        have cb := HM.out.cB (plus x j).toNat (by omega)
        go_wp2_with (first | (go_at_call 72; refine (Right_ref M r (plus x j) _ HM.out (plus_nn x j)).mono ?_; rintro e w' ⟨rfl, rfl⟩; have hr0 := HR.out) | (at_builtin; refine wpList_append_own _ rfl _ _ 43 rfl w.heap.size 5 i0 (.int .u8 0) 1 1 Try.underlying43 HI.out.1 HI.out.2.1 HI.out.2.2.1 HI.out.2.2.2 rfl (by decide) _ _ _ rfl (HO.out.alloc _) ⟨wr.heap.size, 0, none⟩ 1 1 [.int .u8 (M.B (plus x j).toNat)] rfl rfl (one_new _ _ _) (one_oneCell _ _) (by have := hk2.out; unfold maxLen; omega) (by have := hk2.out; omega) (by have := HU.out.size; simp; omega) ?_))
        intro v' w1 hown' hgrow _
        have hU1 := Upd.of_grown hgrow
        have hlt' := HO.out.lt
        have hU2 : Upd (Value.slice sb j sc).ownBlock.toList wr w1 := ((Upd.refl [] wr).alloc _).trans hU1 (by simp) (fun z hz => .inl hz)
        have hne : ∀ z, z ∈ (Value.slice sb j sc).ownBlock.toList → w.heap.size ≤ z := fun z hz => (hlt' z (by simpa using hz)).1
        have hm' := HM.out.keep hU2 (fun h => by have := hne _ h; omega)
        have hu' := HU.out.new hU2 hne
        have HM' := Lib.hid hm'
        have HU' := Lib.hid hu'
        have HO' := Lib.hid hown'
        clear hm' hu' hown' hgrow hU1 hU2 hne hlt' cb
        go_wp2_with fail
        go_roundw
        case rel => exact ⟨j + 1, by omega, by go_num, fun t ht => by
            by_cases e : t = j
            · subst e; exact HB.out
            · exact HC.out t (by omega), HM'.out, HU'.out, by rw [peekL_succ, List.map_append]; exact HO'.out⟩
        case measure => rw [slLen_own HO'.out]; simp [slLen]; omega
    · have hjk : j = k := by omega
      have hpk : j = M.peekN x k := by rw [hjk, peekN_all M x k (fun t ht => HC.out t (by omega))]
      have HP := Lib.hid hpk
      have hmin := HMin.out
      by_cases hmn : (j : Int) < n
      · have h16 : ¬ (j : Int) < 16384 := by omega
        clear hmin hpk hjk
        go_wp2_with fail
        go_ret
        exact HF.out j _ _ HP.out HO.out HU.out
      · clear hmin hpk hjk
        go_wp2_with fail
        go_ret
        exact HF.out j _ _ HP.out HO.out HU.out

end Go.Proofs.Ytncafchgdgmeaaa
