/-
  Package page: Poke, by its contract.
-/
import Derived.Test.YtncafchgdgmeaaaPgF
namespace Go.Proofs.Ytncafchgdgmeaaa
open Go Go.RowKit
set_option linter.unusedVariables false
set_option linter.unusedSimpArgs false

set_option maxRecDepth 100000 in
set_option maxHeartbeats 2000000 in
theorem Poke_any (M : Mem) (a pb : Nat) (x : Int) (v : Value) (l : List Int) (g : Nat) (w : World) (hM : IsMem w a pb M) (h0 : 0 ≤ x) (h1 : x < 4294967296) (hv : BySl w v l g) (hg : g ≠ pb) (hl : ∀ i, 0 ≤ l.getD i 0 ∧ l.getD i 0 ≤ 255) (hlen : l.length ≤ maxLen) :
    Calls Try.prog 28 #[.pointer (some ⟨a, 0, none⟩), .int .u32 x, v] w fun e w' =>
      e = .returned (.int .i64 (errI (M.pokeB x l) 61)) ∧ IsMem w' a pb (M.poke x l) ∧ Upd [pb] w w' := by
  have HL := Lib.hid hl
  have HV := Lib.hid hv
  obtain ⟨sb, sc, rfl⟩ := hv.form
  have HLen := Lib.hid hlen
  have hpl := hM.pl
  unfold maxLen at hlen
  have hfinN : M.pokeB x l = false → (Ending.returned (.int .i64 61) = .returned (.int .i64 (errI (M.pokeB x l) 61)) ∧ IsMem w a pb (M.poke x l) ∧ Upd [pb] w w) := by
    intro h
    rw [Mem.poke, h]
    exact ⟨rfl, hM, Upd.refl _ _⟩
  have HFN := Lib.hid hfinN
  have hfinY : ∀ w', M.pokeB x l = true → IsMem w' a pb (M.pokeN x l l.length) → Upd [pb] w w' → (Ending.returned (.int .i64 0) = .returned (.int .i64 (errI (M.pokeB x l) 61)) ∧ IsMem w' a pb (M.poke x l) ∧ Upd [pb] w w') := by
    intro w' h hm hu
    rw [Mem.poke, h]
    exact ⟨rfl, hm, hu⟩
  have HFY := Lib.hid hfinY
  clear hl hv hfinN hfinY hlen
  have HM := Lib.hid hM
  clear hM
  by_cases hbig : l.length ≤ 16384
  · have hb1 : decide (16384 < (l.length : Int)) = false := by simp; omega
    have hb2 : (l.length : Int) ≤ 9223372036854775807 := by omega
    have HBig := Lib.hid hbig
    clear hbig
    go_enter Try.func28, Try.ntmps28
    go_wp2_with fail
    go_loopw [7, 16] (fun _ i wr => ∃ j : Nat, j ≤ l.length ∧ i = .int .i64 j ∧ (∀ t, t < j → M.mappedB (plus x t) = true) ∧ w = wr) (fun _ i _ => l.length - (intOf i).toNat)
    case atStart => exact ⟨0, Nat.zero_le _, rfl, by simp, rfl⟩
    case round =>
      obtain ⟨j, hj, rfl, hc, rfl⟩ := hrel
      have HC := Lib.hid hc
      clear hc
      by_cases hlt : j < l.length
      · cases hb : M.mappedB (plus x j)
        · have HB := Lib.hid hb
          clear hb
          go_wp2_with (go_at_call 63; refine (mapped_any a pb (plus x j) _ M HM.out (plus_nn x j)).mono ?_; rintro e w' ⟨rfl, rfl⟩; rw [HB.out])
          go_ret
          exact HFN.out (by
            simp only [Mem.pokeB, Bool.and_eq_false_iff, List.all_eq_false]
            exact .inr ⟨j, List.mem_range.2 hlt, by rw [HB.out]; simp⟩)
        · have HB := Lib.hid hb
          clear hb
          go_wp2_with (go_at_call 63; refine (mapped_any a pb (plus x j) _ M HM.out (plus_nn x j)).mono ?_; rintro e w' ⟨rfl, rfl⟩; rw [HB.out])
          go_roundw
          case rel => exact ⟨j + 1, by omega, by go_num, fun t ht => by
              by_cases e : t = j
              · subst e; exact HB.out
              · exact HC.out t (by omega), trivial⟩
          case measure => simp [intOf]; omega
      · have hall : ∀ t, t < l.length → M.mappedB (plus x t) = true := fun t ht => HC.out t (by omega)
        have hyes : M.pokeB x l = true := by
          simp only [Mem.pokeB, Bool.and_eq_true, decide_eq_true_eq, List.all_eq_true, List.mem_range]
          exact ⟨HBig.out, hall⟩
        have HAll := Lib.hid hall
        have HYes := Lib.hid hyes
        clear hall hyes HC
        go_wp2_with fail
        go_loopw [8, 9, 10, 29] (fun _ _ _ i w2 => ∃ t : Nat, t ≤ l.length ∧ i = .int .i64 t ∧ IsMem w2 a pb (M.pokeN x l t) ∧ Upd [pb] w w2) (fun _ _ _ i _ => l.length - (intOf i).toNat)
        case atStart => exact ⟨0, Nat.zero_le _, rfl, HM.out, Upd.refl _ _⟩
        case round =>
          obtain ⟨t, ht, rfl, hm, hu⟩ := hrel
          have HM2 := Lib.hid hm
          have HU2 := Lib.hid hu
          clear hm hu
          by_cases hlt2 : t < l.length
          · rcases HV.out with ⟨_, hnil⟩ | ⟨o, c, C, T, f, hs, hC, hcell⟩
            · rw [hnil] at hlt2; simp at hlt2
            · simp only [Value.slice.injEq, true_and] at hs
              obtain ⟨rfl, rfl⟩ := hs
              have cg : wr.cell? ⟨g, o + t, none⟩ = some (.int .u8 (l.getD t 0)) := by rw [cells_of (HU2.out.get hC (by simpa using hg))]; exact hcell t hlt2
              have hx : (x + (t : Int)) % 4294967296 < 16384 := mapped_lt (HAll.out t hlt2)
              have hxn : 0 ≤ (x + (t : Int)) % 4294967296 := plus_nn x t
              have ecell : cellOf (plus x t) = ((x + (t : Int)) % 4294967296 / 256).toNat * 257 + 1 + ((x + (t : Int)) % 256).toNat := by
                unfold cellOf plus; omega
              have cb := HM2.out.cbyte _ (plus_nn x t) (mapped_lt (HAll.out t hlt2))
              obtain ⟨cc, hcc, c0⟩ := HM2.out.c0
              have fb : wr.frozen? ⟨pb, cellOf (plus x t), none⟩ = false := HM2.out.free _
              rw [ecell] at cb fb
              have ECell := Lib.hid ecell
              have hgd : l.getD t 0 = l[t] := by rw [List.getD_eq_getElem?_getD, List.getElem?_eq_getElem hlt2]; rfl
              rw [hgd] at cg
              have HGD := Lib.hid hgd
              clear hC hcell ecell hgd
              go_wp2_with fail
              go_roundw
              case rel =>
                refine ⟨t + 1, by omega, by go_num, ?_, HU2.out.setCell (by simp) _⟩
                rw [← ECell.out, ← HGD.out]
                exact HM2.out.store (plus_nn x t) (mapped_lt (HAll.out t hlt2)) (HL.out t).1 (HL.out t).2
              case measure => simp [intOf]; omega
          · go_wp2_with fail
            go_ret
            have e : t = l.length := by omega
            rw [e] at HM2
            exact HFY.out _ HYes.out HM2.out HU2.out
  · have hb1 : decide (16384 < (l.length : Int)) = true := by simp; omega
    have HBig := Lib.hid hbig
    clear hbig
    go_enter Try.func28, Try.ntmps28
    go_wp2_with fail
    go_ret
    exact HFN.out (by simp [Mem.pokeB, HBig.out])

end Go.Proofs.Ytncafchgdgmeaaa
