/-
  Package page: Peek, Poke: each by its contract.
-/
import Derived.Test.YtncafchgdgmeaaaPgD
import Derived.Test.YtncafchgdgmeaaaRow
namespace Go.Proofs.Ytncafchgdgmeaaa
open Go Go.RowKit
set_option linter.unusedVariables false
set_option linter.unusedSimpArgs false

theorem info_u8 : (Try.prog.info? 5).map (fun i => (i.zero, i.size, i.bytes)) = some (some (.int .u8 0), 1, 1) := by kernel_rfl

/-- How many bytes from x on are mapped, at most c. -/
def Mem.peekN (M : Mem) (x : Int) (c : Nat) : Nat := ((List.range c).find? fun i => !M.mappedB (plus x i)).getD c

def Mem.peekL (M : Mem) (x : Int) (k : Nat) : List Int := (List.range k).map fun i => M.B (plus x i).toNat

theorem peekL_succ (M : Mem) (x : Int) (k : Nat) : M.peekL x (k + 1) = M.peekL x k ++ [M.B (plus x k).toNat] := by
  simp [Mem.peekL, List.range_succ]

theorem peekL_length (M : Mem) (x : Int) (k : Nat) : (M.peekL x k).length = k := by simp [Mem.peekL]

theorem peekN_stop (M : Mem) (x : Int) (c j : Nat) (hj : j < c) (hc : ∀ t, t < j → M.mappedB (plus x t) = true) (hb : M.mappedB (plus x j) = false) : M.peekN x c = j := by
  have : (List.range c).find? (fun i => !M.mappedB (plus x i)) = some j := by
    rw [List.find?_range_eq_some]
    exact ⟨by simp [hb], by simpa using hj, fun t ht => by simp [hc t ht]⟩
  simp [Mem.peekN, this]

theorem peekN_all (M : Mem) (x : Int) (c : Nat) (hc : ∀ t, t < c → M.mappedB (plus x t) = true) : M.peekN x c = c := by
  have : (List.range c).find? (fun i => !M.mappedB (plus x i)) = none := by
    rw [List.find?_eq_none]
    intro t ht
    simp [hc t (List.mem_range.1 ht)]
  simp [Mem.peekN, this]

theorem mapped_lt {M : Mem} {x : Int} (h : M.mappedB x = true) : x < 16384 := by
  simp only [Mem.mappedB, Bool.and_eq_true, decide_eq_true_eq] at h
  exact h.1

theorem plus_zero (x : Int) (h0 : 0 ≤ x) (h1 : x < 4294967296) : plus x 0 = x := by
  unfold plus; omega

theorem plus_succ' (x : Int) (j : Nat) (h : plus x j < 16384) : plus x j + 1 = plus x (j + 1) := by
  unfold plus at *; omega

theorem plus_succ (x : Int) (j : Nat) : (plus x j + 1) % 4294967296 = plus x (j + 1) := by
  unfold plus; omega

theorem plus_lt (x : Int) (j : Nat) : plus x j < 4294967296 := by unfold plus; omega

/-- The list that Peek tells. -/
def Mem.peek (M : Mem) (x n : Int) : List Int := M.peekL x (M.peekN x (min n 16384).toNat)

set_option maxRecDepth 100000 in
set_option maxHeartbeats 2000000 in
theorem Peek_any (M : Mem) (a pb : Nat) (x n : Int) (w : World) (hM : IsMem w a pb M) (h0 : 0 ≤ x) (h1 : x < 4294967296) (hn : -9223372036854775808 ≤ n) (hn' : n ≤ 9223372036854775807) :
    Calls Try.prog 22 #[.pointer (some ⟨a, 0, none⟩), .int .u32 x, .int .i64 n] w fun e w' =>
      ∃ v, e = .returned v ∧ w'.ownsRow w.heap.size 5 1 v (M.peek x n).length ((M.peek x n).map (Value.int .u8)) ∧ Upd [] w w' := by
  obtain ⟨i0, hi, hz0, hz1, hz2⟩ := info_parts info_u8
  have HI := Lib.hid (And.intro hi (And.intro hz0 (And.intro hz1 hz2)))
  clear hi hz0 hz1 hz2
  obtain ⟨k, hk⟩ : ∃ k : Nat, (min n 16384).toNat = k := ⟨_, rfl⟩
  have hk2 : Hid (k ≤ 16384) := Lib.hid (by omega)
  have HK := Lib.hid hk
  have hz := plus_zero x h0 h1
  have HZ := Lib.hid hz
  have hmin : (min n 16384 < 0 ∧ k = 0) ∨ (0 ≤ min n 16384 ∧ min n 16384 = k) := by omega
  have HMin := Lib.hid hmin
  clear hk hz hmin
  have hfin : ∀ (j : Nat) (v : Value) (w' : World), j = M.peekN x k → w'.ownsRow w.heap.size 5 1 v j ((M.peekL x j).map (Value.int .u8)) → Upd [] w w' →
      ∃ u, Ending.returned v = .returned u ∧ w'.ownsRow w.heap.size 5 1 u (M.peek x n).length ((M.peek x n).map (Value.int .u8)) ∧ Upd [] w w' := by
    intro j v w' hj ho hU
    refine ⟨v, rfl, ?_, hU⟩
    simp only [Mem.peek, HK.out, ← hj, peekL_length]
    exact ho
  have HF := Lib.hid hfin
  clear hfin
  have hal := hM.al
  have hpl := hM.pl
  go_enter Try.func22, Try.ntmps22
  go_wp2_with fail
  go_loopw [7, 8] (fun v y wr => ∃ j : Nat, j ≤ k ∧ y = .int .u32 (plus x j) ∧ (∀ t, t < j → M.mappedB (plus x t) = true) ∧ IsMem wr a pb M ∧ Upd [] w wr ∧ wr.ownsRow w.heap.size 5 1 v j ((M.peekL x j).map (Value.int .u8))) (fun v _ _ => k - slLen v)
  case atStart => exact ⟨0, Nat.zero_le _, by rw [HZ.out], by simp, hM, Upd.refl _ _, World.ownsRow_nil _ _ _ _⟩
  case round =>
    obtain ⟨j, hj, rfl, hc, hm, hU, ho⟩ := hrel
    have HC := Lib.hid hc
    have HM := Lib.hid hm
    have HU := Lib.hid hU
    have HO := Lib.hid ho
    clear hc hm hU ho hM
    obtain ⟨sb, sc, rfl⟩ := ownsRow_form HO.out
    have hplt := plus_lt x j
    have hpn := plus_nn x j
    by_cases h16 : n ≤ 16384
    · by_cases hlt : j < k
      · have hmn : (j : Int) < n := by have := HMin.out; omega
        cases hb : M.mappedB (plus x j)
        · have HB := Lib.hid hb
          clear hb
          go_wp2_with (go_at_call 63; refine (mapped_any a pb (plus x j) _ M HM.out (plus_nn x j)).mono ?_; rintro e w' ⟨rfl, rfl⟩; rw [HB.out])
          go_ret
          exact HF.out j _ _ (peekN_stop M x k j hlt HC.out HB.out).symm HO.out HU.out
        · have HB := Lib.hid hb
          clear hb
          have hx := mapped_lt HB.out
          obtain ⟨c, hc, c0⟩ := HM.out.c0
          have cb := HM.out.cB (plus x j / 256).toNat (plus x j % 256).toNat (by omega) (by omega)
          rw [show (plus x j / 256).toNat * 256 + (plus x j % 256).toNat = (plus x j).toNat from by omega] at cb
          go_wp2_with (first | (go_at_call 63; refine (mapped_any a pb (plus x j) _ M HM.out (plus_nn x j)).mono ?_; rintro e w' ⟨rfl, rfl⟩; rw [HB.out]) | (at_builtin; refine wpList_append_own _ rfl _ _ 43 rfl w.heap.size 5 i0 (.int .u8 0) 1 1 Try.underlying43 HI.out.1 HI.out.2.1 HI.out.2.2.1 HI.out.2.2.2 rfl (by decide) _ _ _ rfl (HO.out.alloc _) ⟨wr.heap.size, 0, none⟩ 1 1 [.int .u8 (M.B (plus x j).toNat)] rfl rfl (one_new _ _ _) (one_oneCell _ _) (by have := hk2.out; unfold maxLen; omega) (by have := hk2.out; omega) (by have := HU.out.size; simp; omega) ?_))
          intro v' w1 hown' hgrow _
          have hU1 := Upd.of_grown hgrow
          have hlt' := HO.out.lt
          have hU2 : Upd (Value.slice sb j sc).ownBlock.toList wr w1 := ((Upd.refl [] wr).alloc _).trans hU1 (by simp) (fun z hz => .inl hz)
          have hne : ∀ z, z ∈ (Value.slice sb j sc).ownBlock.toList → w.heap.size ≤ z := fun z hz => (hlt' z (by simpa using hz)).1
          have hm' := HM.out.keep hU2 (fun h => by have := hne _ h; omega) (fun h => by have := hne _ h; omega)
          have hu' := HU.out.new hU2 hne
          have HM' := Lib.hid hm'
          have HU' := Lib.hid hu'
          have HO' := Lib.hid hown'
          clear hm' hu' hown' hgrow hU1 hU2 hne hlt' cb c0 hc
          go_wp2_with fail
          rw [plus_succ' _ _ (mapped_lt HB.out)]
          go_roundw
          case rel => exact ⟨j + 1, by omega, rfl, fun t ht => by
              by_cases e : t = j
              · subst e; exact HB.out
              · exact HC.out t (by omega), HM'.out, HU'.out, by rw [peekL_succ, List.map_append]; exact HO'.out⟩
          case measure => rw [slLen_own HO'.out]; simp [slLen]; omega
      · have hmn : ¬ (j : Int) < n := by have := HMin.out; omega
        go_wp2_with fail
        go_ret
        have e : j = k := by omega
        exact HF.out j _ _ (by rw [e]; exact (peekN_all M x k (fun t ht => HC.out t (by omega))).symm) HO.out HU.out
    · by_cases hlt : j < k
      · have hmn : decide ((j : Int) < 16384) = true := by have := HMin.out; simp; omega
        cases hb : M.mappedB (plus x j)
        · have HB := Lib.hid hb
          clear hb
          go_wp2_with (go_at_call 63; refine (mapped_any a pb (plus x j) _ M HM.out (plus_nn x j)).mono ?_; rintro e w' ⟨rfl, rfl⟩; rw [HB.out])
          go_ret
          exact HF.out j _ _ (peekN_stop M x k j hlt HC.out HB.out).symm HO.out HU.out
        · have HB := Lib.hid hb
          clear hb
          have hx := mapped_lt HB.out
          obtain ⟨c, hc, c0⟩ := HM.out.c0
          have cb := HM.out.cB (plus x j / 256).toNat (plus x j % 256).toNat (by omega) (by omega)
          rw [show (plus x j / 256).toNat * 256 + (plus x j % 256).toNat = (plus x j).toNat from by omega] at cb
          go_wp2_with (first | (go_at_call 63; refine (mapped_any a pb (plus x j) _ M HM.out (plus_nn x j)).mono ?_; rintro e w' ⟨rfl, rfl⟩; rw [HB.out]) | (at_builtin; refine wpList_append_own _ rfl _ _ 43 rfl w.heap.size 5 i0 (.int .u8 0) 1 1 Try.underlying43 HI.out.1 HI.out.2.1 HI.out.2.2.1 HI.out.2.2.2 rfl (by decide) _ _ _ rfl (HO.out.alloc _) ⟨wr.heap.size, 0, none⟩ 1 1 [.int .u8 (M.B (plus x j).toNat)] rfl rfl (one_new _ _ _) (one_oneCell _ _) (by have := hk2.out; unfold maxLen; omega) (by have := hk2.out; omega) (by have := HU.out.size; simp; omega) ?_))
          intro v' w1 hown' hgrow _
          have hU1 := Upd.of_grown hgrow
          have hlt' := HO.out.lt
          have hU2 : Upd (Value.slice sb j sc).ownBlock.toList wr w1 := ((Upd.refl [] wr).alloc _).trans hU1 (by simp) (fun z hz => .inl hz)
          have hne : ∀ z, z ∈ (Value.slice sb j sc).ownBlock.toList → w.heap.size ≤ z := fun z hz => (hlt' z (by simpa using hz)).1
          have hm' := HM.out.keep hU2 (fun h => by have := hne _ h; omega) (fun h => by have := hne _ h; omega)
          have hu' := HU.out.new hU2 hne
          have HM' := Lib.hid hm'
          have HU' := Lib.hid hu'
          have HO' := Lib.hid hown'
          clear hm' hu' hown' hgrow hU1 hU2 hne hlt' cb c0 hc
          go_wp2_with fail
          rw [plus_succ' _ _ (mapped_lt HB.out)]
          go_roundw
          case rel => exact ⟨j + 1, by omega, rfl, fun t ht => by
              by_cases e : t = j
              · subst e; exact HB.out
              · exact HC.out t (by omega), HM'.out, HU'.out, by rw [peekL_succ, List.map_append]; exact HO'.out⟩
          case measure => rw [slLen_own HO'.out]; simp [slLen]; omega
      · have hmn : decide ((j : Int) < 16384) = false := by have := HMin.out; simp; omega
        go_wp2_with fail
        go_ret
        have e : j = k := by omega
        exact HF.out j _ _ (by rw [e]; exact (peekN_all M x k (fun t ht => HC.out t (by omega))).symm) HO.out HU.out

def Mem.pokeN (M : Mem) (x : Int) (l : List Int) : Nat → Mem
  | 0 => M
  | j + 1 => (M.pokeN x l j).setB (plus x j).toNat (l.getD j 0)

theorem Mem.pokeN_ok {M : Mem} (h : M.Ok) (x : Int) (l : List Int) (hl : ∀ i, 0 ≤ l.getD i 0 ∧ l.getD i 0 ≤ 255) : ∀ j, (M.pokeN x l j).Ok
  | 0 => h
  | j + 1 => Mem.setB_ok (Mem.pokeN_ok h x l hl j) _ (hl j).1 (hl j).2

theorem Mem.pokeN_R (M : Mem) (x : Int) (l : List Int) : ∀ j, (M.pokeN x l j).R = M.R
  | 0 => rfl
  | j + 1 => Mem.pokeN_R M x l j

def Mem.pokeB (M : Mem) (x : Int) (l : List Int) : Bool := decide (l.length ≤ 16384) && (List.range l.length).all fun i => M.mappedB (plus x i)

def Mem.poke (M : Mem) (x : Int) (l : List Int) : Mem := if M.pokeB x l then M.pokeN x l l.length else M

theorem Mem.poke_ok {M : Mem} (h : M.Ok) (x : Int) (l : List Int) (hl : ∀ i, 0 ≤ l.getD i 0 ∧ l.getD i 0 ≤ 255) : (M.poke x l).Ok := by
  unfold Mem.poke; split; exact Mem.pokeN_ok h x l hl _; exact h

def errI (b : Bool) (n : Int) : Int := if b then 0 else n

end Go.Proofs.Ytncafchgdgmeaaa
