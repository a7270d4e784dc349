/-
  The law HelperDoes: the walk. No condition.
-/
import Derived.Test.YtoplekfnghkkdaaMg18
import Derived.Test.YtoplekfnghkkdaaMg13
import Derived.Test.YtoplekfnghkkdaaMg19
namespace Go.Proofs.Ytoplekfnghkkdaa
open Go Go.RowKit
set_option linter.unusedVariables false
set_option linter.unusedSimpArgs false

/-- The registers laid, one by one. -/
def regsH (q : Nat → Int) (m : Nat) : Nat → Hs
  | 0 => Hs.zero m
  | k + 1 => (regsH q m k).put ((k : Int) + 1) (q k)
def argsH (H : Hs) (x : Nat → Int) : Nat → Hs
  | 0 => H
  | k + 1 => (argsH H x k).put (10 + (k : Int)) (x k)

theorem put_pc (H : Hs) (i v : Int) : (H.put i v).pc = H.pc := H.put_pc i v
theorem ite_do {P : DoRes → Prop} {c : Prop} [Decidable c] {a b : DoRes} (ha : P a) (hb : P b) : P (if c then a else b) := by split <;> assumption
theorem doRes_pc (H : Hs) (M : Mem) : (doRes H M).H.pc = H.pc := by
  unfold doRes
  dsimp only
  repeat' refine ite_do (P := fun R => R.H.pc = H.pc) ?_ ?_
  all_goals simp [two64, put_pc]
theorem put_get_ne (H : Hs) (i j v : Int) (h : j ≠ i) : (H.put i v).get j = H.get j := by
  unfold Hs.put
  split
  · rfl
  · unfold Hs.get
    split
    · rfl
    · simp only [Hs.set]
      rw [if_neg (by omega)]
theorem put_get (H : Hs) (i v : Int) (h1 : 1 ≤ i) (h2 : i < 32) : (H.put i v).get i = v := by
  unfold Hs.put
  rw [if_neg (by omega)]
  unfold Hs.get
  rw [if_neg (by omega)]
  simp [Hs.set]
theorem doRes_get (H : Hs) (M : Mem) (i : Int) (h0 : i ≠ 10) (h1 : i ≠ 11) : (doRes H M).H.get i = H.get i := by
  unfold doRes
  dsimp only
  repeat' refine ite_do (P := fun R => R.H.get i = H.get i) ?_ ?_
  all_goals simp [two64, put_get_ne, h0, h1]

structure HdS (w : World) (hb a pb rr m : Nat) (X Q : Array Value) (H : Hs) (M : Mem) (w1 : World) : Prop where
  h : IsHost w1 hb H
  mm : HMem w1 m H
  hm : IsMem w1 a pb M
  f : IsRef w1 rr M
  bx : w1.heap[w.heap.size]? = some (.cells X 37 (0, 0))
  bq : w1.heap[w.heap.size + 1]? = some (.cells Q 38 (0, 0))
  u : Upd [] w w1
  lo : w.heap.size + 1 < hb ∧ w.heap.size + 1 < a ∧ w.heap.size + 1 < pb ∧ w.heap.size + 1 < rr
  ne : hb ≠ a ∧ hb ≠ pb ∧ rr ≠ a ∧ rr ≠ pb ∧ rr ≠ hb ∧ m ≠ hb

section
variable {w w1 w2 : World} {hb a pb rr m : Nat} {X Q : Array Value} {H H' : Hs} {M : Mem}
theorem HdS.step (h : HdS w hb a pb rr m X Q H M w1) (u : Upd [] w1 w2) : HdS w hb a pb rr m X Q H M w2 :=
  ⟨h.h.keep u (by simp), h.mm.keep u (by simp), h.hm.keep u (by simp) (by simp), h.f.keep u (by simp), u.get h.bx (by simp), u.get h.bq (by simp), h.u.also u (by simp), h.lo, h.ne⟩
theorem HdS.put (h : HdS w hb a pb rr m X Q H M w1) (u : Upd [hb] w1 w2) (i v : Int) (hh : IsHost w2 hb (H.put i v)) : HdS w hb a pb rr m X Q (H.put i v) M w2 := by
  have l := h.lo
  have n := h.ne
  refine ⟨hh, (h.mm.put i v).keep u (by simp; omega), h.hm.keep u (by simp; omega) (by simp; omega), h.f.keep u (by simp; omega), u.get h.bx (by simp; omega), u.get h.bq (by simp; omega), h.u.also u (by simp; omega), l, n⟩
end

theorem start_up {w w2 : World} {A B : Obj} (h : Upd [] ((w.alloc A).alloc B) w2) : Upd [] w w2 := (((Upd.refl [] w).alloc A).alloc B).also h (by simp)

theorem HdS.start (w : World) {w1 w2 w3 : World} {hb a pb rr m : Nat} {X Q : Array Value} {M : Mem}
    (u1 : Upd [] ((w.alloc (.cells X 37)).alloc (.cells Q 38)) w1) (u2 : Upd [] ((w.alloc (.cells X 37)).alloc (.cells Q 38)) w2) (u3 : Upd [] w2 w3)
    (hm : IsMem w2 a pb M) (hr : IsRef w2 rr M) (hh : IsHost w3 hb (Hs.zero m)) (hmm : HMem w3 m (Hs.zero m)) (l3 : w2.heap.size ≤ hb ∧ w2.heap.size ≤ m ∧ m ≠ hb) (l2 : rr ≠ a ∧ rr ≠ pb ∧ w1.heap.size ≤ a ∧ w1.heap.size ≤ pb ∧ w1.heap.size ≤ rr) :
    HdS w hb a pb rr m X Q (regsH (fun _ => 0) m 0) M w3 := by
  have s1 := u1.size
  have s2 := hm.al
  have s3 := hm.pl
  have s4 := hr.lt
  have s5 : ((w.alloc (.cells X 37)).alloc (.cells Q 38)).heap.size = w.heap.size + 2 := by simp
  have u := u2.also u3 (by simp)
  exact ⟨hh, hmm, hm.keep u3 (by simp) (by simp), hr.keep u3 (by simp), u.get (heap_alloc2_old _ _ _) (by simp), u.get (heap_alloc2_new _ _ _) (by simp), start_up u, by omega, by omega⟩

def fltO (fk fp fa fw : Int) : Obj := .cells #[.int .i64 fk, .int .u32 fp, .int .u32 fa, .int .i64 fw] 49

/-- Behind the helper's call. -/
structure HdA (w : World) (hb a pb rr gb : Nat) (G H4 : Hs) (M M4 : Mem) (w7 : World) : Prop where
  h : IsHost w7 hb H4
  m : IsMem w7 a pb M4
  f : IsRef w7 rr M
  g : IsHost w7 gb G
  u : Upd [] w w7
  lo : w.heap.size < rr ∧ rr < w7.heap.size
  ne : hb ≠ a ∧ hb ≠ pb ∧ rr ≠ a ∧ rr ≠ pb ∧ rr ≠ hb ∧ gb ≠ rr

theorem HdA.of {w w5 w7 : World} {hb a pb rr m gb : Nat} {X Q : Array Value} {H3 H4 G : Hs} {M M4 : Mem} (h : HdS w hb a pb rr m X Q H3 M w5) (hg : IsHost w5 gb G) (ng : gb ≠ hb ∧ gb ≠ a ∧ gb ≠ pb ∧ gb ≠ rr)
    (hh : IsHost w7 hb H4) (hm : IsMem w7 a pb M4) (hu : Upd [hb, pb] w5 w7) (O : Obj) : HdA w hb a pb rr gb G H4 M M4 w7 ∧ ∀ k, (w7.alloc O).cell? ⟨w.heap.size, k, none⟩ = X[k]? := by
  have hn := h.ne
  have hl := h.lo
  have hs := hu.size
  have hr := h.f.lt
  refine ⟨⟨hh, hm, h.f.keep hu (by simp; omega), hg.keep hu (by simp; omega), h.u.also hu (by simp; omega), by omega, by omega⟩, cells_of (heap_alloc_keep O (hu.get h.bx (by simp; omega)))⟩

/-- Behind what is wanted. -/
structure HdB (w : World) (hb a pb rr gb : Nat) (G H4 : Hs) (M4 : Mem) (w9 : World) : Prop where
  h : IsHost w9 hb H4
  m : IsMem w9 a pb M4
  f : IsRef w9 rr M4
  g : IsHost w9 gb G
  u : Upd [] w w9

theorem HdB.of {w w7 w8 : World} {hb a pb rr gb : Nat} {H4 G : Hs} {M M4 : Mem} (h : HdA w hb a pb rr gb G H4 M M4 w7) (c : Array Value) (t : TypeId) (hr : IsRef w8 rr M4) (hu : Upd [rr] (w7.alloc (.cells c t)) w8) (O : Obj) :
    HdB w hb a pb rr gb G H4 M4 (w8.alloc O) ∧ ∀ k, (w8.alloc O).cell? ⟨w7.heap.size, k, none⟩ = c[k]? := by
  have hn := h.ne
  have hl := h.lo
  have hv : Upd [rr] w7 (w8.alloc O) := (((Upd.refl [] w7).alloc (.cells c t)).mono (by simp)).also hu (by simp) |>.alloc O
  refine ⟨⟨h.h.keep hv (by simp; omega), h.m.keep hv (by simp; omega) (by simp; omega), hr.keep ((Upd.refl [] w8).alloc O) (by simp), h.g.keep hv (by simp; omega), h.u.also hv (by simp; omega)⟩, cells_of (heap_alloc_keep O (hu.get (heap_alloc_new w7 (.cells c t)) (by simp; omega)))⟩

theorem HdB.step {w w8 w9 : World} {hb a pb rr gb : Nat} {H4 G : Hs} {M4 : Mem} (h : HdB w hb a pb rr gb G H4 M4 w8) (u : Upd [] w8 w9) : HdB w hb a pb rr gb G H4 M4 w9 :=
  ⟨h.h.keep u (by simp), h.m.keep u (by simp) (by simp), h.f.keep u (by simp), h.g.keep u (by simp), h.u.also u (by simp)⟩

theorem HdA.ref {w w7 : World} {hb a pb rr gb : Nat} {H4 G : Hs} {M M4 : Mem} (h : HdA w hb a pb rr gb G H4 M M4 w7) (O : Obj) : IsRef (w7.alloc O) rr M := h.f.keep ((Upd.refl [] _).alloc O) (by simp)

set_option maxRecDepth 100000 in
set_option maxHeartbeats 4000000 in
theorem HelperDoes_walk (v : Value) (L : List SpanV) (g : Nat) (n : Int) (x q : Nat → Int) (w : World) (hS : SArg w v L g) (hn : 0 ≤ n ∧ n < 4294967296) (hx : ∀ j, j < 4 → 0 ≤ x j ∧ x j < 4294967296) (hq : ∀ j, j < 31 → 0 ≤ q j ∧ q j < 4294967296) :
    Calls Try.prog 4 #[v, .int .u32 n, .agg ((List.range 4).map fun j => .int .u32 (x j)).toArray, .agg ((List.range 31).map fun j => .int .u32 (q j)).toArray] w fun e w' => e = .returned (.bool true) ∧ Upd [] w w' := by
  have hX : ∀ k, k < 4 → ((List.range 4).map fun j => Value.int .u32 (x j)).toArray[k]? = some (.int .u32 (x k)) := fun k hk => by simp [hk]
  have hQ : ∀ k, k < 31 → ((List.range 31).map fun j => Value.int .u32 (q j)).toArray[k]? = some (.int .u32 (q k)) := fun k hk => by simp [hk]
  have hXe : ((List.range 4).map fun j => Value.int .u32 (x j)).toArray = #[.int .u32 (x 0), .int .u32 (x 1), .int .u32 (x 2), .int .u32 (x 3)] := by rfl
  have hQs : ((List.range 31).map fun j => Value.int .u32 (q j)).toArray.size = 31 := by simp
  have hQo : ∀ u ∈ ((List.range 31).map fun j => Value.int .u32 (q j)).toArray, u.oneCell' = true := by
    intro u hu
    simp only [List.mem_toArray, List.mem_map] at hu
    obtain ⟨j, _, rfl⟩ := hu
    rfl
  rw [hXe] at hX ⊢
  obtain ⟨Q, hQQ⟩ : ∃ Q, ((List.range 31).map fun j => Value.int .u32 (q j)).toArray = Q := ⟨_, rfl⟩
  rw [hQQ] at hQ hQs hQo ⊢
  have HS := Lib.hid hS
  have HN := Lib.hid hn
  have HX := Lib.hid (And.intro hX hx)
  have HQ := Lib.hid (And.intro hQ (And.intro hQs (And.intro hQo hq)))
  clear hS hn hx hq hX hQ hQs hQo hXe hQQ
  have tok1 : True := trivial
  cases hfew : fewB L
  · have HFew := Lib.hid hfew
    obtain ⟨bb, hlb⟩ : ∃ bb, loadB L = bb := ⟨_, rfl⟩
    have HLb := Lib.hid hlb
    clear hfew hlb
    go_enter Try.func4, Try.ntmps4
    go_wp2_with (first | (have _t := tok1; clear _t; go_at_call 16; refine (known20_any _).mono ?_; rintro e w1 ⟨rfl, hu⟩; have U1 := Lib.hid (And.intro hu (start_up hu)); clear hu tok1) | (have _t := U1; clear _t; go_at_call 17; refine (both20_any v L g _ (HS.out.keep U1.out.2)).mono ?_; rintro e w2 ⟨a, pb, rr, rfl, hm, hr, hu, hra, hrp, ha, hp, hrr⟩; rw [HLb.out]; have U2 := Lib.hid (And.intro (U1.out.1.also hu (by simp)) (And.intro (U1.out.2.also hu (by simp)) (And.intro hm (And.intro hr (And.intro hra (And.intro hrp (And.intro ha (And.intro hp hrr)))))))); clear hu hm hr hra hrp ha hp hrr) | (have _t := U2; clear _t; go_at_call 18; refine (few20_any v L g _ (HS.out.keep U2.out.2.1)).mono ?_; rintro e w3 ⟨rfl, rfl⟩; rw [HFew.out]))
    go_ret
    exact ⟨rfl, U2.out.2.1⟩
  · have HFew := Lib.hid hfew
    clear hfew
    cases hlb : loadB L
    · have HLb := Lib.hid hlb
      clear hlb
      go_enter Try.func4, Try.ntmps4
      go_wp2_with (first | (have _t := tok1; clear _t; go_at_call 16; refine (known20_any _).mono ?_; rintro e w1 ⟨rfl, hu⟩; have U1 := Lib.hid (And.intro hu (start_up hu)); clear hu tok1) | (have _t := U1; clear _t; go_at_call 17; refine (both20_any v L g _ (HS.out.keep U1.out.2)).mono ?_; rintro e w2 ⟨a, pb, rr, rfl, hm, hr, hu, hra, hrp, ha, hp, hrr⟩; rw [HLb.out]; have U2 := Lib.hid (And.intro (U1.out.1.also hu (by simp)) (And.intro (U1.out.2.also hu (by simp)) (And.intro hm (And.intro hr (And.intro hra (And.intro hrp (And.intro ha (And.intro hp hrr)))))))); clear hu hm hr hra hrp ha hp hrr) | (have _t := U2; clear _t; go_at_call 18; refine (few20_any v L g _ (HS.out.keep U2.out.2.1)).mono ?_; rintro e w3 ⟨rfl, rfl⟩; rw [HFew.out]))
      go_ret
      exact ⟨rfl, U2.out.2.1⟩
    · have HLb := Lib.hid hlb
      clear hlb
      obtain ⟨M, hM⟩ : ∃ M, loadR L Mem.zero = M := ⟨_, rfl⟩
      have HM := Lib.hid hM
      clear hM
      go_enter Try.func4, Try.ntmps4
      go_wp2_with (first | (have _t := tok1; clear _t; go_at_call 16; refine (known20_any _).mono ?_; rintro e w1 ⟨rfl, hu⟩; have U1 := Lib.hid (And.intro hu (start_up hu)); clear hu tok1) | (have _t := U1; clear _t; go_at_call 17; refine (both20_any v L g _ (HS.out.keep U1.out.2)).mono ?_; rintro e w2 ⟨a, pb, rr, rfl, hm, hr, hu, hra, hrp, ha, hp, hrr⟩; rw [HLb.out]; have U2 := Lib.hid (And.intro (U1.out.1.also hu (by simp)) (And.intro (U1.out.2.also hu (by simp)) (And.intro hm (And.intro hr (And.intro hra (And.intro hrp (And.intro ha (And.intro hp hrr)))))))); clear hu hm hr hra hrp ha hp hrr) | (have _t := U2; clear _t; go_at_call 18; refine (few20_any v L g _ (HS.out.keep U2.out.2.1)).mono ?_; rintro e w3 ⟨rfl, rfl⟩; rw [HFew.out]) | (have _t := U2; clear _t; go_at_call 19; refine (HNewM_any _).mono ?_; rintro e w3 ⟨hb, m, rfl, h1, h2, h3, h4, h5, hu⟩; have HD := Lib.hid (HdS.start w U1.out.1 U2.out.1 hu U2.out.2.2.1 U2.out.2.2.2.1 h4 h5 ⟨h1, h2, h3⟩ U2.out.2.2.2.2); clear h1 h2 h3 h4 h5 hu))
      go_loopw [13] (fun i wr => ∃ k : Nat, k ≤ 31 ∧ i = .int .i64 ((k : Int) + 1) ∧ HdS w hb a pb rr m #[.int .u32 (x 0), .int .u32 (x 1), .int .u32 (x 2), .int .u32 (x 3)] Q (regsH q m k) (loadR L Mem.zero) wr) (fun i _ => 40 - (intOf i).toNat)
      case atStart => exact ⟨0, by decide, rfl, HD.out⟩
      case round =>
        obtain ⟨k, hk, rfl, hI⟩ := hrel
        have HI := Lib.hid hI
        clear hI
        by_cases hlt : k < 31
        · have cQ : wr.cell? ⟨w.heap.size + 1, k, none⟩ = some (.int .u32 (q k)) := by rw [cells_of HI.out.bq]; exact HQ.out.1 k hlt
          have d1 : decide ((k : Int) + 1 < 32) = true := by simp; omega
          go_wp2_with (go_at_call 20; refine (SetX_any (regsH q m k) hb ((k : Int) + 1) (q k) _ HI.out.h (HQ.out.2.2.2 k hlt)).mono ?_; rintro e w4 ⟨rfl, h, hu⟩; have H4 := Lib.hid (HI.out.put hu _ _ h); clear h hu)
          go_roundw
          case rel => exact ⟨k + 1, by omega, by go_num, H4.out⟩
          case measure => simp [intOf]; omega
        · obtain rfl : k = 31 := by omega
          rw [show ((31 : Nat) : Int) + 1 = 32 from rfl]
          have d1 : decide ((32 : Int) < 32) = false := by decide
          obtain ⟨H1, hH1⟩ : ∃ H1, regsH q m 31 = H1 := ⟨_, rfl⟩
          have HI2 := Lib.hid (show HdS w hb a pb rr m #[.int .u32 (x 0), .int .u32 (x 1), .int .u32 (x 2), .int .u32 (x 3)] Q H1 (loadR L Mem.zero) wr from hH1 ▸ HI.out)
          clear HI hk hlt hH1
          obtain ⟨wo, rfl⟩ : ∃ wo : World, wo = wr := ⟨_, rfl⟩
          go_wp2_with fail
          go_loopw [14] (fun i wr => ∃ k : Nat, k ≤ 4 ∧ i = .int .i64 k ∧ HdS w hb a pb rr m #[.int .u32 (x 0), .int .u32 (x 1), .int .u32 (x 2), .int .u32 (x 3)] Q (argsH H1 x k) (loadR L Mem.zero) wr) (fun i _ => 40 - (intOf i).toNat)
          case atStart => exact ⟨0, by decide, rfl, HI2.out⟩
          case round =>
            obtain ⟨k, hk, rfl, hI⟩ := hrel
            have HI := Lib.hid hI
            clear hI d1
            by_cases hlt : k < 4
            · have cX : wr.cell? ⟨w.heap.size, k, none⟩ = some (.int .u32 (x k)) := by rw [cells_of HI.out.bx]; exact HX.out.1 k hlt
              have d1 : decide ((k : Int) < 4) = true := by simp; omega
              go_wp2_with (go_at_call 20; refine (SetX_any (argsH H1 x k) hb (10 + (k : Int)) (x k) _ HI.out.h (HX.out.2 k hlt)).mono ?_; rintro e w4 ⟨rfl, h, hu⟩; have H4 := Lib.hid (HI.out.put hu _ _ h); clear h hu)
              go_roundw
              case rel => exact ⟨k + 1, by omega, by go_num, H4.out⟩
              case measure => simp [intOf]; omega
            · obtain rfl : k = 4 := by omega
              rw [show ((4 : Nat) : Int) = 4 from rfl]
              have d1 : decide ((4 : Int) < 4) = false := by decide
              obtain ⟨H2, hH2⟩ : ∃ H2, argsH H1 x 4 = H2 := ⟨_, rfl⟩
              have hg : H2.get 10 = x 0 ∧ H2.get 11 = x 1 ∧ H2.get 12 = x 2 ∧ H2.get 13 = x 3 := by
                rw [← hH2]
                simp [argsH, put_get, put_get_ne]
              have HI3 := Lib.hid (show HdS w hb a pb rr m #[.int .u32 (x 0), .int .u32 (x 1), .int .u32 (x 2), .int .u32 (x 3)] Q H2 (loadR L Mem.zero) wr from hH2 ▸ HI.out)
              obtain ⟨H3, hH3⟩ : ∃ H3, H2.put 17 n = H3 := ⟨_, rfl⟩
              have hg3 : H3.get 17 = n ∧ H3.get 10 = x 0 ∧ H3.get 11 = x 1 ∧ H3.get 12 = x 2 ∧ H3.get 13 = x 3 := by
                rw [← hH3]
                refine ⟨put_get _ _ _ (by decide) (by decide), ?_, ?_, ?_, ?_⟩
                · rw [put_get_ne _ _ _ _ (by decide), hg.1]
                · rw [put_get_ne _ _ _ _ (by decide), hg.2.1]
                · rw [put_get_ne _ _ _ _ (by decide), hg.2.2.1]
                · rw [put_get_ne _ _ _ _ (by decide), hg.2.2.2]
              obtain ⟨D, hD⟩ : ∃ D, doRes H3 (loadR L Mem.zero) = D := ⟨_, rfl⟩
              have hpc : D.H.pc = H3.pc := by rw [← hD]; exact doRes_pc _ _
              have hgt : ∀ i, i ≠ 10 → i ≠ 11 → D.H.get i = H3.get i := fun i h0 h1 => by rw [← hD]; exact doRes_get _ _ i h0 h1
              have hwant := fun (W wm wh : World) (hM : IsRef W rr (loadR L Mem.zero)) (hm : IsMem wm a pb (loadR L Mem.zero)) (hh : IsHost wh hb H3) => want_all H3 (loadR L Mem.zero) rr hb a pb W wm wh hM hm hh
              rw [hg3.1, hg3.2.1, hg3.2.2.1, hg3.2.2.2.1, hg3.2.2.2.2, hD] at hwant
              obtain ⟨H4, M4, ⟨fk, fp, fa, fw⟩, K⟩ := D
              have HW := Lib.hid hwant
              have HDD := Lib.hid (And.intro hD (And.intro hpc (And.intro hgt (And.intro hg3.1 hH3))))
              obtain ⟨ls, hls⟩ : ∃ ls, (if n = 16 ∨ n = 17 then n else 0) = ls := ⟨_, rfl⟩
              have HLs := Lib.hid hls
              clear HI hk hlt hH2 HI2 hg hls hH3 hg3 hD hpc hgt hwant
              have tok5 : True := trivial
              have tok6 : True := trivial
              have tok7 : True := trivial
              have tok8 : True := trivial
              have tok9 : True := trivial
              go_wp2_with (first | (have _t := HI3; clear _t; go_at_call 20; refine (SetX_any H2 hb 17 n _ HI3.out.h HN.out).mono ?_; rintro e w4 ⟨rfl, h, hu⟩; have H5 := Lib.hid (HI3.out.put hu _ _ h); rw [HDD.out.2.2.2.2] at H5; clear h hu HI3) | (have _t := tok5; clear _t; go_at_call 21; refine (HCopy_any H3 hb m _ H5.out.h H5.out.mm).mono ?_; rintro e w5 ⟨gb, gv, rfl, hg, hh, hu⟩; have H6 := Lib.hid (And.intro (H5.out.step hu) (And.intro hh (show gb ≠ hb ∧ gb ≠ a ∧ gb ≠ pb ∧ gb ≠ rr by have h1 := H5.out.h.lt; have h2 := H5.out.hm.al; have h3 := H5.out.hm.pl; have h4 := H5.out.f.lt; omega))); clear hg hh hu H5 tok5) | (have _t := tok6; clear _t; go_at_call 22; refine (Last_all H3 hb n _ H6.out.1.h HDD.out.2.2.2.1).mono ?_; rintro e w6 ⟨rfl, rfl⟩; rw [HLs.out]; clear tok6) | (have _t := tok7; clear _t; go_at_call 23; refine (Do_all H3 (loadR L Mem.zero) hb a pb _ H6.out.1.h H6.out.1.hm ⟨H6.out.1.ne.1, H6.out.1.ne.2.1⟩).mono ?_; rintro e w7 ⟨rfl, hh, hm, hu⟩; rw [HDD.out.1] at hh hm ⊢; rw [show (DoRes.mk H4 M4 ⟨fk, fp, fa, fw⟩ K).F.val = .agg #[.int .i64 fk, .int .u32 fp, .int .u32 fa, .int .i64 fw] from rfl]; have h7 := HdA.of H6.out.1 H6.out.2.1 H6.out.2.2 hh hm hu (.cells #[.int .i64 fk, .int .u32 fp, .int .u32 fa, .int .i64 fw] 49); have cx := h7.2; have H7 := Lib.hid h7.1; clear hh hm hu h7 tok7) | (have _t := tok8; clear _t; go_at_call 24; refine (HW.out _ _ _ (H7.out.ref _) H6.out.1.hm H6.out.1.h).mono ?_; rintro e w8 ⟨rfl, hr, hu⟩; rw [show (⟨fk, fp, fa, fw⟩ : Flt).val = .agg #[.int .i64 fk, .int .u32 fp, .int .u32 fa, .int .i64 fw] from rfl]; have h8 := HdB.of H7.out _ _ hr hu (.cells #[.int .i64 fk, .int .u32 fp, .int .u32 fa, .int .i64 fw] 49); have c1 := h8.2; have c2 := cells_of (heap_alloc_new w8 (.cells #[.int .i64 fk, .int .u32 fp, .int .u32 fa, .int .i64 fw] 49)); have H8 := Lib.hid h8.1; clear hr hu h8 cx tok8) | (have _t := H8; clear _t; go_at_call 25; refine (X_any H4 hb _ _ H8.out.h).mono ?_; rintro e w9 ⟨rfl, rfl⟩) | (have _t := tok9; clear _t; go_at_call 26; refine (PC_any H4 hb _ H8.out.h).mono ?_; rintro e w9 ⟨rfl, rfl⟩; rw [HDD.out.2.1]; clear tok9) | (have _t := H8; clear _t; go_at_call 26; refine (PC_any (H3.mem' gv) gb _ H8.out.g).mono ?_; rintro e w9 ⟨rfl, rfl⟩; rw [show (H3.mem' gv).pc = H3.pc from rfl]) | (have _t := H8; clear _t; go_at_call 27; refine (alike20_any M4 a pb rr _ H8.out.m H8.out.f).mono ?_; rintro e w10 ⟨rfl, hu⟩; have H9 := Lib.hid (H8.out.step hu); clear hu H8))
              clear c1 c2 d1
              obtain ⟨wp, hwp⟩ : ∃ wp : World, wp = wr := ⟨_, rfl⟩
              subst hwp
              go_loopw [23] (fun v wr => ∃ i : Int, 1 ≤ i ∧ i ≤ 32 ∧ v = .int .i64 i ∧ HdB w hb a pb rr gb (H3.mem' gv) H4 M4 wr) (fun i _ => 40 - (intOf i).toNat)
              case atStart => exact ⟨1, by decide, by decide, rfl, H9.out⟩
              case round =>
                obtain ⟨i, h1, h2, rfl, hI⟩ := hrel
                have HI := Lib.hid hI
                clear hI
                by_cases hlt : i < 32
                · by_cases h10 : i = 10
                  · subst h10
                    go_wp2_with fail
                    go_roundw
                    case rel => exact ⟨11, by decide, by decide, rfl, HI.out⟩
                    case measure => simp [intOf]
                  by_cases h11 : i = 11
                  · subst h11
                    go_wp2_with fail
                    go_roundw
                    case rel => exact ⟨12, by decide, by decide, rfl, HI.out⟩
                    case measure => simp [intOf]
                  have q1 : (i == 10) = false := by simp [h10]
                  have q2 : (i != 10) = true := by simp [h10]
                  have q3 : (i == 11) = false := by simp [h11]
                  have q4 : (i != 11) = true := by simp [h11]
                  have HG := Lib.hid (HDD.out.2.2.1 i h10 h11)
                  have tokA : True := trivial
                  clear h10 h11
                  go_wp2_with (first | (have _t := tokA; clear _t; go_at_call 25; refine (X_any H4 hb _ _ HI.out.h).mono ?_; rintro e w9 ⟨rfl, rfl⟩; rw [HG.out]; clear tokA) | (go_at_call 25; refine (X_any (H3.mem' gv) gb _ _ HI.out.g).mono ?_; rintro e w9 ⟨rfl, rfl⟩; rw [show (H3.mem' gv).get i = H3.get i from rfl]))
                  go_roundw
                  case rel => exact ⟨i + 1, by omega, by omega, rfl, HI.out⟩
                  case measure => simp [intOf]; omega
                · have hls := HLs.out
                  have hn := HN.out
                  by_cases n16 : n = 16
                  · subst n16
                    obtain rfl : ls = 16 := by rw [← hls]; rfl
                    clear hls hn
                    go_wp2_with fail
                    go_ret
                    exact ⟨rfl, HI.out.u⟩
                  by_cases n17 : n = 17
                  · subst n17
                    obtain rfl : ls = 17 := by rw [← hls]; rfl
                    clear hls hn
                    go_wp2_with fail
                    go_ret
                    exact ⟨rfl, HI.out.u⟩
                  obtain rfl : ls = 0 := by rw [← hls, if_neg (by omega)]
                  have q1 : (n == 16) = false := by simp [n16]
                  have q2 : (n != 16) = true := by simp [n16]
                  have q3 : (n == 17) = false := by simp [n17]
                  have q4 : (n != 17) = true := by simp [n17]
                  by_cases n0 : n = 0
                  · subst n0
                    clear hls n16 n17 q1 q2 q3 q4
                    go_wp2_with fail
                    go_ret
                    exact ⟨rfl, HI.out.u⟩
                  have q5 : ((0 : Int) == n) = false := by rw [beq_eq_false_iff_ne]; omega
                  clear hls n16 n17 n0
                  go_wp2_with fail
                  go_ret
                  exact ⟨rfl, HI.out.u⟩
end Go.Proofs.Ytoplekfnghkkdaa
