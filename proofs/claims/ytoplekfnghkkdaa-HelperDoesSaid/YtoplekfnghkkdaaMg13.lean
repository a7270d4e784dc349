/-
  Package helper: Do, call by call. No condition.
-/
import Derived.Test.YtoplekfnghkkdaaMg12
import Derived.Test.YtoplekfnghkkdaaMg08
namespace Go.Proofs.Ytoplekfnghkkdaa
open Go Go.RowKit
set_option linter.unusedVariables false
set_option linter.unusedSimpArgs false

/-- A host and a memory, each by itself, laid since w. -/
structure Kh (w : World) (hb a pb : Nat) (H : Hs) (M : Mem) (w1 : World) : Prop where
  h : IsHost w1 hb H
  m : IsMem w1 a pb M
  ne : hb ≠ a ∧ hb ≠ pb
  n : w.heap.size ≤ hb ∧ w.heap.size ≤ pb
  u : Upd [] w w1
section
variable {w w1 w2 : World} {hb a pb : Nat} {H H' : Hs} {M M' : Mem}
theorem Kh.step (h : Kh w hb a pb H M w1) (u : Upd [] w1 w2) : Kh w hb a pb H M w2 := ⟨h.h.keep u (by simp), h.m.keep u (by simp) (by simp), h.ne, h.n, h.u.also u (by simp)⟩
theorem Kh.host (h : Kh w hb a pb H M w1) (u : Upd [hb] w1 w2) (h' : IsHost w2 hb H') : Kh w hb a pb H' M w2 :=
  ⟨h', h.m.keep u (by simpa using fun e => h.ne.1 e.symm) (by simpa using fun e => h.ne.2 e.symm), h.ne, h.n, h.u.also u (by simp; exact h.n.1)⟩
theorem Kh.mem (h : Kh w hb a pb H M w1) (u : Upd [pb] w1 w2) (m' : IsMem w2 a pb M') : Kh w hb a pb H M' w2 :=
  ⟨h.h.keep u (by simpa using h.ne.2), m', h.ne, h.n, h.u.also u (by simp; exact h.n.2)⟩
theorem Kh.both (h : Kh w hb a pb H M w1) (u : Upd [hb, pb] w1 w2) (h' : IsHost w2 hb H') (m' : IsMem w2 a pb M') : Kh w hb a pb H' M' w2 :=
  ⟨h', m', h.ne, h.n, h.u.also u (by simp; exact h.n)⟩
end

theorem Do_load4 (H : Hs) (M : Mem) (hb a pb : Nat) (w : World) (h : IsHost w hb H) (hm : IsMem w a pb M) (hne : hb ≠ a ∧ hb ≠ pb) (e17 : H.get 17 = 1) (hk : M.readK (H.get 10) 4 1 = true) :
    Calls Try.prog 23 #[.pointer (some ⟨hb, 0, none⟩), .pointer (some ⟨a, 0, none⟩)] w fun e w' => e = .returned (.tuple #[Flt.zero.val, .bool true]) ∧ IsHost w' hb (H.put 10 (M.readV (H.get 10) 4 1)) ∧ IsMem w' a pb (M) ∧ Upd [hb, pb] w w' :=
  Do_touch_ok H _ M _ hb a pb w h hm hne ⟨by rw [e17]; decide, by rw [e17]; decide, by rw [e17]; decide⟩ (fun ab w1 hA => by rw [e17]; exact touch_load4_ok H M ab hb a pb w1 hA hk)

theorem Do_load1 (H : Hs) (M : Mem) (hb a pb : Nat) (w : World) (h : IsHost w hb H) (hm : IsMem w a pb M) (hne : hb ≠ a ∧ hb ≠ pb) (e17 : H.get 17 = 2) (hk : M.readK (H.get 10) 1 1 = true) :
    Calls Try.prog 23 #[.pointer (some ⟨hb, 0, none⟩), .pointer (some ⟨a, 0, none⟩)] w fun e w' => e = .returned (.tuple #[Flt.zero.val, .bool true]) ∧ IsHost w' hb (H.put 10 (M.readV (H.get 10) 1 1)) ∧ IsMem w' a pb (M) ∧ Upd [hb, pb] w w' :=
  Do_touch_ok H _ M _ hb a pb w h hm hne ⟨by rw [e17]; decide, by rw [e17]; decide, by rw [e17]; decide⟩ (fun ab w1 hA => by rw [e17]; exact touch_load1_ok H M ab hb a pb w1 hA hk)

theorem Do_store4 (H : Hs) (M : Mem) (hb a pb : Nat) (w : World) (h : IsHost w hb H) (hm : IsMem w a pb M) (hne : hb ≠ a ∧ hb ≠ pb) (e17 : H.get 17 = 3) (hk : M.writeK (H.get 10) 4 = true) :
    Calls Try.prog 23 #[.pointer (some ⟨hb, 0, none⟩), .pointer (some ⟨a, 0, none⟩)] w fun e w' => e = .returned (.tuple #[Flt.zero.val, .bool true]) ∧ IsHost w' hb (H) ∧ IsMem w' a pb (M.writeM (H.get 10) 4 (H.get 11)) ∧ Upd [hb, pb] w w' :=
  Do_touch_ok H _ M _ hb a pb w h hm hne ⟨by rw [e17]; decide, by rw [e17]; decide, by rw [e17]; decide⟩ (fun ab w1 hA => by rw [e17]; exact touch_store4_ok H M ab hb a pb w1 hA hk)

theorem Do_lay (H : Hs) (M : Mem) (hb a pb : Nat) (w : World) (h : IsHost w hb H) (hm : IsMem w a pb M) (hne : hb ≠ a ∧ hb ≠ pb) (e17 : H.get 17 = 8) (hk : M.canK (H.get 10) 8 2 = true) :
    Calls Try.prog 23 #[.pointer (some ⟨hb, 0, none⟩), .pointer (some ⟨a, 0, none⟩)] w fun e w' => e = .returned (.tuple #[Flt.zero.val, .bool true]) ∧ IsHost w' hb (H) ∧ IsMem w' a pb (M.wr8M (H.get 10) (H.two 1)) ∧ Upd [hb, pb] w w' :=
  Do_touch_ok H _ M _ hb a pb w h hm hne ⟨by rw [e17]; decide, by rw [e17]; decide, by rw [e17]; decide⟩ (fun ab w1 hA => by rw [e17]; exact touch_lay_ok H M ab hb a pb w1 hA hk)

theorem Do_number (H : Hs) (M : Mem) (hb a pb : Nat) (w : World) (h : IsHost w hb H) (hm : IsMem w a pb M) (hne : hb ≠ a ∧ hb ≠ pb) (e17 : H.get 17 = 7) (hk : M.rd8K (H.get 10) = true) :
    Calls Try.prog 23 #[.pointer (some ⟨hb, 0, none⟩), .pointer (some ⟨a, 0, none⟩)] w fun e w' => e = .returned (.tuple #[Flt.zero.val, .bool true]) ∧ IsHost w' hb ((H.put 10 (M.rd8V (H.get 10) % 4294967296)).put 11 (M.rd8V (H.get 10) / 4294967296)) ∧ IsMem w' a pb (M) ∧ Upd [hb, pb] w w' :=
  Do_touch_ok H _ M _ hb a pb w h hm hne ⟨by rw [e17]; decide, by rw [e17]; decide, by rw [e17]; decide⟩ (fun ab w1 hA => by rw [e17]; exact touch_number_ok H M ab hb a pb w1 hA hk)

theorem Do_divs (H : Hs) (M : Mem) (hb a pb : Nat) (w : World) (h : IsHost w hb H) (hm : IsMem w a pb M) (hne : hb ≠ a ∧ hb ≠ pb) (e17 : H.get 17 = 5) (hk : divK (H.get 10) (H.get 11) (H.get 12) = true) :
    Calls Try.prog 23 #[.pointer (some ⟨hb, 0, none⟩), .pointer (some ⟨a, 0, none⟩)] w fun e w' => e = .returned (.tuple #[Flt.zero.val, .bool true]) ∧ IsHost w' hb ((H.put 10 (divQ (H.get 10) (H.get 11) (H.get 12))).put 11 (divR (H.get 10) (H.get 11) (H.get 12))) ∧ IsMem w' a pb (M) ∧ Upd [hb, pb] w w' :=
  Do_div_ok H _ M _ hb a pb w h hm hne e17 (fun ab w1 hA => by rw [e17]; exact ((divides_ok H ab hb a w1 hA.h hA.k hA.n.1 hk).mono fun e w2 ⟨h1, h2, h3⟩ => ⟨h1, h2, hA.m.keep h3 (by simpa using fun e => hne.1 e.symm) (by simpa using fun e => hne.2 e.symm), h3.mono (by simp)⟩))

theorem Do_divs_bad (H : Hs) (M : Mem) (hb a pb : Nat) (w : World) (h : IsHost w hb H) (hm : IsMem w a pb M) (hne : hb ≠ a ∧ hb ≠ pb) (e17 : H.get 17 = 5) (hk : divK (H.get 10) (H.get 11) (H.get 12) = false) :
    Calls Try.prog 23 #[.pointer (some ⟨hb, 0, none⟩), .pointer (some ⟨a, 0, none⟩)] w fun e w' => (∃ F : Flt, (fun F => F = Flt.div) F ∧ e = .returned (.tuple #[F.val, .bool false])) ∧ Upd [] w w' :=
  Do_div_bad H M (fun F => F = Flt.div) [] hb a pb w h hm hne e17 (by simp) (fun ab w1 hA => by rw [e17]; exact ((divides_bad H ab hb a w1 hA.h hA.k hk).mono fun e w2 ⟨h1, h2⟩ => ⟨⟨_, rfl, h1⟩, h2⟩))

theorem Do_load4_bad (H : Hs) (M : Mem) (hb a pb : Nat) (w : World) (h : IsHost w hb H) (hm : IsMem w a pb M) (hne : hb ≠ a ∧ hb ≠ pb) (e17 : H.get 17 = 1) (hk : M.readK (H.get 10) 4 1 = false) :
    Calls Try.prog 23 #[.pointer (some ⟨hb, 0, none⟩), .pointer (some ⟨a, 0, none⟩)] w fun e w' => (∃ F : Flt, (fun F => F = M.rdF (H.get 10) 4 1) F ∧ e = .returned (.tuple #[F.val, .bool false])) ∧ Upd [] w w' :=
  Do_touch_bad H M (fun F => F = M.rdF (H.get 10) 4 1) [] hb a pb w h hm hne ⟨by rw [e17]; decide, by rw [e17]; decide, by rw [e17]; decide⟩ (by simp) (fun ab w1 hA => by rw [e17]; exact ((touch_load4_bad H M ab hb a pb w1 hA hk).mono fun e w2 ⟨h1, h2⟩ => ⟨⟨_, rfl, h1⟩, h2⟩))

theorem Do_store1_bad (H : Hs) (M : Mem) (hb a pb : Nat) (w : World) (h : IsHost w hb H) (hm : IsMem w a pb M) (hne : hb ≠ a ∧ hb ≠ pb) (e17 : H.get 17 = 4) (hk : M.writeK (H.get 10) 1 = false) :
    Calls Try.prog 23 #[.pointer (some ⟨hb, 0, none⟩), .pointer (some ⟨a, 0, none⟩)] w fun e w' => (∃ F : Flt, (fun _ => True) F ∧ e = .returned (.tuple #[F.val, .bool false])) ∧ Upd [pb] w w' :=
  Do_touch_bad H M (fun _ => True) [pb] hb a pb w h hm hne ⟨by rw [e17]; decide, by rw [e17]; decide, by rw [e17]; decide⟩ (by have := hm.pl; simpa using this) (fun ab w1 hA => by rw [e17]; exact ((touch_store1_bad H M ab hb a pb w1 hA hk).mono fun e w2 ⟨h1, _, h2⟩ => ⟨⟨_, trivial, h1⟩, h2⟩))

theorem Do_can (H : Hs) (M : Mem) (hb a pb : Nat) (w : World) (h : IsHost w hb H) (hm : IsMem w a pb M) (hne : hb ≠ a ∧ hb ≠ pb) (e17 : H.get 17 = 14) :
    (M.canRow (H.get 10) (min (H.get 11) 16).toNat = true → Calls Try.prog 23 #[.pointer (some ⟨hb, 0, none⟩), .pointer (some ⟨a, 0, none⟩)] w fun e w' => e = .returned (.tuple #[Flt.zero.val, .bool true]) ∧ IsHost w' hb (H.put 10 0) ∧ IsMem w' a pb M ∧ Upd [hb, pb] w w') ∧
    (M.canRow (H.get 10) (min (H.get 11) 16).toNat = false → Calls Try.prog 23 #[.pointer (some ⟨hb, 0, none⟩), .pointer (some ⟨a, 0, none⟩)] w fun e w' => (∃ F : Flt, True ∧ e = .returned (.tuple #[F.val, .bool false])) ∧ Upd [] w w') := by
  constructor
  · intro hk
    refine Do_can_ok H _ M _ hb a pb w h hm hne e17 (fun ab w1 hA => ?_)
    rw [e17]
    refine (touch_can H M ab hb a pb w1 hA).mono ?_
    rintro e w2 (⟨_, h1, h2, h3, h4⟩ | ⟨h0, _⟩)
    · exact ⟨h1, h2, h3, h4.mono (by simp)⟩
    · rw [hk] at h0; cases h0
  · intro hk
    refine Do_can_bad H M (fun _ => True) [] hb a pb w h hm hne e17 (by simp) (fun ab w1 hA => ?_)
    rw [e17]
    refine (touch_can H M ab hb a pb w1 hA).mono ?_
    rintro e w2 (⟨h0, _⟩ | ⟨_, ⟨F, h1⟩, h2⟩)
    · rw [hk] at h0; cases h0
    · exact ⟨⟨F, trivial, h1⟩, h2⟩
end Go.Proofs.Ytoplekfnghkkdaa

/-
  The laws of layer 20: the check of known answers, by its contract. No condition.
-/
namespace Go.Proofs.Ytoplekfnghkkdaa
open Go Go.RowKit
set_option linter.unusedVariables false
set_option linter.unusedSimpArgs false

def hkM1 : Mem := Mem.zero.mapN (0 : Int).toNat (1 : Int).toNat 3
def hkM2 : Mem := hkM1.poke 8 [1, 2, 3, 4]
theorem hk_map : Mem.zero.mapB 0 1 3 = true := by decide +kernel
theorem hk_poke : hkM1.pokeB 8 [1, 2, 3, 4] = true := by decide +kernel
theorem hk_rK : hkM2.readK 8 4 1 = true := by decide +kernel
theorem hk_rV : hkM2.readV 8 4 1 = 67305985 := by decide +kernel
theorem hk_bK : hkM2.readK 254 4 1 = false := by decide +kernel
theorem hk_bad : hkM2.bad 254 (rightI 1) (widthI 4).toNat = some 2 := by decide +kernel
theorem hk_bF : hkM2.rdF 254 4 1 = ⟨1, 0, 256, 1⟩ := by rw [Mem.rdF, hk_bad]; rfl

def hkH1 (m : Nat) : Hs := ((Hs.zero m).put 17 1).put 10 8
def hkH2 (m : Nat) : Hs := (hkH1 m).put 10 67305985
def hkH3 (m : Nat) : Hs := (hkH2 m).put 10 254
def hkH4 (m : Nat) : Hs := (hkH3 m).put 17 16

theorem Last_any (H : Hs) (b : Nat) (w : World) (h : IsHost w b H) (e17 : H.get 17 = 16) :
    Calls Try.prog 22 #[.pointer (some ⟨b, 0, none⟩)] w fun e w' => e = .returned (.int .i64 16) ∧ w = w' := by
  have HH := Lib.hid h
  clear h
  go_enter Try.func22, Try.ntmps22
  go_wp2_with (go_at_call 25; refine (X_any H b 17 _ HH.out).mono ?_; rintro e w' ⟨rfl, rfl⟩; rw [e17])
  go_ret
  exact ⟨rfl, rfl⟩

theorem by4 (w : World) (T : TypeId) : BySl (w.alloc (.cells #[.int .u8 1, .int .u8 2, .int .u8 3, .int .u8 4] T)) (.slice (some ⟨w.heap.size, 0, none⟩) 4 4) [1, 2, 3, 4] w.heap.size := by
  refine .inr ⟨0, 4, _, T, _, rfl, heap_alloc_new w _, fun i hi => ?_⟩
  have h : i = 0 ∨ i = 1 ∨ i = 2 ∨ i = 3 := by simp at hi; omega
  rcases h with rfl | rfl | rfl | rfl <;> rfl

set_option maxRecDepth 100000 in
set_option maxHeartbeats 4000000 in
theorem known20_any (w : World) :
    Calls Try.prog 16 #[] w fun e w' => e = .returned (.bool true) ∧ Upd [] w w' := by
  have tok1 : True := trivial
  have tok2 : True := trivial
  go_enter Try.func16, Try.ntmps16
  go_wp2_with (first | (have _t := tok1; clear _t; go_at_call 29; refine (New_any _).mono ?_; rintro e w0 ⟨a, pb, rfl, ha, hp, hM0, hU0⟩; have N0 := Lib.hid (And.intro ha (And.intro hp (And.intro hM0 hU0))); clear ha hp hM0 hU0 tok1) | (have _t := N0; clear _t; go_at_call 19; refine (HNew_any _).mono ?_; rintro e w1 ⟨hb, m, rfl, h1, h2, h3⟩; have K0 := Lib.hid (show Kh w hb a pb (Hs.zero m) Mem.zero w1 from ⟨h2, N0.out.2.2.1.keep h3 (by simp) (by simp), ⟨by have := N0.out.2.2.1.al; omega, by have := N0.out.2.2.1.pl; omega⟩, ⟨by have := N0.out.2.2.2.size; omega, N0.out.2.1⟩, N0.out.2.2.2.also h3 (by simp)⟩); clear h1 h2 h3 N0) | (have _t := K0; clear _t; go_at_call 30; refine (Map_yes Mem.zero a pb 0 1 3 _ K0.out.m (by decide) hk_map).mono ?_; rintro e w2 ⟨rfl, h1, h2⟩; have K1 := Lib.hid (show Kh w hb a pb (Hs.zero m) hkM1 w2 from K0.out.mem h2 h1); clear h1 h2 K0) | (have _t := K1; clear _t; go_at_call 32; refine (Poke_any hkM1 a pb 8 (.slice (some ⟨w2.heap.size, 0, none⟩) 4 4) [1, 2, 3, 4] w2.heap.size _ (K1.out.m.keep ((Upd.refl [] w2).alloc _) (by simp) (by simp)) (by decide) (by decide) (by4 w2 _) (by have := K1.out.m.pl; omega) (by intro i; match i with | 0 | 1 | 2 | 3 => simp | _ + 4 => simp) (by simp [maxLen])).mono ?_; rintro e w3 ⟨rfl, h1, h2⟩; rw [hk_poke, show errI true 61 = 0 from rfl]; have K2 := Lib.hid (show Kh w hb a pb (Hs.zero m) hkM2 w3 from (K1.out.step ((Upd.refl [] w2).alloc _)).mem h2 h1); clear h1 h2 K1) | (have _t := K2; clear _t; go_at_call 20; refine (SetX_any _ hb 17 1 _ K2.out.h (by decide)).mono ?_; rintro e w4 ⟨rfl, h1, h2⟩; have K3 := Lib.hid (K2.out.host h2 h1); clear h1 h2 K2) | (have _t := K3; clear _t; go_at_call 20; refine (SetX_any _ hb 10 8 _ K3.out.h (by decide)).mono ?_; rintro e w5 ⟨rfl, h1, h2⟩; have K4 := Lib.hid (show Kh w hb a pb (hkH1 m) hkM2 w5 from K3.out.host h2 h1); clear h1 h2 K3) | (have _t := K4; clear _t; go_at_call 23; refine (Do_load4 (hkH1 m) hkM2 hb a pb _ K4.out.h K4.out.m K4.out.ne rfl hk_rK).mono ?_; rintro e w6 ⟨rfl, h1, h2, h3⟩; rw [show (hkH1 m).get 10 = 8 from rfl, hk_rV] at h1; rw [show Flt.zero.val = .agg #[.int .i64 0, .int .u32 0, .int .u32 0, .int .i64 0] from rfl]; have K5 := Lib.hid (show Kh w hb a pb (hkH2 m) hkM2 _ from (K4.out.both h3 h1 h2).step ((Upd.refl [] _).alloc (.cells #[.int .i64 0, .int .u32 0, .int .u32 0, .int .i64 0] 49))); clear h1 h2 h3 K4) | (have _t := tok2; clear _t; go_at_call 25; refine (X_any (hkH2 m) hb 10 _ K5.out.h).mono ?_; rintro e w7 ⟨rfl, rfl⟩; rw [show (hkH2 m).get 10 = 67305985 from rfl]; clear tok2) | (have _t := K5; clear _t; go_at_call 20; refine (SetX_any (hkH2 m) hb 10 254 _ K5.out.h (by decide)).mono ?_; rintro e w8 ⟨rfl, h1, h2⟩; have K6 := Lib.hid (show Kh w hb a pb (hkH3 m) hkM2 w8 from K5.out.host h2 h1); clear h1 h2 K5) | (have _t := K6; clear _t; go_at_call 23; refine (Do_load4_bad (hkH3 m) hkM2 hb a pb _ K6.out.h K6.out.m K6.out.ne rfl hk_bK).mono ?_; rintro e w9 ⟨⟨F, hF, rfl⟩, h3⟩; obtain rfl : F = ⟨1, 0, 256, 1⟩ := hF.trans hk_bF; rw [show (⟨1, 0, 256, 1⟩ : Flt).val = .agg #[.int .i64 1, .int .u32 0, .int .u32 256, .int .i64 1] from rfl]; have K7 := Lib.hid (And.intro (K6.out.step (h3.alloc (.cells #[.int .i64 1, .int .u32 0, .int .u32 256, .int .i64 1] 49))) (And.intro (heap_alloc_new w9 (.cells #[.int .i64 1, .int .u32 0, .int .u32 256, .int .i64 1] 49)) ((K6.out.step h3).h.lt))); clear h3 hF K6) | (have _t := K7; clear _t; go_at_call 20; refine (SetX_any (hkH3 m) hb 17 16 _ K7.out.1.h (by decide)).mono ?_; rintro e w10 ⟨rfl, h1, h2⟩; have K8 := Lib.hid (And.intro (show Kh w hb a pb (hkH4 m) hkM2 w10 from K7.out.1.host h2 h1) (h2.get K7.out.2.1 (by have := K7.out.2.2; simp; omega))); clear h1 h2 K7; have b10 := cells_of K8.out.2) | (have _t := K8; clear _t; go_at_call 25; refine (X_any (hkH4 m) hb 10 _ K8.out.1.h).mono ?_; rintro e w11 ⟨rfl, rfl⟩; rw [show (hkH4 m).get 10 = 254 from rfl]) | (have _t := K8; clear _t; go_at_call 22; refine (Last_any (hkH4 m) hb _ K8.out.1.h rfl).mono ?_; rintro e w12 ⟨rfl, rfl⟩))
  go_ret
  exact ⟨rfl, K8.out.1.u⟩
end Go.Proofs.Ytoplekfnghkkdaa

/-
  The law HelperDivides: the walk. No condition.
-/
namespace Go.Proofs.Ytoplekfnghkkdaa
open Go Go.RowKit
set_option linter.unusedVariables false
set_option linter.unusedSimpArgs false

def R5 (n x y z t : Int) : Prop := (0 ≤ n ∧ n < 4294967296) ∧ (0 ≤ x ∧ x < 4294967296) ∧ (0 ≤ y ∧ y < 4294967296) ∧ (0 ≤ z ∧ z < 4294967296) ∧ (0 ≤ t ∧ t < 4294967296)

end Go.Proofs.Ytoplekfnghkkdaa

/-
  Package helper: reckons: a difference, a comparison. No condition.
-/
namespace Go.Proofs.Ytoplekfnghkkdaa
open Go Go.RowKit
set_option linter.unusedVariables false
set_option linter.unusedSimpArgs false

/-- ZF, PF, CF as a number, its lowest j digits. -/
def cmpT (z p c : Bool) : Nat → Int
  | 0 => 0
  | 1 => if c then 1 else 0
  | 2 => (if c then 1 else 0) + (if p then 2 else 0)
  | 3 => (if c then 1 else 0) + (if p then 2 else 0)
  | _ => (if c then 1 else 0) + (if p then 2 else 0) + (if z then 8 else 0)
def cmpBit (z p c : Bool) : Nat → Bool
  | 0 => c
  | 1 => p
  | 2 => false
  | _ => z
theorem cmpT_range (z p c : Bool) (j : Nat) : 0 ≤ cmpT z p c j ∧ cmpT z p c j < 4294967296 := by
  unfold cmpT; split <;> cases z <;> cases p <;> cases c <;> decide

theorem cmp_ix0 (z p c : Bool) (w : World) : (Instr.index 240 (.agg #[.bool c, .bool p, .bool false, .bool z]) (.int .i64 0)).run Try.prog w = .ok (.bool c) w := by kernel_rfl
theorem cmp_ix1 (z p c : Bool) (w : World) : (Instr.index 240 (.agg #[.bool c, .bool p, .bool false, .bool z]) (.int .i64 1)).run Try.prog w = .ok (.bool p) w := by kernel_rfl
theorem cmp_ix2 (z p c : Bool) (w : World) : (Instr.index 240 (.agg #[.bool c, .bool p, .bool false, .bool z]) (.int .i64 2)).run Try.prog w = .ok (.bool false) w := by kernel_rfl
theorem cmp_ix3 (z p c : Bool) (w : World) : (Instr.index 240 (.agg #[.bool c, .bool p, .bool false, .bool z]) (.int .i64 3)).run Try.prog w = .ok (.bool z) w := by kernel_rfl
theorem cmp_index (z p c : Bool) (j : Nat) (hj : j < 4) (w : World) : (Instr.index 240 (.agg #[.bool c, .bool p, .bool false, .bool z]) (.int .i64 j)).run Try.prog w = .ok (.bool (cmpBit z p c j)) w := by
  have h : j = 0 ∨ j = 1 ∨ j = 2 ∨ j = 3 := by omega
  rcases h with rfl | rfl | rfl | rfl
  · exact cmp_ix0 z p c w
  · exact cmp_ix1 z p c w
  · exact cmp_ix2 z p c w
  · exact cmp_ix3 z p c w

theorem cmpT_step (z p c : Bool) (j : Nat) (hj : j < 4) : (cmpBit z p c j = true → bits .or .u32 (cmpT z p c j) (2 ^ j) = cmpT z p c (j + 1)) ∧ (cmpBit z p c j = false → cmpT z p c (j + 1) = cmpT z p c j) := by
  have h : j = 0 ∨ j = 1 ∨ j = 2 ∨ j = 3 := by omega
  rcases h with rfl | rfl | rfl | rfl <;> cases z <;> cases p <;> cases c <;> decide +kernel

set_option maxRecDepth 100000 in
set_option maxHeartbeats 2000000 in
theorem compared_any (z p c : Bool) (w : World) : Calls Try.prog 124 #[.bool z, .bool p, .bool c] w fun e w' => e = .returned (.int .u32 (cmpT z p c 4)) ∧ Upd [] w w' := by
  have U0 := Lib.hid (Upd.refl [] w)
  go_enter Try.func124, Try.ntmps124
  go_wp2_with fail
  go_loopw [7, 14] (fun v i wr => ∃ j : Nat, j ≤ 4 ∧ i = .int .i64 j ∧ v = .int .u32 (cmpT z p c j) ∧ Upd [] w wr) (fun _ i _ => 4 - (intOf i).toNat)
  case atStart => exact ⟨0, by omega, rfl, rfl, U0.out⟩
  case round =>
    obtain ⟨j, hj, rfl, rfl, hF⟩ := hrel
    have HF := Lib.hid hF
    clear hF U0
    by_cases hlt : j < 4
    · have hix := cmp_index z p c j hlt
      have hjd : decide ((j : Int) < 4) = true := by rw [decide_eq_true_eq]; omega
      have hst := cmpT_step z p c j hlt
      have hsh : (2 : Int) ^ j % 4294967296 = 2 ^ j := by
        have h : j = 0 ∨ j = 1 ∨ j = 2 ∨ j = 3 := by omega
        rcases h with rfl | rfl | rfl | rfl <;> decide
      cases hb : cmpBit z p c j
      · rw [hb] at hix
        have hs2 := hst.2 hb
        clear hst hj
        go_wp2_with fail
        go_roundw
        case rel => exact ⟨j + 1, by omega, by go_num, by rw [hs2], HF.out⟩
        case measure => simp [intOf]; omega
      · rw [hb] at hix
        have hs1 := hst.1 hb
        clear hst hj
        go_wp2_with fail
        go_roundw
        case rel => exact ⟨j + 1, by omega, by go_num, by rw [← hs1], HF.out⟩
        case measure => simp [intOf]; omega
    · obtain rfl : j = 4 := by omega
      go_wp2_with fail
      go_ret
      exact ⟨rfl, HF.out⟩

theorem flCanon_range (n : Nat) (h : n < 18446744073709551616) : 0 ≤ flCanon n ∧ flCanon n < 18446744073709551616 := by
  unfold flCanon; split <;> omega
theorem flDo_range (op : BinOp) (x y : Nat) : 0 ≤ flDo op x y ∧ flDo op x y < 18446744073709551616 := by
  unfold flDo
  split
  · rename_i r h
    have := floatBits_wf h
    simp only [Lit.wf, decide_eq_true_eq] at this
    exact flCanon_range r this
  · decide

set_option maxRecDepth 100000 in
set_option maxHeartbeats 1000000 in
theorem reckons_sub (H : Hs) (ab hb a : Nat) (w : World) (h : IsHost w hb H) (hA : IsAsk w ab hb a) (hne : ab ≠ hb) :
    Calls Try.prog 59 #[.pointer (some ⟨ab, 0, none⟩), .int .u32 10] w fun e w' => e = .returned (.tuple #[]) ∧ IsHost w' hb ((H.put 10 (flDo .sub (H.two 0).toNat (H.two 2).toNat % 4294967296)).put 11 (flDo .sub (H.two 0).toNat (H.two 2).toNat / 4294967296)) ∧ Upd [hb] w w' := by
  have HH := Lib.hid (And.intro h (And.intro hA hne))
  have gr := Lib.hid (flDo_range .sub (H.two 0).toNat (H.two 2).toNat)
  clear h hA hne
  have tok0 : True := trivial
  have tok1 : True := trivial
  go_enter Try.func59, Try.ntmps59
  go_wp2_with (first | (have _t := tok0; clear _t; go_at_call 117; refine (two_any H ab hb a 0 (by decide) _ HH.out.1 HH.out.2.1).mono ?_; rintro e w' ⟨rfl, rfl⟩; clear tok0) | (have _t := tok1; clear _t; go_at_call 117; refine (two_any H ab hb a 2 (by decide) _ HH.out.1 HH.out.2.1).mono ?_; rintro e w' ⟨rfl, rfl⟩; clear tok1) | (go_at_call 120; refine (fl_Sub (H.two 0) (H.two 2) _).mono ?_; rintro e w1 ⟨rfl, hu⟩; have U1 := Lib.hid hu; clear hu) | (go_at_call 118; refine (number_any H ab hb a _ gr.out _ (HH.out.1.keep U1.out (by simp)) (HH.out.2.1.keep U1.out (by simp)) HH.out.2.2).mono ?_; rintro e w2 ⟨rfl, h2, hu⟩; have H2 := Lib.hid (And.intro h2 ((U1.out.mono (T := [hb]) (by simp)).also hu (by simp))); clear h2 hu U1))
  go_end0
  exact ⟨rfl, H2.out.1, H2.out.2⟩

set_option maxRecDepth 100000 in
set_option maxHeartbeats 1000000 in
theorem reckons_cmp (H : Hs) (ab hb a : Nat) (w : World) (h : IsHost w hb H) (hA : IsAsk w ab hb a) :
    Calls Try.prog 59 #[.pointer (some ⟨ab, 0, none⟩), .int .u32 13] w fun e w' => e = .returned (.tuple #[]) ∧ IsHost w' hb (H.put 10 (cmpT (cmpZ (H.two 0).toNat (H.two 2).toNat) (cmpP (H.two 0).toNat (H.two 2).toNat) (cmpC (H.two 0).toNat (H.two 2).toNat) 4)) ∧ Upd [hb] w w' := by
  have HH := Lib.hid (And.intro h hA)
  have gr := Lib.hid (cmpT_range (cmpZ (H.two 0).toNat (H.two 2).toNat) (cmpP (H.two 0).toNat (H.two 2).toNat) (cmpC (H.two 0).toNat (H.two 2).toNat) 4)
  clear h hA
  have tok0 : True := trivial
  have tok1 : True := trivial
  go_enter Try.func59, Try.ntmps59
  go_wp2_with (first | (have _t := tok0; clear _t; go_at_call 117; refine (two_any H ab hb a 0 (by decide) _ HH.out.1 HH.out.2).mono ?_; rintro e w' ⟨rfl, rfl⟩; clear tok0) | (have _t := tok1; clear _t; go_at_call 117; refine (two_any H ab hb a 2 (by decide) _ HH.out.1 HH.out.2).mono ?_; rintro e w' ⟨rfl, rfl⟩; clear tok1) | (go_at_call 125; refine (fl_Compare (H.two 0) (H.two 2) _).mono ?_; rintro e w1 ⟨rfl, hu⟩; have U1 := Lib.hid hu; clear hu) | (go_at_call 124; refine (compared_any _ _ _ _).mono ?_; rintro e w2 ⟨rfl, hu⟩; have U2 := Lib.hid (U1.out.also hu (by simp)); clear hu U1) | (go_at_call 123; refine (answers_any H ab hb a _ gr.out _ (HH.out.1.keep U2.out (by simp)) (HH.out.2.keep U2.out (by simp))).mono ?_; rintro e w3 ⟨rfl, h2, hu⟩; have H2 := Lib.hid (And.intro h2 ((U2.out.mono (T := [hb]) (by simp)).also hu (by simp))); clear h2 hu U2))
  go_end0
  exact ⟨rfl, H2.out.1, H2.out.2⟩

theorem Do_sub (H : Hs) (M : Mem) (hb a pb : Nat) (w : World) (h : IsHost w hb H) (hm : IsMem w a pb M) (hne : hb ≠ a ∧ hb ≠ pb) (e17 : H.get 17 = 10) :
    Calls Try.prog 23 #[.pointer (some ⟨hb, 0, none⟩), .pointer (some ⟨a, 0, none⟩)] w fun e w' => e = .returned (.tuple #[Flt.zero.val, .bool true]) ∧ IsHost w' hb ((H.put 10 (flDo .sub (H.two 0).toNat (H.two 2).toNat % 4294967296)).put 11 (flDo .sub (H.two 0).toNat (H.two 2).toNat / 4294967296)) ∧ IsMem w' a pb M ∧ Upd [hb, pb] w w' :=
  Do_reck_ok H _ M _ hb a pb w h hm hne (by rw [e17]; decide) (fun ab w1 hA => by rw [e17]; exact ((reckons_sub H ab hb a w1 hA.h hA.k hA.n.1).mono fun e w2 ⟨h1, h2, h3⟩ => ⟨h1, h2, hA.m.keep h3 (by simpa using fun e => hne.1 e.symm) (by simpa using fun e => hne.2 e.symm), h3.mono (by simp)⟩))

theorem Do_cmp (H : Hs) (M : Mem) (hb a pb : Nat) (w : World) (h : IsHost w hb H) (hm : IsMem w a pb M) (hne : hb ≠ a ∧ hb ≠ pb) (e17 : H.get 17 = 13) :
    Calls Try.prog 23 #[.pointer (some ⟨hb, 0, none⟩), .pointer (some ⟨a, 0, none⟩)] w fun e w' => e = .returned (.tuple #[Flt.zero.val, .bool true]) ∧ IsHost w' hb (H.put 10 (cmpT (cmpZ (H.two 0).toNat (H.two 2).toNat) (cmpP (H.two 0).toNat (H.two 2).toNat) (cmpC (H.two 0).toNat (H.two 2).toNat) 4)) ∧ IsMem w' a pb M ∧ Upd [hb, pb] w w' :=
  Do_reck_ok H _ M _ hb a pb w h hm hne (by rw [e17]; decide) (fun ab w1 hA => by rw [e17]; exact ((reckons_cmp H ab hb a w1 hA.h hA.k).mono fun e w2 ⟨h1, h2, h3⟩ => ⟨h1, h2, hA.m.keep h3 (by simpa using fun e => hne.1 e.symm) (by simpa using fun e => hne.2 e.symm), h3.mono (by simp)⟩))
end Go.Proofs.Ytoplekfnghkkdaa
