/-
  Parts of the proof (their names shortened by a program). No condition.
-/
import Derived.Test.YthakgjpejhjaoaaGreatMg01
import Derived.Test.YthakgjpejhjaoaaGreatMg22
import Derived.Test.YthakgjpejhjaoaaGreatMg03
import Derived.Test.YthakgjpejhjaoaaGreatMg04
import Derived.Test.YthakgjpejhjaoaaGreatMg05
import Derived.Test.YthakgjpejhjaoaaGreatMg21
namespace Go.Proofs.YthakgjpejhjaoaaGreat
open Go Go.RowKit
set_option linter.unusedVariables false
set_option linter.unusedSimpArgs false
set_option maxRecDepth 100000
set_option maxHeartbeats 16000000
section
theorem getDq_ok {l : List Int} (h : l.all (fun x => decide (0 ≤ x) && decide (x ≤ 255)) = true) : ∀ i, 0 ≤ l.getD i 0 ∧ l.getD i 0 ≤ 255 := by
 intro i
 rw [List.getD_eq_getElem?_getD]
 cases hi : l[i]? with
 |none => simp
 |some x =>
  have := List.all_eq_true.1 h x (List.mem_of_getElem? hi)
  simp only [Bool.and_eq_true, decide_eq_true_eq] at this
  simpa using this
theorem Ygy (n : Int) : errI true n = 0 := rfl
structure Kn (w : World) (a pb : Nat) (M : Mem) (L : List (Nat × Obj)) (w1 : World) : Prop where
 m : Yk w1 a pb M
 u : Upd [] w w1
 v : ∀ p ∈ L, w1.heap[p.1]? = some p.2
 s : L.Pairwise (fun p q => q.1 < p.1)
 t : ∀ p ∈ L, p.1 < w1.heap.size ∧ p.1 ≠ pb ∧ p.1 ≠ a
 l : w.heap.size ≤ pb
 w : ∀ p ∈ L, w.heap.size ≤ p.1
section
variable {w w1 w2 : World} {a pb : Nat} {M M2 : Mem} {L : List (Nat × Obj)} {T T2 : St} {F : Flt}
theorem Kn.step (h : Kn w a pb M L w1) (hm : Yk w2 a pb M2) (u : Upd [pb] w1 w2) : Kn w a pb M2 L w2 :=
 ⟨hm, h.u.also u (by have := h.l; simp <;> omega), fun p hp => u.get (h.v p hp) (by have := (h.t p hp).2.1; simpa using this), h.s, fun p hp => ⟨Nat.lt_of_lt_of_le (h.t p hp).1 u.size, (h.t p hp).2⟩, h.l, h.w⟩
theorem Yik (hw : ((w1.alloc (.cells St.zero.cells 28)).alloc (.cells #[.int .i64 0, .int .u32 0, .int .u32 0, .int .i64 0] 35)).setCells w1.heap.size 0 T.cells.toList = w2) :
  w2.heap[w1.heap.size]? = some (.cells T.cells 28 (0, 0)) ∧ w2.heap[w1.heap.size + 1]? = some (.cells #[.int .i64 0, .int .u32 0, .int .u32 0, .int .i64 0] 35 (0, 0)) ∧ Upd [] w1 w2 := by
 have u := ((Upd.refl [] w1).alloc (.cells St.zero.cells 28)).alloc (.cells #[.int .i64 0, .int .u32 0, .int .u32 0, .int .i64 0] 35)
 subst hw
 have u2 := (Upd.refl [w1.heap.size] ((w1.alloc (.cells St.zero.cells 28)).alloc (.cells #[.int .i64 0, .int .u32 0, .int .u32 0, .int .i64 0] 35))).setCells (q := w1.heap.size) (.inl (by simp)) T.cells.toList 0
 exact ⟨Ybk T (heap_alloc2_old w1 _ _) (St.size _), u2.get (heap_alloc2_new w1 (.cells St.zero.cells 28) (.cells #[.int .i64 0, .int .u32 0, .int .u32 0, .int .i64 0] 35)) (by simp), u.also u2 (by simp)⟩
theorem Kn.set {p1 p2 p3 : Nat × Obj} {b : Nat} (h : Kn w a pb M (p1 :: p2 :: p3 :: (b, .cells T.cells 28 (0, 0)) :: L) w1) (k : Nat) (hk : k < 8) (v : Int) : Kn w a pb M (p1 :: p2 :: p3 :: (b, .cells (T.setR k v).cells 28 (0, 0)) :: L) (w1.setCell ⟨b, k, none⟩ (.int .u32 v)) := by
 have hb := h.t (b, .cells T.cells 28 (0, 0)) (by simp)
 have u := (Upd.refl [b] w1).setCell (p := ⟨b, k, none⟩) (.inl (by simp)) (.int .u32 v)
 have hs := h.s
 simp only [List.pairwise_cons] at hs
 have hn : ∀ p, (p = p1 ∨ p = p2 ∨ p = p3 ∨ p ∈ L) → p.1 ∉ [b] := by
  intro p hp hh
  simp only [List.mem_singleton] at hh
  rcases hp with rfl | rfl | rfl | hp
  ·have := hs.1 (b, .cells T.cells 28 (0, 0)) (by simp); dsimp only at this; omega
  ·have := hs.2.1 (b, .cells T.cells 28 (0, 0)) (by simp); dsimp only at this; omega
  ·have := hs.2.2.1 (b, .cells T.cells 28 (0, 0)) (by simp); dsimp only at this; omega
  ·have := hs.2.2.2.1 p hp; omega
 refine ⟨h.m.keep u (by simpa using fun e => hb.2.2 e.symm) (by simpa using fun e => hb.2.1 e.symm), ?_, fun p hp => ?_, ?_, fun p hp => ?_, h.l, fun p hp => ?_⟩
 ·exact h.u.also u (fun x hx => .inr (by simp only [List.mem_singleton] at hx; rw [hx]; exact h.w (b, .cells T.cells 28 (0, 0)) (by simp)))
 ·simp only [List.mem_cons] at hp
  rcases hp with rfl | rfl | rfl | rfl | hp
  ·exact u.get (h.v _ (by simp)) (hn _ (.inl rfl))
  ·exact u.get (h.v _ (by simp)) (hn _ (.inr (.inl rfl)))
  ·exact u.get (h.v _ (by simp)) (hn _ (.inr (.inr (.inl rfl))))
  ·dsimp only; rw [← St.cells_setR T k v hk]; exact Yh (h.v (b, .cells T.cells 28 (0, 0)) (by simp)) k _
  ·exact u.get (h.v _ (by simp [hp])) (hn _ (.inr (.inr (.inr hp))))
 ·simp only [List.pairwise_cons]
  refine ⟨fun q hq => ?_, fun q hq => ?_, fun q hq => ?_, hs.2.2.2.1, hs.2.2.2.2⟩
  all_goals
   simp only [List.mem_cons] at hq
  ·rcases hq with rfl | rfl | rfl | hq
   ·exact hs.1 _ (by simp)
   ·exact hs.1 _ (by simp)
   ·exact hs.1 (b, .cells T.cells 28 (0, 0)) (by simp)
   ·exact hs.1 _ (by simp [hq])
  ·rcases hq with rfl | rfl | hq
   ·exact hs.2.1 _ (by simp)
   ·exact hs.2.1 (b, .cells T.cells 28 (0, 0)) (by simp)
   ·exact hs.2.1 _ (by simp [hq])
  ·rcases hq with rfl | hq
   ·exact hs.2.2.1 (b, .cells T.cells 28 (0, 0)) (by simp)
   ·exact hs.2.2.1 _ (by simp [hq])
 ·simp only [List.mem_cons] at hp
  rcases hp with rfl | rfl | rfl | rfl | hp
  ·exact ⟨Nat.lt_of_lt_of_le (h.t _ (by simp)).1 u.size, (h.t _ (by simp)).2⟩
  ·exact ⟨Nat.lt_of_lt_of_le (h.t _ (by simp)).1 u.size, (h.t _ (by simp)).2⟩
  ·exact ⟨Nat.lt_of_lt_of_le (h.t _ (by simp)).1 u.size, (h.t _ (by simp)).2⟩
  ·exact ⟨Nat.lt_of_lt_of_le hb.1 u.size, hb.2⟩
  ·exact ⟨Nat.lt_of_lt_of_le (h.t _ (by simp [hp])).1 u.size, (h.t _ (by simp [hp])).2⟩
 ·simp only [List.mem_cons] at hp
  rcases hp with rfl | rfl | rfl | rfl | hp
  ·exact h.w _ (by simp)
  ·exact h.w _ (by simp)
  ·exact h.w _ (by simp)
  ·exact h.w (b, .cells T.cells 28 (0, 0)) (by simp)
  ·exact h.w _ (by simp [hp])
theorem zero_new (hw : (w1.alloc (.cells St.zero.cells 28)).setCells w1.heap.size 0 St.zero.cells.toList = w2) : w2.heap[w1.heap.size]? = some (.cells St.zero.cells 28 (0, 0)) ∧ Upd [] w1 w2 := by
 subst hw
 exact ⟨Ybk St.zero (heap_alloc_new w1 _) (St.size _), ((Upd.refl [] w1).alloc _).setCells (.inr (Nat.le_refl _)) _ _⟩
theorem Kn.two (h : Kn w a pb M L w1) (h2 : w2.heap[w1.heap.size]? = some (.cells T.cells 28 (0, 0)) ∧ w2.heap[w1.heap.size + 1]? = some (.cells #[.int .i64 0, .int .u32 0, .int .u32 0, .int .i64 0] 35 (0, 0)) ∧ Upd [] w1 w2) :
  Kn w a pb M ((w1.heap.size + 1, .cells (Yo F) 35 (0, 0)) :: (w1.heap.size, .cells T.cells 28 (0, 0)) :: L) ((((w2.setCell ⟨w1.heap.size + 1, 0, none⟩ (.int .i64 F.k)).setCell ⟨w1.heap.size + 1, 1, none⟩ (.int .u32 F.pc)).setCell ⟨w1.heap.size + 1, 2, none⟩ (.int .u32 F.a)).setCell ⟨w1.heap.size + 1, 3, none⟩ (.int .i64 F.wt)) := by
 have hpb : pb < w1.heap.size := by obtain ⟨C, _, hc⟩ := h.m.pg; exact Yj hc
 have hab : a < w1.heap.size := by obtain ⟨C, _, hc⟩ := h.m.hd; exact Yj hc
 have hs := h.u.size
 have u4 := Ya0 (S := [w1.heap.size + 1]) (b := w1.heap.size + 1) (Upd.refl _ w2) (.inl (by simp)) (.int .i64 F.k) (.int .u32 F.pc) (.int .u32 F.a) (.int .i64 F.wt)
 have hf := Ycu h2.2.1 (.int .i64 F.k) (.int .u32 F.pc) (.int .u32 F.a) (.int .i64 F.wt)
 have hl := Yj hf
 have u5 := h2.2.2.also (S' := [w1.heap.size + 1]) u4 (by simp)
 refine ⟨h.m.keep u5 (by simp) (by simp), h.u.also u5 (by simp), fun p hp => ?_, ?_, fun p hp => ?_, h.l, fun p hp => ?_⟩
 ·simp only [List.mem_cons] at hp
  rcases hp with rfl | rfl | hp
  ·exact hf
  ·exact u4.get h2.1 (by simp)
  ·exact u5.get (h.v p hp) (by simp)
 ·refine List.pairwise_cons.2 ⟨fun q hq => ?_, List.pairwise_cons.2 ⟨fun q hq => (h.t q hq).1, h.s⟩⟩
  simp only [List.mem_cons] at hq
  rcases hq with rfl | hq
  ·exact Nat.lt_succ_self _
  ·exact Nat.lt_succ_of_lt (h.t q hq).1
 ·simp only [List.mem_cons] at hp
  rcases hp with rfl | rfl | hp
  ·exact ⟨Nat.lt_of_lt_of_le (Yj h2.2.1) u4.size, by dsimp only; omega, by dsimp only; omega⟩
  ·exact ⟨Nat.lt_of_lt_of_le (Yj h2.1) u4.size, by dsimp only; omega, by dsimp only; omega⟩
  ·exact ⟨Nat.lt_of_lt_of_le (h.t p hp).1 u5.size, (h.t p hp).2⟩
 ·simp only [List.mem_cons] at hp
  rcases hp with rfl | rfl | hp
  ·exact Nat.le_succ_of_le hs
  ·exact hs
  ·exact h.w p hp
end
theorem sk_g10 : Yda.cells[0]? = some (.int .u32 1) := by rw [St.cR Yda 0 (by decide)]; show some (Value.int .u32 (Yb1.R 0)) = _; rw [Yf8.1]
theorem sk_g18 : Yda.cells[8]? = some (.int .u32 1) := by show some (Value.int .u32 Yb1.pc) = _; rw [Yf8.2.1]
theorem sk_g38 : Yb1.cells[8]? = some (.int .u32 1) := by show some (Value.int .u32 Yb1.pc) = _; rw [Yf8.2.1]
theorem sk_g44 : Ydl.cells[4]? = some (.int .u32 96) := by rw [St.cR Ydl 4 (by decide), sk_s3.1]
theorem sk_g58 : skS4.cells[8]? = some (.int .u32 4) := by show some (Value.int .u32 skS4.pc) = _; rw [sk_s3.2.2]
theorem Yhu (w : World) : Calls Tryz.prog 12 #[] w fun e w' => e = .returned (.bool true) ∧ Upd [] w w' := by
 have tok : True := trivial
 go_enter Tryz.func12, Tryz.ntmps12
 go_wp2_with (first | (have _t := tok; clear _t; go_at_call 13; refine (Yjc _).mono ?_; rintro e w1 ⟨a, pb, rfl, ha, hp, hM1, hu1⟩; clear tok) | (have _t := hM1; clear _t; go_at_call 14; refine (Yje Mem.zero a pb 0 1 7 _ hM1 (by decide)).mono ?_; rintro e w2 ⟨rfl, hM2, hu2⟩; rw [sk_map, Ygy]; clear hM1) | (have _t := hM2; clear _t; go_at_call 20; refine (Poke_any skMap a pb 0 _ [64, 80, 205, 128] w2.heap.size _ (hM2.keep ((Upd.refl [] w2).alloc _) (by simp) (by simp)) (by decide) (by decide) (Yn9 w2 [64, 80, 205, 128] _ _ rfl) (by obtain ⟨C, _, hc⟩ := hM2.pg; have := Yj hc; omega) (getDq_ok (by decide)) (by simp [maxLen])).mono ?_; rintro e w3 ⟨rfl, hM3, hu3⟩; rw [sk_poke, Ygy]; have hS : ∀ x, x ∈ [pb] → x ∈ ([] : List Nat) ∨ w.heap.size ≤ x := (by intro x hx; simp only [List.mem_singleton] at hx; omega); have K3 := Yh_ (show Kn w a pb Ya9 [] w3 from ⟨hM3, ((hu1.also hu2 hS).alloc (.cells #[.int .u8 64, .int .u8 80, .int .u8 205, .int .u8 128] 5)).also hu3 hS, by simp, by simp, by simp, hp, by simp⟩); clear hM2 hu1 hu2 hu3 hS ha hp) | (have _t := K3; clear _t; refine Ye 28 rfl ?_; refine Ya5 St.zero w3.heap.size rfl _ _ rfl rfl rfl (heap_alloc_new w3 (.cells St.zero.cells 28)) rfl ?_; intro wz hw; have hz := zero_new hw; have KZ := Yh_ (And.intro (K3.out.step (K3.out.m.keep hz.2 (by simp) (by simp)) (hz.2.mono (by simp))) hz.1); clear hw hz K3) | (have _t := KZ; clear _t; refine Yar 28 rfl ?_; refine Yae St.zero w3.heap.size rfl _ rfl rfl KZ.out.2 ?_) | (have _t := KZ; clear _t; go_at_call 25; refine (sk_step1 KZ.out.1.m).mono ?_; rintro e w4 ⟨rfl, hm, hu⟩; unfold Flt.val Flt.zero; have K4 := Yh_ (KZ.out.1.step hm hu); clear hm hu KZ) | (have _t := K4; clear _t; refine Ye 28 rfl ?_; refine Ya5 Yb1 w4.heap.size rfl _ _ rfl rfl rfl (heap_alloc2_old w4 (.cells St.zero.cells 28) (.cells #[.int .i64 0, .int .u32 0, .int .u32 0, .int .i64 0] 35)) rfl ?_; intro w5 hw; have h2 := Yik hw; have h3 := K4.out.two (F := Flt.zero) h2; dsimp only [Flt.zero] at h3; have c4 := Ya h2.2.1; have f4 := Yn h2.2.1; have K5 := Yh_ h3; clear hw h2 h3 K4) | (have _t := K5; clear _t; refine Yar 28 rfl ?_; refine Yae Yb1 w4.heap.size rfl _ rfl rfl (K5.out.v (w4.heap.size, .cells Yb1.cells 28 (0, 0)) (by simp)) ?_) | (have _t := K5; clear _t; go_at_call 25; refine (sk_step2 K5.out.m).mono ?_; rintro e w6 ⟨rfl, hm, hu⟩; unfold Flt.val; dsimp only; rw [Yio.2.1, Yio.2.2.1, Yio.2.2.2, Yf8.2.1]; have K6 := Yh_ (K5.out.step hm hu); clear hm hu K5 c4 f4) | (have _t := K6; clear _t; refine Ye 28 rfl ?_; refine Ya5 Yb1 w6.heap.size rfl _ _ rfl rfl rfl (heap_alloc2_old w6 (.cells St.zero.cells 28) (.cells #[.int .i64 0, .int .u32 0, .int .u32 0, .int .i64 0] 35)) rfl ?_; intro w7 hw; have h2 := Yik hw; have h3 := K6.out.two (F := ⟨1, 1, 4294967292, 2⟩) h2; dsimp only [Flt.zero] at h3; have c6 := Ya h2.2.1; have f6 := Yn h2.2.1; have K7 := Yh_ h3; clear hw h2 h3 K6; have c34 := Ya (K7.out.v (w4.heap.size, .cells Yb1.cells 28 (0, 0)) (by simp)) 4; rw [Yb1.cR 4 (by decide)] at c34; have f34 := Yn (K7.out.v (w4.heap.size, .cells Yb1.cells 28 (0, 0)) (by simp))) | (have _t := K7; clear _t; refine Yar 28 rfl ?_; have K7b := Yh_ (K7.out.set 4 (by decide) 100); refine Yae Yda w4.heap.size rfl _ rfl rfl (K7b.out.v (w4.heap.size, .cells Yda.cells 28 (0, 0)) (by simp [Yda])) ?_; clear K7 c34 f34) | (have _t := K7b; clear _t; go_at_call 25; refine (sk_step3 K7b.out.m).mono ?_; rintro e w8 ⟨rfl, hm, hu⟩; unfold Flt.val Flt.zero; have K8 := Yh_ (K7b.out.step hm hu); clear hm hu K7b c6 f6) | (have _t := K8; clear _t; refine Ye 28 rfl ?_; refine Ya5 Ydl w8.heap.size rfl _ _ rfl rfl rfl (heap_alloc2_old w8 (.cells St.zero.cells 28) (.cells #[.int .i64 0, .int .u32 0, .int .u32 0, .int .i64 0] 35)) rfl ?_; intro w9 hw; have h2 := Yik hw; have h3 := K8.out.two (F := Flt.zero) h2; dsimp only [Flt.zero] at h3; have c8 := Ya h2.2.1; have f8 := Yn h2.2.1; have K9 := Yh_ h3; clear hw h2 h3 K8) | (have _t := K9; clear _t; refine Yar 28 rfl ?_; refine Yae Ydl w8.heap.size rfl _ rfl rfl (K9.out.v (w8.heap.size, .cells Ydl.cells 28 (0, 0)) (by simp)) ?_) | (have _t := K9; clear _t; go_at_call 25; refine (sk_step4 K9.out.m).mono ?_; rintro e w10 ⟨rfl, hm, hu⟩; unfold Flt.val Flt.zero; have K10 := Yh_ (K9.out.step hm hu); clear hm hu K9 c8 f8) | (have _t := K10; clear _t; refine Ye 28 rfl ?_; refine Ya5 skS4 w10.heap.size rfl _ _ rfl rfl rfl (heap_alloc2_old w10 (.cells St.zero.cells 28) (.cells #[.int .i64 0, .int .u32 0, .int .u32 0, .int .i64 0] 35)) rfl ?_; intro w11 hw; have h2 := Yik hw; have h3 := K10.out.two (F := Flt.zero) h2; dsimp only [Flt.zero] at h3; have c10 := Ya h2.2.1; have f10 := Yn h2.2.1; have K11 := Yh_ h3; clear hw h2 h3 K10; have g1 := Ya (K11.out.v (w4.heap.size, .cells Yda.cells 28 (0, 0)) (by simp [Yda])); have g10 := g1 0; have g18 := g1 8; rw [sk_g10] at g10; rw [sk_g18] at g18; have g2 := Ya (K11.out.v (w6.heap.size + 1, .cells (Yo ⟨1, 1, 4294967292, 2⟩) 35 (0, 0)) (by simp)); unfold Yo at g2; dsimp only at g2; have g38 := Ya (K11.out.v (w6.heap.size, .cells Yb1.cells 28 (0, 0)) (by simp)) 8; rw [sk_g38] at g38; have g44 := Ya (K11.out.v (w8.heap.size, .cells Ydl.cells 28 (0, 0)) (by simp)) 4; rw [sk_g44] at g44; have g58 := Ya (K11.out.v (w10.heap.size, .cells skS4.cells 28 (0, 0)) (by simp)) 8; rw [sk_g58] at g58; clear g1))
 go_ret
 exact ⟨rfl, K11.out.u⟩
end
theorem Mem.write_none {M : Mem} {x bytes : Int} (h : M.bad x 2 (Yau bytes).toNat = none) : M.writeF x bytes = .agg #[.int .i64 0, .int .u32 0, .int .u32 0, .int .i64 0] ∧ M.writeK x bytes = true ∧ ∀ v, M.writeM x bytes v = M.putN x v (Yau bytes).toNat := by
 refine ⟨?_, ?_, fun v => ?_⟩
 ·rw [Mem.writeF, h]
 ·rw [Mem.writeK, h]; rfl
 ·rw [Mem.writeM, h]
theorem Mem.read_none {M : Mem} {x bytes right : Int} (h : M.bad x (Ybn right) (Yau bytes).toNat = none) : M.readV x bytes right = M.get x (Yau bytes).toNat ∧ M.readF x bytes right = .agg #[.int .i64 0, .int .u32 0, .int .u32 0, .int .i64 0] ∧ M.readK x bytes right = true := by
 refine ⟨?_, ?_, ?_⟩
 ·rw [Mem.readV, h]
 ·rw [Mem.readF, h]
 ·rw [Mem.readK, h]; rfl
def k1 : Mem := Mem.zero.mapN (0 : Int).toNat (1 : Int).toNat 3
def k2 : Mem := k1.putN 0 16909060 (Yau 4).toNat
theorem Mem.putN_lt (M : Mem) (x v : Int) (n : Nat) (h : x + n ≤ 4294967296) (h0 : 0 ≤ x) (k : Nat) : (M.putN x v n).B k = if x ≤ k ∧ (k : Int) < x + n then v / 2 ^ (8 * (k - x.toNat)) % 256 else M.B k := by
 induction n with
 |zero => rw [Mem.putN, if_neg (by omega)]
 |succ n ih =>
  simp only [Mem.putN, Mem.setB]
  have e : (Yac x n).toNat = x.toNat + n := by unfold Yac; omega
  rw [e]
  by_cases hk : k = x.toNat + n
  ·rw [if_pos hk, if_pos (by omega), hk, Nat.add_sub_cancel_left]
  ·rw [if_neg hk, ih (by omega)]
   by_cases hl : x ≤ k ∧ (k : Int) < x + n
   ·rw [if_pos hl, if_pos (by omega)]
   ·rw [if_neg hl, if_neg (by omega)]
theorem can_page {M : Mem} {x r : Int} (h0 : 0 ≤ x) (h1 : x < 16384) (hr : bits .and .i64 (M.R (x / 256).toNat) r ≠ 0) : M.can x r = true := by
 simp only [Mem.can, Bool.and_eq_true, decide_eq_true_eq, Bool.not_eq_true', beq_eq_false_iff_ne]
 exact ⟨h1, hr⟩
theorem Yd4 {n : Int} (h : (Lit.int .u32 n).wf = true) : 0 ≤ n ∧ n < 4294967296 := by
 simp [Lit.wf, IntKind.min, IntKind.max, IntKind.signed, IntKind.bits] at h; omega
theorem wf_u8 {n : Int} (h : (Lit.int .u8 n).wf = true) : 0 ≤ n ∧ n < 256 := by
 simp [Lit.wf, IntKind.min, IntKind.max, IntKind.signed, IntKind.bits] at h; omega
theorem Mem.get4 (M : Mem) (x : Nat) (hx : x < 4294967000) : M.get x (Yau 4).toNat = M.B x + M.B (x + 1) * 256 + M.B (x + 2) * 65536 + M.B (x + 3) * 16777216 := by
 have e : (Yau 4).toNat = 4 := by decide
 have q : ∀ i, i < 4 → (Yac (x : Int) i).toNat = x + i := fun i hi => by unfold Yac; omega
 rw [e]
 simp only [Mem.get]
 rw [q 0 (by decide), q 1 (by decide), q 2 (by decide), q 3 (by decide)]
 simp
theorem put4_get (M : Mem) (x : Nat) (v : Int) (hx : x < 4294967000) (h0 : 0 ≤ v) (h1 : v < 4294967296) : (M.putN x v (Yau 4).toNat).get x (Yau 4).toNat = v := by
 have e : ((Yau 4).toNat : Int) = 4 := by decide
 have en : (Yau 4).toNat = 4 := by decide
 rw [Mem.get4 _ _ hx, Mem.putN_lt _ _ _ _ (by rw [en]; omega) (by omega), Mem.putN_lt _ _ _ _ (by rw [en]; omega) (by omega), Mem.putN_lt _ _ _ _ (by rw [en]; omega) (by omega), Mem.putN_lt _ _ _ _ (by rw [en]; omega) (by omega), e]
 rw [if_pos (by omega), if_pos (by omega), if_pos (by omega), if_pos (by omega)]
 rw [show 8 * (x - (x : Int).toNat) = 0 from by omega, show 8 * (x + 1 - (x : Int).toNat) = 8 from by omega, show 8 * (x + 2 - (x : Int).toNat) = 16 from by omega, show 8 * (x + 3 - (x : Int).toNat) = 24 from by omega]
 simp only [Nat.mul_zero, Int.reducePow]
 omega
theorem Yg6 (M : Mem) (x : Nat) (n : Nat) (r : Int) (hx : x + n ≤ 16384) (hp : ∀ t, t < n → bits .and .i64 (M.R ((x + t) / 256)) r ≠ 0) : M.bad x r n = none := by
 refine Yh9 M x r n fun t ht => ?_
 have e : Yac (x : Int) t = ((x + t : Nat) : Int) := by unfold Yac; omega
 rw [e]
 refine can_page (by omega) (by omega) ?_
 rw [show (((x + t : Nat) : Int) / 256).toNat = (x + t) / 256 from by omega]
 exact hp t ht
section
section
variable {w w1 w2 : World} {a pb : Nat} {M M2 : Mem} {L : List (Nat × Obj)}
theorem Kn.get (h : Kn w a pb M L w1) (n : Nat) {b : Nat} {o : Obj} (hn : L[n]? = some (b, o)) : w1.heap[b]? = some o :=
 h.v (b, o) (List.mem_of_getElem? hn)
theorem Kn.put (h : Kn w a pb M L w1) (n : Nat) {b : Nat} {o o' : Obj} (hn : L[n]? = some (b, o)) (u : Upd [b] w1 w2) (ho : w2.heap[b]? = some o') : Kn w a pb M (L.set n (b, o')) w2 := by
 have hb := h.t (b, o) (List.mem_of_getElem? hn)
 have hw := h.w (b, o) (List.mem_of_getElem? hn)
 obtain ⟨hl, he⟩ := List.getElem?_eq_some_iff.1 hn
 have hs := List.pairwise_iff_getElem.1 h.s
 have hc : ∀ p, p ∈ L.set n (b, o') → p = (b, o') ∨ (p ∈ L ∧ p.1 ≠ b) := by
  intro p hp
  obtain ⟨j, hj⟩ := List.mem_iff_getElem?.1 hp
  rw [List.getElem?_set] at hj
  by_cases e : n = j
  ·subst e
   simp only [if_true, hl] at hj
   exact .inl (Option.some.inj hj).symm
  ·simp only [e, if_false] at hj
   obtain ⟨hl2, he2⟩ := List.getElem?_eq_some_iff.1 hj
   refine .inr ⟨List.mem_of_getElem? hj, fun hh => ?_⟩
   rcases Nat.lt_or_gt_of_ne e with h1 | h1
   ·have := hs n j hl hl2 h1; rw [he, he2, hh] at this; exact Nat.lt_irrefl _ this
   ·have := hs j n hl2 hl h1; rw [he, he2, hh] at this; exact Nat.lt_irrefl _ this
 refine ⟨h.m.keep u (by simpa using fun e => hb.2.2 e.symm) (by simpa using fun e => hb.2.1 e.symm), h.u.also u (fun x hx => .inr (by rw [List.mem_singleton.1 hx]; exact hw)), fun p hp => ?_, ?_, fun p hp => ?_, h.l, fun p hp => ?_⟩
 ·rcases hc p hp with rfl | ⟨h1, h2⟩
  ·exact ho
  ·exact u.get (h.v p h1) (by simpa using h2)
 ·refine List.pairwise_iff_getElem.2 fun i j hi hj hij => ?_
  rw [List.length_set] at hi hj
  have h1 : ∀ q (hq : q < L.length) (hq2 : q < (L.set n (b, o')).length), ((L.set n (b, o'))[q]).1 = (L[q]).1 := by
   intro q hq hq2
   rw [List.getElem_set]
   split
   ·rename_i e; subst e; rw [he]
   ·rfl
  rw [h1 i hi (by rw [List.length_set]; exact hi), h1 j hj (by rw [List.length_set]; exact hj)]
  exact hs i j hi hj hij
 ·rcases hc p hp with rfl | ⟨h1, h2⟩
  ·exact ⟨Nat.lt_of_lt_of_le hb.1 u.size, hb.2⟩
  ·exact ⟨Nat.lt_of_lt_of_le (h.t p h1).1 u.size, (h.t p h1).2⟩
 ·rcases hc p hp with rfl | ⟨h1, h2⟩
  ·exact hw
  ·exact h.w p h1
theorem Kn.add (h : Kn w a pb M L w1) (u : Upd [] w1 w2) {b : Nat} {o : Obj} (hb : w1.heap.size ≤ b) (ho : w2.heap[b]? = some o) : Kn w a pb M ((b, o) :: L) w2 := by
 have hpb : pb < w1.heap.size := by obtain ⟨C, _, hc⟩ := h.m.pg; exact Yj hc
 have hab : a < w1.heap.size := by obtain ⟨C, _, hc⟩ := h.m.hd; exact Yj hc
 have hs := h.u.size
 refine ⟨h.m.keep u (by simp) (by simp), h.u.also u (by simp), fun p hp => ?_, List.pairwise_cons.2 ⟨fun q hq => Nat.lt_of_lt_of_le (h.t q hq).1 hb, h.s⟩, fun p hp => ?_, h.l, fun p hp => ?_⟩
 ·rcases List.mem_cons.1 hp with rfl | hp
  ·exact ho
  ·exact u.get (h.v p hp) (by simp)
 ·rcases List.mem_cons.1 hp with rfl | hp
  ·exact ⟨Yj ho, by dsimp only; omega, by dsimp only; omega⟩
  ·exact ⟨Nat.lt_of_lt_of_le (h.t p hp).1 u.size, (h.t p hp).2⟩
 ·rcases List.mem_cons.1 hp with rfl | hp
  ·exact Nat.le_trans hs hb
  ·exact h.w p hp
end
section
variable {w : World} {a pb : Nat} {M : Mem} {s : St}
end
end
section
open Go.WideShapes Go.ChangeShapes
theorem wf_u64 {n : Int} (h : (Lit.int .u64 n).wf = true) : 0 ≤ n ∧ n < 18446744073709551616 := by
 simp [Lit.wf, IntKind.min, IntKind.max, IntKind.signed, IntKind.bits] at h; omega
theorem Yoz {H : Type} {enc : TypeId × Value → H} {w : World} {base : Nat} {spare : Nat → Bool} {held : Bool} {r : Reach} {b0 : Nat} {v : Value} {d : DataW H} {p : List MemPlace}
  (hv : Value.okWide Tryz.prog w r b0 28 v) (h : DataW.Trod enc Tryz.prog w base spare held 28 v d p) : ∃ s : St, v = .agg s.cells ∧ s.Ok := by
 obtain ⟨cs, rfl, hs, hc⟩ := Ylx (t := 28) (by kernel_rfl) hv h
 have hs : cs.size = 17 := hs.trans (by kernel_rfl)
 obtain ⟨_, e0, z0, rfl, w0⟩ := hc 8 0 (.int .u32) (by kernel_rfl)
 obtain ⟨_, e1, z1, rfl, w1⟩ := hc 8 1 (.int .u32) (by kernel_rfl)
 obtain ⟨_, e2, z2, rfl, w2⟩ := hc 8 2 (.int .u32) (by kernel_rfl)
 obtain ⟨_, e3, z3, rfl, w3⟩ := hc 8 3 (.int .u32) (by kernel_rfl)
 obtain ⟨_, e4, z4, rfl, w4⟩ := hc 8 4 (.int .u32) (by kernel_rfl)
 obtain ⟨_, e5, z5, rfl, w5⟩ := hc 8 5 (.int .u32) (by kernel_rfl)
 obtain ⟨_, e6, z6, rfl, w6⟩ := hc 8 6 (.int .u32) (by kernel_rfl)
 obtain ⟨_, e7, z7, rfl, w7⟩ := hc 8 7 (.int .u32) (by kernel_rfl)
 obtain ⟨_, e8, z8, rfl, w8⟩ := hc 8 8 (.int .u32) (by kernel_rfl)
 obtain ⟨_, e9, z9, rfl⟩ := hc 8 9 .bool (by kernel_rfl)
 obtain ⟨_, e10, z10, rfl⟩ := hc 8 10 .bool (by kernel_rfl)
 obtain ⟨_, e11, z11, rfl⟩ := hc 8 11 .bool (by kernel_rfl)
 obtain ⟨_, e12, z12, rfl⟩ := hc 8 12 .bool (by kernel_rfl)
 obtain ⟨_, e13, z13, rfl⟩ := hc 8 13 .bool (by kernel_rfl)
 obtain ⟨_, e14, z14, rfl⟩ := hc 8 14 .bool (by kernel_rfl)
 obtain ⟨_, e15, z15, rfl⟩ := hc 8 15 .bool (by kernel_rfl)
 obtain ⟨_, e16, z16, rfl, w16⟩ := hc 8 16 (.int .u64) (by kernel_rfl)
 have w0 := Yd4 w0
 have w1 := Yd4 w1
 have w2 := Yd4 w2
 have w3 := Yd4 w3
 have w4 := Yd4 w4
 have w5 := Yd4 w5
 have w6 := Yd4 w6
 have w7 := Yd4 w7
 have w8 := Yd4 w8
 have w16 := wf_u64 w16
 refine ⟨⟨fun i => if i = 0 then z0 else if i = 1 then z1 else if i = 2 then z2 else if i = 3 then z3 else if i = 4 then z4 else if i = 5 then z5 else if i = 6 then z6 else if i = 7 then z7 else 0, z8, z9, z10, z11, z12, z13, z14, z15, z16⟩, ?_, ?_, ?_, ?_⟩
 ·congr 1
  apply Array.ext_getElem?
  intro j
  by_cases hj : j < 17
  ·match j, hj with
   |0, _ => exact e0
   |1, _ => exact e1
   |2, _ => exact e2
   |3, _ => exact e3
   |4, _ => exact e4
   |5, _ => exact e5
   |6, _ => exact e6
   |7, _ => exact e7
   |8, _ => exact e8
   |9, _ => exact e9
   |10, _ => exact e10
   |11, _ => exact e11
   |12, _ => exact e12
   |13, _ => exact e13
   |14, _ => exact e14
   |15, _ => exact e15
   |16, _ => exact e16
   |j + 17, h => omega
  ·rw [Array.getElem?_eq_none (by omega), Array.getElem?_eq_none (by rw [St.size]; omega)]
 ·intro i
  simp only
  repeat' split
  all_goals omega
 ·exact w8
 ·exact w16
end
section
section
variable {w w0 w1 w2 : World} {a pb : Nat} {M M2 : Mem} {L : List (Nat × Obj)} {T s' : St} {b : Nat}
theorem Kn.start1 {c : Array Value} {t : TypeId} (hu0 : Upd [] (w.alloc (.cells c t)) w0) (ha : w0.heap.size ≤ a) (hp : w0.heap.size ≤ pb) (hM : Yk w1 a pb M) (hu1 : Upd [] w0 w1) : Kn w a pb M [(w.heap.size, .cells c t (0, 0))] w1 := by
 have u := ((Upd.refl [] w).alloc (.cells c t)).also hu0 (by simp)
 have h0 := hu0.get (heap_alloc_new w (.cells c t)) (by simp)
 have hl := Yj h0
 have hs := hu1.size
 refine ⟨hM, u.also hu1 (by simp), fun p hp => ?_, List.pairwise_singleton _ _, fun p hp => ?_, Nat.le_trans u.size hp, fun p hp => ?_⟩
 ·rw [List.mem_singleton.1 hp]; exact hu1.get h0 (by simp)
 ·rw [List.mem_singleton.1 hp]; dsimp only; omega
 ·rw [List.mem_singleton.1 hp]; exact Nat.le_refl _
end
end
section
structure Kq (w : World) (a pb : Nat) (M : Mem) (L : List (Nat × Obj)) (w1 : World) : Prop where
 m : Yk w1 a pb M
 u : Upd [] w w1
 v : ∀ p ∈ L, w1.heap[p.1]? = some p.2
 s : L.Pairwise (fun p q => p.1 ≠ q.1)
 t : ∀ p ∈ L, p.1 ≠ pb ∧ p.1 ≠ a
 l : w.heap.size ≤ pb
 w : ∀ p ∈ L, w.heap.size ≤ p.1
section
variable {w w0 w1 w2 : World} {a pb b : Nat} {M M2 : Mem} {L : List (Nat × Obj)} {T s' : St} {o o' : Obj}
theorem Kq.of (h : Kn w a pb M L w1) : Kq w a pb M L w1 := ⟨h.m, h.u, h.v, h.s.imp (fun h => Nat.ne_of_gt h), fun p hp => (h.t p hp).2, h.l, h.w⟩
theorem Kq.step (h : Kq w a pb M L w1) (hm : Yk w2 a pb M2) (u : Upd [pb] w1 w2) : Kq w a pb M2 L w2 :=
 ⟨hm, h.u.also u (by have := h.l; simp <;> omega), fun p hp => u.get (h.v p hp) (by have := (h.t p hp).1; simpa using this), h.s, h.t, h.l, h.w⟩
theorem Kq.quiet (h : Kq w a pb M L w1) (u : Upd [] w1 w2) : Kq w a pb M L w2 :=
 ⟨h.m.keep u (by simp) (by simp), h.u.also u (by simp), fun p hp => u.get (h.v p hp) (by simp), h.s, h.t, h.l, h.w⟩
theorem Kq.get (h : Kq w a pb M L w1) (n : Nat) (hn : L[n]? = some (b, o)) : w1.heap[b]? = some o := h.v (b, o) (List.mem_of_getElem? hn)
theorem Kq.lts (h : Kq w a pb M L w1) : (∀ p ∈ L, p.1 < w1.heap.size) ∧ a < w1.heap.size ∧ pb < w1.heap.size :=
 ⟨fun p hp => Yj (h.v p hp), by obtain ⟨C, _, hc⟩ := h.m.hd; exact Yj hc, by obtain ⟨C, _, hc⟩ := h.m.pg; exact Yj hc⟩
theorem Kq.put (h : Kq w a pb M L w1) (n : Nat) (hn : L[n]? = some (b, o)) (u : Upd [b] w1 w2) (ho : w2.heap[b]? = some o') : Kq w a pb M (L.set n (b, o')) w2 := by
 have hb := h.t (b, o) (List.mem_of_getElem? hn)
 have hw := h.w (b, o) (List.mem_of_getElem? hn)
 obtain ⟨hl, he⟩ := List.getElem?_eq_some_iff.1 hn
 have hs := List.pairwise_iff_getElem.1 h.s
 have hc : ∀ p, p ∈ L.set n (b, o') → p = (b, o') ∨ (p ∈ L ∧ p.1 ≠ b) := by
  intro p hp
  obtain ⟨j, hj⟩ := List.mem_iff_getElem?.1 hp
  rw [List.getElem?_set] at hj
  by_cases e : n = j
  ·subst e
   simp only [if_true, hl] at hj
   exact .inl (Option.some.inj hj).symm
  ·simp only [e, if_false] at hj
   obtain ⟨hl2, he2⟩ := List.getElem?_eq_some_iff.1 hj
   refine .inr ⟨List.mem_of_getElem? hj, fun hh => ?_⟩
   rcases Nat.lt_or_gt_of_ne e with h1 | h1
   ·have := hs n j hl hl2 h1; rw [he, he2] at this; exact this hh.symm
   ·have := hs j n hl2 hl h1; rw [he, he2] at this; exact this hh
 refine ⟨h.m.keep u (by simpa using fun e => hb.2 e.symm) (by simpa using fun e => hb.1 e.symm), h.u.also u (fun x hx => .inr (by rw [List.mem_singleton.1 hx]; exact hw)), fun p hp => ?_, ?_, fun p hp => ?_, h.l, fun p hp => ?_⟩
 ·rcases hc p hp with rfl | ⟨h1, h2⟩
  ·exact ho
  ·exact u.get (h.v p h1) (by simpa using h2)
 ·refine List.pairwise_iff_getElem.2 fun i j hi hj hij => ?_
  rw [List.length_set] at hi hj
  have h1 : ∀ q (hq : q < L.length) (hq2 : q < (L.set n (b, o')).length), ((L.set n (b, o'))[q]).1 = (L[q]).1 := by
   intro q hq hq2
   rw [List.getElem_set]
   split
   ·rename_i e; subst e; rw [he]
   ·rfl
  rw [h1 i hi (by rw [List.length_set]; exact hi), h1 j hj (by rw [List.length_set]; exact hj)]
  exact hs i j hi hj hij
 ·rcases hc p hp with rfl | ⟨h1, h2⟩
  ·exact hb
  ·exact h.t p h1
 ·rcases hc p hp with rfl | ⟨h1, h2⟩
  ·exact hw
  ·exact h.w p h1
theorem Kq.add (h : Kq w a pb M L w1) (hb : w.heap.size ≤ b) (hn : (∀ p ∈ L, p.1 ≠ b) ∧ b ≠ pb ∧ b ≠ a) (ho : w1.heap[b]? = some o) : Kq w a pb M ((b, o) :: L) w1 := by
 refine ⟨h.m, h.u, fun p hp => ?_, List.pairwise_cons.2 ⟨fun q hq e => hn.1 q hq e.symm, h.s⟩, fun p hp => ?_, h.l, fun p hp => ?_⟩
 ·rcases List.mem_cons.1 hp with rfl | hp
  ·exact ho
  ·exact h.v p hp
 ·rcases List.mem_cons.1 hp with rfl | hp
  ·exact ⟨hn.2.1, hn.2.2⟩
  ·exact h.t p hp
 ·rcases List.mem_cons.1 hp with rfl | hp
  ·exact hb
  ·exact h.w p hp
end
section
variable {w w1 w2 : World} {a pb g : Nat} {M : Mem} {L : List (Nat × Obj)} {T : St} {F : Flt}
theorem Kq.upd (h : Kq w a pb M L w1) (u : Upd [g] w1 w2) (hg : w.heap.size ≤ g) (hn : (∀ p ∈ L, p.1 ≠ g) ∧ g ≠ pb ∧ g ≠ a) : Kq w a pb M L w2 :=
 ⟨h.m.keep u (by simpa using fun e => hn.2.2 e.symm) (by simpa using fun e => hn.2.1 e.symm), h.u.also u (fun x hx => .inr (by rw [List.mem_singleton.1 hx]; exact hg)), fun p hp => u.get (h.v p hp) (by simpa using hn.1 p hp), h.s, h.t, h.l, h.w⟩
theorem Kq.two (h : Kq w a pb M L w1) (h2 : w2.heap[w1.heap.size]? = some (.cells T.cells 28 (0, 0)) ∧ w2.heap[w1.heap.size + 1]? = some (.cells #[.int .i64 0, .int .u32 0, .int .u32 0, .int .i64 0] 35 (0, 0)) ∧ Upd [] w1 w2) :
  Kq w a pb M ((w1.heap.size + 1, .cells (Yo F) 35 (0, 0)) :: (w1.heap.size, .cells T.cells 28 (0, 0)) :: L) ((((w2.setCell ⟨w1.heap.size + 1, 0, none⟩ (.int .i64 F.k)).setCell ⟨w1.heap.size + 1, 1, none⟩ (.int .u32 F.pc)).setCell ⟨w1.heap.size + 1, 2, none⟩ (.int .u32 F.a)).setCell ⟨w1.heap.size + 1, 3, none⟩ (.int .i64 F.wt)) := by
 have hl := h.lts
 have hu := h.u.size
 have u4 := Ya0 (S := [w1.heap.size + 1]) (b := w1.heap.size + 1) (Upd.refl _ w2) (.inl (by simp)) (.int .i64 F.k) (.int .u32 F.pc) (.int .u32 F.a) (.int .i64 F.wt)
 have hf := Ycu h2.2.1 (.int .i64 F.k) (.int .u32 F.pc) (.int .u32 F.a) (.int .i64 F.wt)
 have h3 := (h.quiet h2.2.2).add (b := w1.heap.size) hu ⟨fun p hp => by have := hl.1 p hp; omega, by omega, by omega⟩ h2.1
 have hn : ∀ p ∈ ((w1.heap.size, Obj.cells T.cells 28 (0, 0)) :: L), p.1 ≠ w1.heap.size + 1 := by
  intro p hp
  rcases List.mem_cons.1 hp with rfl | hp
  ·dsimp only; omega
  ·have := hl.1 p hp; omega
 exact (h3.upd u4 (by omega) ⟨hn, by omega, by omega⟩).add (by omega) ⟨hn, by omega, by omega⟩ hf
end
structure Kd (w : World) (a pb : Nat) (M M2 : Mem) (L : List (Nat × Obj)) (n0 : Nat) (S : St) (F : Flt) (c e f p q : Nat) (dn : Nat → Bool) (r : Nat → Value) (w1 : World) : Prop where
 k : Kq w a pb (cond (dn c) M2 M) L w1
 b : n0 ≤ w1.heap.size
 ln : (∀ p ∈ L, p.1 < n0) ∧ a < n0 ∧ pb < n0 ∧ w.heap.size ≤ n0
 x : dn e = true → ∃ g, r e = .pointer (some ⟨g, 0, none⟩) ∧ n0 ≤ g ∧ w1.heap[g]? = some (.cells (cond (dn p) S.cells St.zero.cells) 28 (0, 0))
 y : dn f = true → ∃ g, r f = .pointer (some ⟨g, 0, none⟩) ∧ n0 ≤ g ∧ w1.heap[g]? = some (.cells (cond (dn q) (Yo F) (Yo Flt.zero)) 35 (0, 0))
 xo : dn p = true → dn e = true
 yo : dn q = true → dn f = true
theorem Yex : (28 : TypeId) ≠ 35 := by decide
theorem wr_st (c : Array Value) (S : St) (hc : c.size = 17) : wr c 0 S.cells.toList = S.cells := Ykv c S hc
section
variable {w w1 w2 : World} {a pb n0 : Nat} {M M2 : Mem} {L : List (Nat × Obj)} {S : St} {F : Flt} {c e f p q : Nat} {dn : Nat → Bool} {r : Nat → Value}
theorem Kd.start (h : Kq w a pb M L w1) (M2 : Mem) (S : St) (F : Flt) (c e f p q : Nat) (r : Nat → Value) : Kd w a pb M M2 L w1.heap.size S F c e f p q (fun _ => false) r w1.drew :=
 ⟨h.quiet (Upd.refl [] w1).drew, ((Upd.refl [] w1).drew).size, ⟨h.lts.1, h.lts.2.1, h.lts.2.2, h.u.size⟩, fun h => (by cases h), fun h => (by cases h), fun h => (by cases h), fun h => (by cases h)⟩
theorem Kd.quiet (h : Kd w a pb M M2 L n0 S F c e f p q dn r w1) (u : Upd [] w1 w2) (j : Nat) (h1 : c ≠ j) (h2 : e ≠ j) (h3 : f ≠ j) (h4 : p ≠ j) (h5 : q ≠ j) : Kd w a pb M M2 L n0 S F c e f p q (Yah dn j) r w2 := by
 refine ⟨by rw [Yp h1]; exact h.k.quiet u, Nat.le_trans h.b u.size, h.ln, fun hx => ?_, fun hx => ?_, fun hx => ?_, fun hx => ?_⟩
 ·rw [Yp h2] at hx; rw [Yp h4]; obtain ⟨g, e1, e2, e3⟩ := h.x hx; exact ⟨g, e1, e2, u.get e3 (by simp)⟩
 ·rw [Yp h3] at hx; rw [Yp h5]; obtain ⟨g, e1, e2, e3⟩ := h.y hx; exact ⟨g, e1, e2, u.get e3 (by simp)⟩
 ·rw [Yp h4] at hx; rw [Yp h2]; exact h.xo hx
 ·rw [Yp h5] at hx; rw [Yp h3]; exact h.yo hx
theorem Kd.same (h : Kd w a pb M M2 L n0 S F c e f p q dn r w1) (j : Nat) (h1 : c ≠ j) (h2 : e ≠ j) (h3 : f ≠ j) (h4 : p ≠ j) (h5 : q ≠ j) : Kd w a pb M M2 L n0 S F c e f p q (Yah dn j) r w1 := h.quiet (Upd.refl [] w1) j h1 h2 h3 h4 h5
theorem Kd.call (h : Kd w a pb M M2 L n0 S F c e f p q dn r w1) (hm : Yk w2 a pb M2) (u : Upd [pb] w1 w2) (h2 : e ≠ c) (h3 : f ≠ c) (h4 : p ≠ c) (h5 : q ≠ c) : Kd w a pb M M2 L n0 S F c e f p q (Yah dn c) r w2 := by
 have hl := h.ln
 refine ⟨by rw [Yc4]; exact h.k.step hm u, Nat.le_trans h.b u.size, h.ln, fun hx => ?_, fun hx => ?_, fun hx => ?_, fun hx => ?_⟩
 ·rw [Yp h2] at hx; rw [Yp h4]; obtain ⟨g, e1, e2, e3⟩ := h.x hx; exact ⟨g, e1, e2, u.get e3 (by simp; omega)⟩
 ·rw [Yp h3] at hx; rw [Yp h5]; obtain ⟨g, e1, e2, e3⟩ := h.y hx; exact ⟨g, e1, e2, u.get e3 (by simp; omega)⟩
 ·rw [Yp h4] at hx; rw [Yp h2]; exact h.xo hx
 ·rw [Yp h5] at hx; rw [Yp h3]; exact h.yo hx
theorem Kd.layS (h : Kd w a pb M M2 L n0 S F c e f p q dn r w1) (hd : dn e = false) (h1 : c ≠ e) (h3 : f ≠ e) (h4 : p ≠ e) (h5 : q ≠ e) : Kd w a pb M M2 L n0 S F c e f p q (Yah dn e) (Ycw r e (.pointer (some ⟨w1.heap.size, 0, none⟩))) (w1.alloc (.cells St.zero.cells 28)) := by
 have hp : dn p = false := by
  cases hh : dn p with
  |false => rfl
  |true => rw [h.xo hh] at hd; cases hd
 have u := (Upd.refl [] w1).alloc (.cells St.zero.cells 28)
 refine ⟨by rw [Yp h1]; exact h.k.quiet u, Nat.le_trans h.b u.size, h.ln, fun _ => ⟨_, Yf9, h.b, ?_⟩, fun hx => ?_, fun _ => Yc4, fun hx => ?_⟩
 ·rw [Yp h4, hp]; exact heap_alloc_new _ _
 ·rw [Yp h3] at hx; rw [Yp h5]; obtain ⟨g, e1, e2, e3⟩ := h.y hx; exact ⟨g, by rw [vq_ne h3]; exact e1, e2, u.get e3 (by simp)⟩
 ·rw [Yp h5] at hx; rw [Yp h3]; exact h.yo hx
theorem Kd.layF (h : Kd w a pb M M2 L n0 S F c e f p q dn r w1) (hd : dn f = false) (h1 : c ≠ f) (h3 : e ≠ f) (h4 : p ≠ f) (h5 : q ≠ f) : Kd w a pb M M2 L n0 S F c e f p q (Yah dn f) (Ycw r f (.pointer (some ⟨w1.heap.size, 0, none⟩))) (w1.alloc (.cells (Yo Flt.zero) 35)) := by
 have hq : dn q = false := by
  cases hh : dn q with
  |false => rfl
  |true => rw [h.yo hh] at hd; cases hd
 have u := (Upd.refl [] w1).alloc (.cells (Yo Flt.zero) 35)
 refine ⟨by rw [Yp h1]; exact h.k.quiet u, Nat.le_trans h.b u.size, h.ln, fun hx => ?_, fun _ => ⟨_, Yf9, h.b, ?_⟩, fun hx => ?_, fun _ => Yc4⟩
 ·rw [Yp h3] at hx; rw [Yp h4]; obtain ⟨g, e1, e2, e3⟩ := h.x hx; exact ⟨g, by rw [vq_ne h3]; exact e1, e2, u.get e3 (by simp)⟩
 ·rw [Yp h5, hq]; exact heap_alloc_new _ _
 ·rw [Yp h4] at hx; rw [Yp h3]; exact h.xo hx
theorem Kd.keepL (h : Kd w a pb M M2 L n0 S F c e f p q dn r w1) {g : Nat} (hg : n0 ≤ g) (u : Upd [g] w1 w2) (m : Mem) (hm : Yk w1 a pb m) : Kq w a pb m L w2 := by
 have hl := h.ln
 exact ⟨hm.keep u (by simp; omega) (by simp; omega), h.k.u.also u (fun x hx => .inr (by rw [List.mem_singleton.1 hx]; omega)), fun p hp => u.get (h.k.v p hp) (by have := hl.1 p hp; simp; omega), h.k.s, h.k.t, h.k.l, h.k.w⟩
theorem Kd.putS (h : Kd w a pb M M2 L n0 S F c e f p q dn r w1) (hd : dn e = true) {g : Nat} (e1 : r e = .pointer (some ⟨g, 0, none⟩)) (h1 : c ≠ p) (h2 : e ≠ p) (h3 : f ≠ p) (h5 : q ≠ p) : Kd w a pb M M2 L n0 S F c e f p q (Yah dn p) r (w1.setCells g 0 S.cells.toList) := by
 obtain ⟨g', e1', e2, e3⟩ := h.x hd
 obtain rfl : g' = g := by rw [e1] at e1'; injection e1' with e; injection e with e; injection e with e; exact e.symm
 have u := (Upd.refl [g'] w1).setCells (q := g') (.inl (by simp)) S.cells.toList 0
 refine ⟨by rw [Yp h1]; exact h.keepL e2 u _ h.k.m, Nat.le_trans h.b u.size, h.ln, fun _ => ⟨g', e1, e2, ?_⟩, fun hx => ?_, fun _ => by rw [Yp h2]; exact hd, fun hx => ?_⟩
 ·rw [Yc4]
  show _ = some (Obj.cells S.cells 28 (0, 0))
  rw [Yag _ _ _ _ e3, wr_st _ S (by cases dn p <;> rfl)]
 ·rw [Yp h3] at hx; rw [Yp h5]
  obtain ⟨k, k1, k2, k3⟩ := h.y hx
  refine ⟨k, k1, k2, u.get k3 ?_⟩
  simp only [List.mem_singleton]
  rintro rfl
  rw [e3] at k3
  injection k3 with k3; injection k3 with _ k3 _; exact Yex k3
 ·rw [Yp h5] at hx; rw [Yp h3]; exact h.yo hx
theorem Kd.putF (h : Kd w a pb M M2 L n0 S F c e f p q dn r w1) (hd : dn f = true) {g : Nat} (e1 : r f = .pointer (some ⟨g, 0, none⟩)) (h1 : c ≠ q) (h2 : e ≠ q) (h3 : f ≠ q) (h5 : p ≠ q) : Kd w a pb M M2 L n0 S F c e f p q (Yah dn q) r (w1.setCells g 0 (Yo F).toList) := by
 obtain ⟨g', e1', e2, e3⟩ := h.y hd
 obtain rfl : g' = g := by rw [e1] at e1'; injection e1' with e; injection e with e; injection e with e; exact e.symm
 have u := (Upd.refl [g'] w1).setCells (q := g') (.inl (by simp)) (Yo F).toList 0
 refine ⟨by rw [Yp h1]; exact h.keepL e2 u _ h.k.m, Nat.le_trans h.b u.size, h.ln, fun hx => ?_, fun _ => ⟨g', e1, e2, ?_⟩, fun hx => ?_, fun _ => by rw [Yp h3]; exact hd⟩
 ·rw [Yp h2] at hx; rw [Yp h5]
  obtain ⟨k, k1, k2, k3⟩ := h.x hx
  refine ⟨k, k1, k2, u.get k3 ?_⟩
  simp only [List.mem_singleton]
  rintro rfl
  rw [e3] at k3
  injection k3 with k3; injection k3 with _ k3 _; exact Yex k3.symm
 ·rw [Yc4]
  show _ = some (Obj.cells (Yo F) 35 (0, 0))
  rw [Yag _ _ _ _ e3]
  cases dn q <;> rfl
 ·rw [Yp h5] at hx; rw [Yp h2]; exact h.xo hx
theorem Kd.fin (h : Kd w a pb M M2 L n0 S F c e f p q dn r w1) (hc : dn c = true) (he : dn e = true) (hf : dn f = true) (hp : dn p = true) (hq : dn q = true) :
  ∃ g1 g2, r e = .pointer (some ⟨g1, 0, none⟩) ∧ r f = .pointer (some ⟨g2, 0, none⟩) ∧ Kq w a pb M2 ((g2, .cells (Yo F) 35 (0, 0)) :: (g1, .cells S.cells 28 (0, 0)) :: L) w1 := by
 obtain ⟨g1, a1, a2, a3⟩ := h.x he
 obtain ⟨g2, b1, b2, b3⟩ := h.y hf
 have hl := h.ln
 rw [hp] at a3
 rw [hq] at b3
 have hk := h.k
 rw [hc] at hk
 have h1 := hk.add (b := g1) (by omega) ⟨fun p hp => by have := hl.1 p hp; omega, by omega, by omega⟩ a3
 refine ⟨g1, g2, a1, b1, h1.add (b := g2) (by omega) ⟨fun p hp => ?_, by omega, by omega⟩ b3⟩
 rcases List.mem_cons.1 hp with rfl | hp
 ·dsimp only
  rintro rfl
  rw [a3] at b3
  injection b3 with b3; injection b3 with _ b3 _; exact Yex b3
 ·have := hl.1 p hp; omega
end
end
def St.eqB (s t : St) : Bool := (((List.range 8).all fun i => s.R i == t.R i) && ((s.pc == t.pc) && ((((s.cf == t.cf) && ((s.pf == t.pf) && ((s.af == t.af) && ((s.zf == t.zf) && ((s.sf == t.sf) && ((s.of_ == t.of_) && true))))))) && ((s.df == t.df) && ((s.f == t.f) && true)))))
theorem St.eqB_self (s : St) : s.eqB s = true := by simp [St.eqB]
theorem St.eqB_iff (s t : St) : s.eqB t = true ↔ (∀ i, i < 8 → s.R i = t.R i) ∧ s.pc = t.pc ∧ s.cf = t.cf ∧ s.pf = t.pf ∧ s.af = t.af ∧ s.zf = t.zf ∧ s.sf = t.sf ∧ s.of_ = t.of_ ∧ s.df = t.df ∧ s.f = t.f := by
 simp only [St.eqB, Bool.and_eq_true, List.all_eq_true, List.mem_range, beq_iff_eq, and_true]
 constructor
 ·rintro ⟨h1, h2, ⟨h3, h4, h5, h6, h7, h8⟩, h9, h10⟩; exact ⟨h1, h2, h3, h4, h5, h6, h7, h8, h9, h10⟩
 ·rintro ⟨h1, h2, h3, h4, h5, h6, h7, h8, h9, h10⟩; exact ⟨h1, h2, ⟨h3, h4, h5, h6, h7, h8⟩, h9, h10⟩
def Yn3 (s : St) : Array Value := #[.bool s.cf, .bool s.pf, .bool s.af, .bool s.zf, .bool s.sf, .bool s.of_]
theorem Yht (s t : St) (w : World) (d : Nat) : (Op.equalIn (d + 1 + 1) 25 (.agg (Yn3 s)) (.agg (Yn3 t))).run Tryz.prog w = .ok ((s.cf == t.cf) && ((s.pf == t.pf) && ((s.af == t.af) && ((s.zf == t.zf) && ((s.sf == t.sf) && ((s.of_ == t.of_) && true)))))) w := by
 have hf : Tryz.prog.fieldsOf 25 = #[{ name := "CF", type := 4, offset := 0, embedded := false, tag := "", pkgPath := "", byteOffset := 0 }, { name := "PF", type := 4, offset := 1, embedded := false, tag := "", pkgPath := "", byteOffset := 1 },
  { name := "AF", type := 4, offset := 2, embedded := false, tag := "", pkgPath := "", byteOffset := 2 }, { name := "ZF", type := 4, offset := 3, embedded := false, tag := "", pkgPath := "", byteOffset := 3 },
  { name := "SF", type := 4, offset := 4, embedded := false, tag := "", pkgPath := "", byteOffset := 4 }, { name := "OF", type := 4, offset := 5, embedded := false, tag := "", pkgPath := "", byteOffset := 5 }] := by kernel_rfl
 have hu : Tryz.prog.underlying 25 = some (.struct (Tryz.prog.fieldsOf 25)) := by kernel_rfl
 have hp : Tryz.prog.plainKey 4 = true := by kernel_rfl
 have hb := fun (a b : Bool) => run_equalIn_bool (P := Tryz.prog) w d 4 a b Tryz.underlying4
 rw [run_equalIn_struct w _ 25 _ _ hu (Tryz.stoodInHeld25), hf]
 exact Ycz (by decide) (run_part_plain w hp rfl) (run_part_plain w hp rfl) (hb _ _) (Ycz (by decide) (run_part_plain w hp rfl) (run_part_plain w hp rfl) (hb _ _) (Ycz (by decide) (run_part_plain w hp rfl) (run_part_plain w hp rfl) (hb _ _) (Ycz (by decide) (run_part_plain w hp rfl) (run_part_plain w hp rfl) (hb _ _) (Ycz (by decide) (run_part_plain w hp rfl) (run_part_plain w hp rfl) (hb _ _) (Ycz (by decide) (run_part_plain w hp rfl) (run_part_plain w hp rfl) (hb _ _) Yj3)))))
section
theorem Ycj (n : Int) (w : World) : Calls Tryz.prog 19 #[.int .i64 n] w fun e w' => e = .returned (.agg #[.int .i64 1, .int .i64 n, .int .u32 0, .int .i64 0, .int .i64 0, .int .u32 0]) ∧ Upd [] w w' := by
 go_enter Tryz.func19, Tryz.ntmps19
 go_wp2_with fail
 exact bodyPost_ret (Yf rfl (Ybe 2 39 w.heap.size _ _ rfl (heap_alloc_new w _) Tryz.underlying39 rfl (by kernel_rfl))) rfl ⟨rfl, (Upd.refl [] w).alloc _⟩
theorem Ykb (v : Int) (w : World) : Calls Tryz.prog 18 #[.int .u32 v] w fun e w' => e = .returned (.agg #[.int .i64 2, .int .i64 0, .int .u32 v, .int .i64 0, .int .i64 0, .int .u32 0]) ∧ Upd [] w w' := by
 go_enter Tryz.func18, Tryz.ntmps18
 go_wp2_with fail
 exact bodyPost_ret (Yf rfl (Ybe 2 39 w.heap.size _ _ rfl (heap_alloc_new w _) Tryz.underlying39 rfl (by kernel_rfl))) rfl ⟨rfl, (Upd.refl [] w).alloc _⟩
theorem Yey (r : Int) : (⟨1, r, 0, 0, 0, 0⟩ : Opd).Ok := ⟨⟨show (0 : Int) ≤ 0 by decide, show (0 : Int) < 4294967296 by decide⟩, ⟨show (0 : Int) ≤ 0 by decide, show (0 : Int) < 4294967296 by decide⟩⟩
theorem immO_ok (d : Int) (h : 0 ≤ d ∧ d < 4294967296) : (⟨2, 0, d, 0, 0, 0⟩ : Opd).Ok := ⟨h, ⟨show (0 : Int) ≤ 0 by decide, show (0 : Int) < 4294967296 by decide⟩⟩
section
variable {w : World} {a pb : Nat} {M : Mem} {T : St} {c d : Int}
end
theorem Yhv (x0 x1 x2 x3 x4 x5 : Bool) (w : World) : (binOp .eql 25 (.agg #[.bool x0, .bool x1, .bool x2, .bool x3, .bool x4, .bool x5]) (.agg #[.bool x0, .bool x1, .bool x2, .bool x3, .bool x4, .bool x5])).run Tryz.prog w = .ok (.bool true) w := by
 have h := Yht ⟨fun _ => 0, 0, x0, x1, x2, x3, x4, x5, false, 0⟩ ⟨fun _ => 0, 0, x0, x1, x2, x3, x4, x5, false, 0⟩ w 9998
 rw [run_eql_struct]
 rw [show (10000 : Nat) = 9998 + 1 + 1 from rfl]
 have h2 : (Op.equalIn (9998 + 1 + 1) 25 (.agg #[.bool x0, .bool x1, .bool x2, .bool x3, .bool x4, .bool x5]) (.agg #[.bool x0, .bool x1, .bool x2, .bool x3, .bool x4, .bool x5])).run Tryz.prog w = .ok true w := by
  refine Eq.trans h ?_
  simp
 rw [h2, Result.andThen_ok]
end
section
theorem Ydb (v : Int) (w : World) : Calls Tryz.prog 17 #[.int .u32 v] w fun e w' => e = .returned (.agg #[.int .i64 3, .int .i64 0, .int .u32 v, .int .i64 (-1), .int .i64 (-1), .int .u32 1]) ∧ Upd [] w w' := by
 go_enter Tryz.func17, Tryz.ntmps17
 go_wp2_with fail
 exact bodyPost_ret (Yf rfl (Ybe 2 39 w.heap.size _ _ rfl (heap_alloc_new w _) Tryz.underlying39 rfl (by kernel_rfl))) rfl ⟨rfl, (Upd.refl [] w).alloc _⟩
def Yds : Mem := Mem.zero.mapM 0 1 3
theorem mv_map : Mem.zero.mapB 0 1 3 = true := by decide +kernel
theorem mv_R : Yds.R 0 = 3 := by decide +kernel
def Yde (v : Int) : Opd := ⟨3, 0, v, -1, -1, 1⟩
theorem Yge (v : Int) (h : 0 ≤ v ∧ v < 4294967296) : (Yde v).Ok := ⟨h, ⟨show (0 : Int) ≤ 1 by decide, show (1 : Int) < 4294967296 by decide⟩⟩
theorem Ydj (s : St) (v : Int) (h : 0 ≤ v ∧ v < 4294967296) : s.place (Yde v) = v := by
 simp [St.place, Yde, St.reg]; omega
theorem ma_3 {M : Mem} (hR : M.R 0 = 3) (x b : Nat) (hb : b = 1 ∨ b = 4) (hx : x + b ≤ 256) :
  M.readK x b 1 = true ∧ M.readV x b 1 = M.get x (Yau b).toNat ∧ M.writeK x b = true ∧ ∀ v, M.writeM x b v = M.putN x v (Yau b).toNat := by
 have en : (Yau (b : Int)).toNat = b := by rcases hb with rfl | rfl <;> decide
 have h1 : M.bad x (Ybn 1) (Yau (b : Int)).toNat = none := Yg6 M x _ _ (by rw [en]; omega) fun t ht => by
  rw [en] at ht; rw [show (x + t) / 256 = 0 by omega, hR]; decide
 have h2 : M.bad x 2 (Yau (b : Int)).toNat = none := Yg6 M x _ _ (by rw [en]; omega) fun t ht => by
  rw [en] at ht; rw [show (x + t) / 256 = 0 by omega, hR]; decide
 exact ⟨(Mem.read_none h1).2.2, (Mem.read_none h1).1, (Mem.write_none h2).2.1, (Mem.write_none h2).2.2⟩
def mvM (v : Int) : Mem := Yds.putN ((16 : Nat) : Int) v (Yau 4).toNat
theorem mvM_R (v : Int) : (mvM v).R 0 = 3 := by rw [mvM, Mem.putN_R]; exact mv_R
theorem mvM_4 (v : Int) (h : 0 ≤ v ∧ v < 4294967296) : (mvM v).readV 16 4 1 = v := by
 have := (ma_3 (mvM_R v) 16 4 (.inr rfl) (by decide)).2.1
 rw [show ((16 : Nat) : Int) = 16 from rfl, show ((4 : Nat) : Int) = 4 from rfl] at this
 rw [this]
 exact put4_get Yds 16 v (by decide) h.1 h.2
theorem mvM_1 (v : Int) (h : 0 ≤ v ∧ v < 4294967296) : (mvM v).readV 17 1 1 = v / 256 % 256 := by
 have := (ma_3 (mvM_R v) 17 1 (.inl rfl) (by decide)).2.1
 rw [show ((17 : Nat) : Int) = 17 from rfl, show ((1 : Nat) : Int) = 1 from rfl] at this
 rw [this, show (Yau 1).toNat = 1 by decide]
 simp only [Mem.get]
 rw [show (Yac (17 : Int) 0).toNat = 17 by decide, mvM, Mem.putN_lt _ _ _ _ (by decide) (by decide), if_pos (by decide)]
 simp
def mvT (s : St) : St := s.goOn 10
def mvU (s : St) (k : Nat) (v : Int) : St := ((mvT s).goOn 6).setR k v
def mvY (s : St) (k j : Nat) (v : Int) : St := (((mvU s k v).goOn 2).setR k ((mvU s k v).R j)).setR j v
def mvZ (s : St) (k : Nat) (v : Int) : St := ((mvT s).goOn 6).setR k v
section
variable {w : World} {p pb : Nat} {M : Mem} {s : St} {v z y : Int} {k j : Nat}
theorem Ye6 (hk : k < 8) : ((k : Int) % 8).toNat = k := by omega
theorem mv_t (hM : Yk w p pb Yds) (hs : s.Ok) (hv : 0 ≤ v ∧ v < 4294967296) :
  Calls Tryz.prog 15 #[.pointer (some ⟨p, 0, none⟩), .agg s.cells, .agg (Ins.cells ⟨1, 0, ⟨3, 0, 16, -1, -1, 1⟩, ⟨2, 0, v, 0, 0, 0⟩, false, 10⟩)] w fun e w' =>
   e = .returned (.tuple #[.agg (St.cells (mvT s)), Flt.zero.val, .bool true]) ∧ Yk w' p pb (mvM v) ∧ Upd [pb] w w' := by
 have hx := ma_3 mv_R 16 4 (.inr rfl) (by decide)
 refine Yhq p pb s _ _ _ _ _ w hM hs ⟨Yge 16 (by decide), immO_ok v hv⟩ (fun d w1 h1 => Ylm d p pb _ _ _ w1 h1 rfl) ?_
 rw [mov1O]
 dsimp only
 rw [if_pos (show opK Yds (s.goOn 10) ⟨2, 0, v, 0, 0, 0⟩ 4 = true from rfl)]
 have e1 : Ybg Yds (s.goOn 10) (Yde 16) 4 = true := by
  show Yds.writeK ((s.goOn 10).place (Yde 16)) 4 = true
  rw [Ydj _ _ (by decide)]; exact hx.2.2.1
 have e2 : opM Yds (s.goOn 10) (Yde 16) 4 (opV Yds (s.goOn 10) ⟨2, 0, v, 0, 0, 0⟩ 4) = mvM v := by
  show Yds.writeM ((s.goOn 10).place (Yde 16)) 4 (v % 4294967296) = mvM v
  rw [Ydj _ _ (by decide), show v % 4294967296 = v by omega]
  exact hx.2.2.2 v
 rw [show (⟨3, 0, 16, -1, -1, 1⟩ : Opd) = Yde 16 from rfl, if_pos e1, e2]
 rfl
theorem mv_u (hM : Yk w p pb (mvM v)) (hs : s.Ok) (hv : 0 ≤ v ∧ v < 4294967296) (hk : k < 8) (hz : z = k) :
  Calls Tryz.prog 15 #[.pointer (some ⟨p, 0, none⟩), .agg (St.cells (mvT s)), .agg (Ins.cells ⟨1, 0, ⟨1, z, 0, 0, 0, 0⟩, ⟨3, 0, 16, -1, -1, 1⟩, false, 6⟩)] w fun e w' =>
   e = .returned (.tuple #[.agg (St.cells (mvU s k v)), Flt.zero.val, .bool true]) ∧ Yk w' p pb (mvM v) ∧ Upd [pb] w w' := by
 subst hz
 have hx := ma_3 (mvM_R v) 16 4 (.inr rfl) (by decide)
 refine Yhq p pb (mvT s) _ _ _ _ _ w hM (St.goOn_ok hs 10) ⟨Yey k, Yge 16 (by decide)⟩ (fun d w1 h1 => Ylm d p pb _ _ _ w1 h1 rfl) ?_
 rw [mov1O]
 dsimp only
 have e1 : opK (mvM v) ((mvT s).goOn 6) (Yde 16) 4 = true := by
  show (mvM v).readK (((mvT s).goOn 6).place (Yde 16)) 4 1 = true
  rw [Ydj _ _ (by decide)]; exact hx.1
 have e2 : opV (mvM v) ((mvT s).goOn 6) (Yde 16) 4 = v := by
  show (mvM v).readV (((mvT s).goOn 6).place (Yde 16)) 4 1 = v
  rw [Ydj _ _ (by decide)]; exact mvM_4 v hv
 rw [show (⟨3, 0, 16, -1, -1, 1⟩ : Opd) = Yde 16 from rfl, if_pos e1, e2, if_pos (show Ybg (mvM v) ((mvT s).goOn 6) ⟨1, k, 0, 0, 0, 0⟩ 4 = true from rfl)]
 show okO (((mvT s).goOn 6).setR ((k : Int) % 8).toNat v) (mvM v) = _
 rw [Ye6 hk]
 rfl
theorem mv_wx (op : Int) (h36 : op = 36 ∨ op = 37) (hM : Yk w p pb (mvM v)) (hs : s.Ok) (hv : 0 ≤ v ∧ v < 4294967296) (hj : j < 8) (hy : y = j) :
  Calls Tryz.prog 15 #[.pointer (some ⟨p, 0, none⟩), .agg (St.cells (mvT s)), .agg (Ins.cells ⟨op, 0, ⟨1, y, 0, 0, 0, 0⟩, ⟨3, 0, 17, -1, -1, 1⟩, false, 7⟩)] w fun e w' =>
   e = .returned (.tuple #[.agg (St.cells (((mvT s).goOn 7).setR j (Ybi op (v / 256 % 256)))), Flt.zero.val, .bool true]) ∧ Yk w' p pb (mvM v) ∧ Upd [pb] w w' := by
 subst hy
 have hx := ma_3 (mvM_R v) 17 1 (.inl rfl) (by decide)
 have e1 : opK (mvM v) ((mvT s).goOn 7) (Yde 17) 1 = true := by
  show (mvM v).readK (((mvT s).goOn 7).place (Yde 17)) 1 1 = true
  rw [Ydj _ _ (by decide)]; exact hx.1
 have e2 : opV (mvM v) ((mvT s).goOn 7) (Yde 17) 1 = v / 256 % 256 := by
  show (mvM v).readV (((mvT s).goOn 7).place (Yde 17)) 1 1 = _
  rw [Ydj _ _ (by decide)]; exact mvM_1 v hv
 rcases h36 with rfl | rfl
 ·refine Yhq p pb (mvT s) _ _ _ _ _ w hM (St.goOn_ok hs 10) ⟨Yey j, Yge 17 (by decide)⟩ (fun d w1 h1 => Ypg d p pb _ _ _ w1 h1 rfl) ?_
  rw [Ykj]
  dsimp only
  rw [show (⟨3, 0, 17, -1, -1, 1⟩ : Opd) = Yde 17 from rfl, if_pos e1, e2, if_pos (show Ybg (mvM v) ((mvT s).goOn 7) ⟨1, j, 0, 0, 0, 0⟩ 4 = true from rfl)]
  show okO (((mvT s).goOn 7).setR ((j : Int) % 8).toNat _) (mvM v) = _
  rw [Ye6 hj]
 ·refine Yhq p pb (mvT s) _ _ _ _ _ w hM (St.goOn_ok hs 10) ⟨Yey j, Yge 17 (by decide)⟩ (fun d w1 h1 => Yo3 d p pb _ _ _ w1 h1 rfl) ?_
  rw [Yks]
  dsimp only
  rw [show (⟨3, 0, 17, -1, -1, 1⟩ : Opd) = Yde 17 from rfl, if_pos e1, e2, if_pos (show Ybg (mvM v) ((mvT s).goOn 7) ⟨1, j, 0, 0, 0, 0⟩ 4 = true from rfl)]
  show okO (((mvT s).goOn 7).setR ((j : Int) % 8).toNat _) (mvM v) = _
  rw [Ye6 hj]
theorem mv_y (hM : Yk w p pb (mvM v)) (hs : s.Ok) (hv : 0 ≤ v ∧ v < 4294967296) (hk : k < 8) (hj : j < 8) (hz : z = k) (hy : y = j) :
  Calls Tryz.prog 15 #[.pointer (some ⟨p, 0, none⟩), .agg (St.cells (mvU s k v)), .agg (Ins.cells ⟨27, 0, ⟨1, z, 0, 0, 0, 0⟩, ⟨1, y, 0, 0, 0, 0⟩, false, 2⟩)] w fun e w' =>
   e = .returned (.tuple #[.agg (St.cells (mvY s k j v)), Flt.zero.val, .bool true]) ∧ Yk w' p pb (mvM v) ∧ Upd [pb] w w' := by
 subst hz hy
 refine Yhq p pb (mvU s k v) _ _ _ _ _ w hM (St.setR_ok (St.goOn_ok (St.goOn_ok hs 10) 6) k hv.1 hv.2) ⟨Yey k, Yey j⟩ (fun d w1 h1 => xchg_all d p pb _ _ _ w1 h1 rfl) ?_
 have e1 : opV (mvM v) ((mvU s k v).goOn 2) ⟨1, k, 0, 0, 0, 0⟩ 4 = v := by
  show ((mvU s k v).goOn 2).R ((k : Int) % 8).toNat = v
  rw [Ye6 hk]; simp [mvU, St.goOn, St.setR]
 have e2 : opV (mvM v) ((mvU s k v).goOn 2) ⟨1, j, 0, 0, 0, 0⟩ 4 = (mvU s k v).R j := by
  show ((mvU s k v).goOn 2).R ((j : Int) % 8).toNat = _
  rw [Ye6 hj]; rfl
 rw [xchgO]
 dsimp only
 rw [e1, e2]
 show okO ((((mvU s k v).goOn 2).setR ((k : Int) % 8).toNat ((mvU s k v).R j)).setR ((j : Int) % 8).toNat v) (mvM v) = _
 rw [Ye6 hk, Ye6 hj]
 rfl
theorem mv_z (hM : Yk w p pb (mvM v)) (hs : s.Ok) (hv : 0 ≤ v ∧ v < 4294967296) (hk : k < 8) (hz : z = k) :
  Calls Tryz.prog 15 #[.pointer (some ⟨p, 0, none⟩), .agg (St.cells (mvT s)), .agg (Ins.cells ⟨26, 0, ⟨1, z, 0, 0, 0, 0⟩, ⟨3, 0, v, -1, -1, 1⟩, false, 6⟩)] w fun e w' =>
   e = .returned (.tuple #[.agg (St.cells (mvZ s k v)), Flt.zero.val, .bool true]) ∧ Yk w' p pb (mvM v) ∧ Upd [pb] w w' := by
 subst hz
 refine Yhq p pb (mvT s) _ _ _ _ _ w hM (St.goOn_ok hs 10) ⟨Yey k, Yge v hv⟩ (fun d w1 h1 => lea_all d p pb _ _ _ w1 h1 rfl) ?_
 rw [leaO]
 dsimp only
 rw [show (⟨3, 0, v, -1, -1, 1⟩ : Opd) = Yde v from rfl, Ydj _ _ hv, if_pos (show Ybg (mvM v) ((mvT s).goOn 6) ⟨1, k, 0, 0, 0, 0⟩ 4 = true from rfl)]
 show okO (((mvT s).goOn 6).setR ((k : Int) % 8).toNat v) (mvM v) = _
 rw [Ye6 hk]
 rfl
end
end
end Go.Proofs.YthakgjpejhjaoaaGreat
