/-
  Parts of the proof (their names shortened by a program). No condition.
-/
import Derived.Test.YtdgclmibbmofcaaMg01
import Derived.Test.YtdgclmibbmofcaaMg10
import Derived.Test.YtdgclmibbmofcaaMg05
import Derived.Test.YtdgclmibbmofcaaMg06
namespace Go.Proofs.Ytdgclmibbmofcaa
open Go Go.RowKit
set_option linter.unusedVariables false
set_option linter.unusedSimpArgs false
set_option maxRecDepth 100000
set_option maxHeartbeats 16000000
section
open Go.Maps
def cpS (k x y z : Int) : St := (((St.zero.setR 0 k).setR 3 x).setR 1 y).setR 2 z
section
variable {M : Mem} {C : Cd} {k x y z : Int}
theorem cp_doM (hk : k = 91 ∨ k = 125 ∨ k = 192) : doM M (cpS k x y z) C = chM M k x y z := by
 have e0 : (cpS k x y z).R 0 = k := rfl
 unfold doM
 rw [e0, if_neg (by omega), if_pos hk]; rfl
theorem cp_doR (hk : k = 91 ∨ k = 125 ∨ k = 192) : doR M (cpS k x y z) C = chR M k x y z := by
 have e0 : (cpS k x y z).R 0 = k := rfl
 unfold doR
 rw [e0, if_neg (by omega), if_neg (by omega), if_neg (by omega), if_pos hk]; rfl
theorem Ybs (n : Nat) (h : C.L.length = n) : (doC M (cpS k x y z) C).L.length = n + 1 := by
 show (C.L ++ [_]).length = _
 rw [List.length_append, h]; rfl
theorem cp_no (h : Yap k x y z = false) : chR M k x y z = 4294967274 ∧ chM M k x y z = M := by
 unfold chR chM chB; rw [h]; exact ⟨rfl, rfl⟩
theorem cp_91 (h1 : x % 256 = 0) (h2 : y ≤ 64) : chB M 91 x y z = M.unmapB (x / 256) y ∧ chM M 91 x y z = M.unmapM (x / 256) y := by
 have h : Yap 91 x y z = true := by unfold Yap; simp [h1, h2]
 unfold chB chM; rw [h]; exact ⟨rfl, rfl⟩
theorem cp_125 (h1 : x % 256 = 0) (h2 : y ≤ 64) (h3 : z ≤ 7) : chB M 125 x y z = M.protB (x / 256) y z ∧ chM M 125 x y z = M.protM (x / 256) y z := by
 have h : Yap 125 x y z = true := by unfold Yap; simp [h1, h2, h3]
 unfold chB chM; rw [h]; exact ⟨rfl, rfl⟩
theorem cp_192 (h1 : x % 256 = 0) (h2 : y ≤ 64) (h3 : z ≤ 7) : chB M 192 x y z = M.mapB (x / 256) y z ∧ chM M 192 x y z = M.mapM (x / 256) y z := by
 have h : Yap 192 x y z = true := by unfold Yap; simp [h1, h2, h3]
 unfold chB chM; rw [h]; exact ⟨rfl, rfl⟩
theorem cpS_ok (hk : k = 91 ∨ k = 125 ∨ k = 192) (hx : 0 ≤ x ∧ x < 4294967296) (hy : 0 ≤ y ∧ y < 4294967296) (hz : 0 ≤ z ∧ z < 4294967296) : (cpS k x y z).Ok :=
 St.setR_ok (St.setR_ok (St.setR_ok (St.setR_ok St.zero_ok 0 (by omega) (by omega)) 3 hx.1 hx.2) 1 hy.1 hy.2) 2 hz.1 hz.2
theorem cpS_0 : (cpS k x y z).R 0 = k := rfl
theorem cp_end (hk : k = 91 ∨ k = 125 ∨ k = 192) : decide ((cpS k x y z).R 0 = 1) = false := by rw [cpS_0]; simp; omega
end
theorem cp_ix (m : Int) (h : 0 ≤ m ∧ m < 3) : ∃ kd : Int, (∀ w, (Instr.index 40 (.agg #[.int .u32 91, .int .u32 125, .int .u32 192]) (.int .u32 m)).run Try.prog w = .ok (.int .u32 kd) w) ∧ (kd = 91 ∨ kd = 125 ∨ kd = 192) := by
 have : m = 0 ∨ m = 1 ∨ m = 2 := by omega
 rcases this with rfl | rfl | rfl
 ·exact ⟨91, fun w => by kernel_rfl, by decide⟩
 ·exact ⟨125, fun w => by kernel_rfl, by decide⟩
 ·exact ⟨192, fun w => by kernel_rfl, by decide⟩
theorem New_kr {w w1 : World} {a pb g rb : Nat} {M : Mem} {l : List Int} {i : ByteArray} {v : Value} {o : Obj} (hu : Upd [] w w1) (hM : Yd w1 a pb M) (h0 : w.heap.size ≤ a ∧ w.heap.size ≤ pb ∧ w.heap.size ≤ rb) (hn : rb ≠ a ∧ rb ≠ pb) (ho : w1.heap[rb]? = some o) (hr : Rp w1 v l g) (hl : l.length ≤ 1000) :
  Calls Try.prog 7 #[v, .string i] w1 fun e w' => ∃ c b, e = .returned (.pointer (some ⟨c, 0, none⟩)) ∧ Kc w a pb M c b ⟨l, i, []⟩ [(rb, o)] w' := by
 refine (Ygk l i v g w1 hr hl).mono ?_
 rintro e w2 ⟨c, b, g', rfl, hC, hz, hu2⟩
 have hlt := Yl ho
 have ha := hM.al
 have hp := hM.pl
 refine ⟨c, b, rfl, hM.keep hu2 (by simp) (by simp), ⟨g', hC, by omega, by omega, by omega, fun p hp => ?_⟩, hu.also hu2 (by simp), fun p hp => ?_, List.pairwise_singleton _ _, fun p hp => ?_, by omega, by omega⟩
 ·rw [List.mem_singleton.1 hp]; dsimp only; omega
 ·rw [List.mem_singleton.1 hp]; exact hu2.get ho (by simp)
 ·rw [List.mem_singleton.1 hp]; dsimp only; omega
def CpD (w : World) (a pb : Nat) (M : Mem) (c b : Nat) (C : Cd) (sb : Nat) (o : Nat × Obj) (k x y z : Int) (d : Nat → Bool) (r : Nat → Value) (w1 : World) : Prop :=
 Kc w a pb M c b C [(sb, .cells (stD (St.zero.setR 0 k) 17 20 23 3 1 2 x y z d).cells 39 (0, 0)), o] w1
section
variable {w w1 : World} {a pb c b sb : Nat} {M : Mem} {C : Cd} {o : Nat × Obj} {k x y z : Int} {d : Nat → Bool} {r : Nat → Value}
theorem CpD.same (h : CpD w a pb M c b C sb o k x y z d r w1) (j : Nat) (h1 : 17 ≠ j) (h2 : 20 ≠ j) (h3 : 23 ≠ j) : CpD w a pb M c b C sb o k x y z (Yo d j) r w1 := by
 unfold CpD at *; rw [stD_same j h1 h2 h3]; exact h
theorem CpD.p1 (h : CpD w a pb M c b C sb o k x y z d r w1) : CpD w a pb M c b C sb o k x y z (Yo d 17) r (w1.setCell ⟨sb, 3, none⟩ (.int .u32 x)) := by
 have := Kc.putR h 0 rfl 3 (by decide) x
 unfold CpD; rw [← stD_1 (by decide) (by decide)]; exact this
theorem CpD.p2 (h : CpD w a pb M c b C sb o k x y z d r w1) : CpD w a pb M c b C sb o k x y z (Yo d 20) r (w1.setCell ⟨sb, 1, none⟩ (.int .u32 y)) := by
 have := Kc.putR h 0 rfl 1 (by decide) y
 unfold CpD; rw [← stD_2 (by decide) (by decide) (by decide)]; exact this
theorem CpD.p3 (h : CpD w a pb M c b C sb o k x y z d r w1) : CpD w a pb M c b C sb o k x y z (Yo d 23) r (w1.setCell ⟨sb, 2, none⟩ (.int .u32 z)) := by
 have := Kc.putR h 0 rfl 2 (by decide) z
 unfold CpD; rw [← stD_3 (by decide) (by decide) (by decide) (by decide)]; exact this
theorem CpD.start (h : Kc w a pb M c b C [(sb, .cells (St.zero.setR 0 k).cells 39 (0, 0)), o] w1) (r : Nat → Value) : CpD w a pb M c b C sb o k x y z (fun _ => false) r w1 := by
 unfold CpD; rw [stD_none]; exact h
end
theorem Yex (v : Value) (n : Nat) (f : Nat → Nat → Int) (w : World) (hv : Rws w v 4 n (fun i j => .int .u32 (f i j))) (hf : ∀ i, i < n → ∀ j, j < 4 → 0 ≤ f i j ∧ f i j < 4294967296) :
  Calls Try.prog 3 #[v] w fun e w' => e = .returned (.bool true) ∧ Upd [] w w' := by
 obtain ⟨va, vc, rfl⟩ := hv.shape
 obtain ⟨ln, hln⟩ : ∃ ln : Int, ln = (n : Int) := ⟨_, rfl⟩
 have ec : ((n : Nat) : Int) = ln := hln.symm
 obtain ⟨Z, hZ, hbuild⟩ := Yfl
 have HV := Yh_ (And.intro hv hf)
 have HZ := Yh_ hZ
 have HBu := Yh_ hbuild
 have HL := Yh_ hln
 have tok : True := trivial
 clear hv hf hZ hbuild
 by_cases hbig : 20 < ln
 ·have d0 : decide (20 < ln) = true := by simp [hbig]
  clear hbig hln
  go_enter Try.func3, Try.ntmps3
  go_wp2_with (have _t := tok; clear _t; go_at_call 5; refine (Ydt _).mono ?_; rintro e w0 ⟨rfl, hu0⟩; clear tok)
  go_ret
  exact ⟨rfl, hu0⟩
 ·have d0 : decide (20 < ln) = false := by simp [hbig]
  have HS := Yh_ (show ln ≤ 20 by omega)
  clear hbig hln
  go_enter Try.func3, Try.ntmps3
  go_wp2_with (first
   |(have _t := tok; clear _t; go_at_call 5; refine (Ydt _).mono ?_; rintro e w0 ⟨rfl, hu0⟩; clear tok)
   |(have _t := hu0; clear _t; go_at_call 6; refine (Ygl _).mono ?_; rintro e w1 ⟨ma, pb, rfl, ha, hp, hM1, hu1⟩; have H0 := Yh_ (And.intro (hu0.also hu1 (by simp)) (And.intro hM1 (And.intro (Nat.le_trans hu0.size ha) (Nat.le_trans hu0.size hp)))); clear hu0 ha hp hM1 hu1)
   |(have _t := HBu; clear _t; refine Ydf rfl 30 [] rfl [] rfl (.agg Z) (HBu.out _) ?_; clear HBu)
   |(have _t := H0; clear _t; go_at_call 7; refine (New_kr (rb := w1.heap.size) (l := []) (H0.out.1.alloc _) (H0.out.2.1.keep ((Upd.refl [] w1).alloc _) (by simp) (by simp)) (by have := H0.out.1.size; have := H0.out.2.2; omega) (by have := H0.out.2.1.al; have := H0.out.2.1.pl; omega) (heap_alloc_new w1 (.cells Z 30 (0, 0))) (rp_none _ 0) (by decide)).mono ?_; rintro e w2 ⟨c, b, rfl, hk0⟩; have HR0 := Yh_ (show Ybk Z Mem.zero ∧ Mem.zero.Ok from ⟨HZ.out, Mem.zero_ok⟩); have K0 := Yh_ hk0; clear hk0 H0 HZ))
  generalize w1.heap.size = rb at K0 ⊢
  go_loopw [6, 7, 8, 9, 10, 11, 12, 13] (fun i _ _ _ _ _ _ _ wr => ∃ (q : Int) (M : Mem) (C : Cd) (CR : Array Value), i = .int .i64 q ∧ Hid (0 ≤ q ∧ q ≤ ln) ∧ Hid (C.L.length = q.toNat) ∧ Hid (Ybk CR M ∧ M.Ok) ∧ Hid (Kc w ma pb M c b C [(rb, .cells CR 30 (0, 0))] wr)) (fun i _ _ _ _ _ _ _ _ => (ln - intOf i).toNat)
  case atStart => exact ⟨0, _, _, _, rfl, Yh_ (by have := HL.out; omega), Yh_ rfl, HR0, K0⟩
  case round =>
   clear K0 HR0
   obtain ⟨q, M, C, CR, rfl, hq, HN, HR, K1⟩ := hrel
   by_cases hlt : q < ln
   ·have dlt : decide (q < ln) = true := by simp [hlt]
    have hqq := hq.out
    have hll := HL.out
    have hss := HS.out
    have HB1 := Yh_ hlt
    have ewq : wrap64 (q + 1) = q + 1 := by unfold wrap64; omega
    have HI := Yh_ (show q.toNat < n by omega)
    obtain ⟨gl, ol, rfl, _, hc4⟩ := HV.out.1.cell (by omega)
    have HC4 := Yh_ hc4
    obtain ⟨f0, h0⟩ : ∃ x, f q.toNat 0 = x := ⟨_, rfl⟩
    obtain ⟨f1, h1⟩ : ∃ x, f q.toNat 1 = x := ⟨_, rfl⟩
    obtain ⟨f2, h2⟩ : ∃ x, f q.toNat 2 = x := ⟨_, rfl⟩
    obtain ⟨f3, h3⟩ : ∃ x, f q.toNat 3 = x := ⟨_, rfl⟩
    have b0 := HV.out.2 _ HI.out 0 (by decide)
    have b1 := HV.out.2 _ HI.out 1 (by decide)
    have b2 := HV.out.2 _ HI.out 2 (by decide)
    have b3 := HV.out.2 _ HI.out 3 (by decide)
    rw [h0] at b0
    rw [h1] at b1
    rw [h2] at b2
    rw [h3] at b3
    have HF := Yh_ (And.intro h0 (And.intro h1 (And.intro h2 h3)))
    have HBD := Yh_ (And.intro b1 (And.intro b2 b3))
    obtain ⟨m0, hm0⟩ : ∃ m, f0 % 3 = m := ⟨_, rfl⟩
    have e3 : f0.tmod 3 = m0 := by rw [Int.tmod_eq_emod_of_nonneg b0.1, hm0]
    obtain ⟨kd, hix, hkd⟩ := cp_ix m0 (by omega)
    have HKD := Yh_ hkd
    have bq : 0 ≤ q ∧ q < ln := by omega
    have bm : 0 ≤ m0 ∧ m0 < 3 := by omega
    clear hqq hll hss hc4 h0 h1 h2 h3 hm0 hkd hlt
    go_upto_region 12 with (have _t := K1; clear _t; refine Ybl 39 rfl ?_; refine Yx St.zero wr.heap.size rfl _ _ rfl rfl rfl (heap_alloc_new wr _) rfl ?_; intro w4 hw; have K2 := Yh_ (K1.out.one hw); have c0 : w4.cell? ⟨wr.heap.size, 0, none⟩ = some (.int .u32 (St.zero.R 0)) := (Ya (K2.out.get 0 rfl) 0).trans (St.cR _ 0 (by decide)); have fz := Yg (K2.out.get 0 rfl); have r0 : w4.cell? ⟨gl, ol + q.toNat * 4, none⟩ = some (.int .u32 f0) := (by have h := HC4.out w4 K2.out.u q.toNat HI.out 0 (by decide); rw [HF.out.1] at h; exact h); clear hw K1)
    have hk := K2.out.putR 0 rfl 0 (by decide) kd
    dsimp only [List.set] at hk
    have K3 := Yh_ hk
    clear hk K2 c0 fz r0 hix e3
    refine Yau 24 (CpD w ma pb M c b C wr.heap.size (rb, .cells CR 30 (0, 0)) kd f1 f2 f3) (fun _ _ => False) (by kernel_rfl) (by decide +kernel) (fun r0 => CpD.start (K3.out.quiet (Upd.refl [] _).drew) r0) (fun _ _ _ h => h.elim) ?_
    simp only [List.take_succ_cons, List.take_zero, List.drop_succ_cons, List.drop_zero]
    apply Yb rfl rfl
    ·intro dn r0 K hd hdep hK w5 hB1
     skip
     have HB := Yh_ hB1
     clear hB1 hdep
     go_wp2_with fail
     first
     |exact hK _ (HB.out.same 0 (by decide) (by decide) (by decide))
     |exact HB.out.same 0 (by decide) (by decide) (by decide)
    ·exact ⟨_, rfl⟩
    apply Yb rfl rfl
    ·intro dn r0 K hd hdep hK w5 hB1
     skip
     have HB := Yh_ hB1
     clear hB1 hdep
     go_wp2_with fail
     first
     |exact hK _ (HB.out.same 1 (by decide) (by decide) (by decide))
     |exact HB.out.same 1 (by decide) (by decide) (by decide)
    ·exact ⟨_, rfl⟩
    apply Yb rfl rfl
    ·intro dn r0 K hd hdep hK w5 hB1
     skip
     have HB := Yh_ hB1
     clear hB1 hdep
     go_wp2_with fail
     first
     |exact hK _ (HB.out.same 2 (by decide) (by decide) (by decide))
     |exact HB.out.same 2 (by decide) (by decide) (by decide)
    ·exact ⟨_, rfl⟩
    apply Yb rfl rfl
    ·intro dn r0 K hd hdep hK w5 hB1
     skip
     have HB := Yh_ hB1
     clear hB1 hdep
     go_wp2_with fail
     first
     |exact hK _ (HB.out.same 3 (by decide) (by decide) (by decide))
     |exact HB.out.same 3 (by decide) (by decide) (by decide)
    ·exact ⟨_, rfl⟩
    apply Yb rfl rfl
    ·intro dn r0 K hd hdep hK w5 hB1
     have r1 : w5.cell? ⟨gl, ol + q.toNat * 4 + 1, none⟩ = some (.int .u32 f1) := (by have h := HC4.out w5 (Kc.u hB1) q.toNat HI.out 1 (by decide); rw [HF.out.2.1] at h; exact h)
     have HB := Yh_ hB1
     clear hB1 hdep
     go_wp2_with fail
     first
     |exact hK _ (HB.out.same 4 (by decide) (by decide) (by decide))
     |exact HB.out.same 4 (by decide) (by decide) (by decide)
    ·exact ⟨_, rfl⟩
    apply Yb rfl rfl
    ·intro dn r0 K hd hdep hK w5 hB1
     skip
     have HB := Yh_ hB1
     clear hB1 hdep
     go_wp2_with fail
     first
     |exact hK _ (HB.out.same 5 (by decide) (by decide) (by decide))
     |exact HB.out.same 5 (by decide) (by decide) (by decide)
    ·exact ⟨_, rfl⟩
    apply Yb rfl rfl
    ·intro dn r0 K hd hdep hK w5 hB1
     skip
     have HB := Yh_ hB1
     clear hB1 hdep
     go_wp2_with fail
     first
     |exact hK _ (HB.out.same 6 (by decide) (by decide) (by decide))
     |exact HB.out.same 6 (by decide) (by decide) (by decide)
    ·exact ⟨_, rfl⟩
    apply Yb rfl rfl
    ·intro dn r0 K hd hdep hK w5 hB1
     skip
     have HB := Yh_ hB1
     clear hB1 hdep
     go_wp2_with fail
     first
     |exact hK _ (HB.out.same 7 (by decide) (by decide) (by decide))
     |exact HB.out.same 7 (by decide) (by decide) (by decide)
    ·exact ⟨_, rfl⟩
    apply Yb rfl rfl
    ·intro dn r0 K hd hdep hK w5 hB1
     skip
     have HB := Yh_ hB1
     clear hB1 hdep
     go_wp2_with fail
     first
     |exact hK _ (HB.out.same 8 (by decide) (by decide) (by decide))
     |exact HB.out.same 8 (by decide) (by decide) (by decide)
    ·exact ⟨_, rfl⟩
    apply Yb rfl rfl
    ·intro dn r0 K hd hdep hK w5 hB1
     have r2 : w5.cell? ⟨gl, ol + q.toNat * 4 + 2, none⟩ = some (.int .u32 f2) := (by have h := HC4.out w5 (Kc.u hB1) q.toNat HI.out 2 (by decide); rw [HF.out.2.2.1] at h; exact h)
     have HB := Yh_ hB1
     clear hB1 hdep
     go_wp2_with fail
     first
     |exact hK _ (HB.out.same 9 (by decide) (by decide) (by decide))
     |exact HB.out.same 9 (by decide) (by decide) (by decide)
    ·exact ⟨_, rfl⟩
    apply Yb rfl rfl
    ·intro dn r0 K hd hdep hK w5 hB1
     skip
     have HB := Yh_ hB1
     clear hB1 hdep
     go_wp2_with fail
     first
     |exact hK _ (HB.out.same 10 (by decide) (by decide) (by decide))
     |exact HB.out.same 10 (by decide) (by decide) (by decide)
    ·exact ⟨_, rfl⟩
    apply Yb rfl rfl
    ·intro dn r0 K hd hdep hK w5 hB1
     skip
     have HB := Yh_ hB1
     clear hB1 hdep
     go_wp2_with fail
     first
     |exact hK _ (HB.out.same 11 (by decide) (by decide) (by decide))
     |exact HB.out.same 11 (by decide) (by decide) (by decide)
    ·exact ⟨_, rfl⟩
    apply Yb rfl rfl
    ·intro dn r0 K hd hdep hK w5 hB1
     skip
     have HB := Yh_ hB1
     clear hB1 hdep
     go_wp2_with fail
     first
     |exact hK _ (HB.out.same 12 (by decide) (by decide) (by decide))
     |exact HB.out.same 12 (by decide) (by decide) (by decide)
    ·exact ⟨_, rfl⟩
    apply Yb rfl rfl
    ·intro dn r0 K hd hdep hK w5 hB1
     skip
     have HB := Yh_ hB1
     clear hB1 hdep
     go_wp2_with fail
     first
     |exact hK _ (HB.out.same 13 (by decide) (by decide) (by decide))
     |exact HB.out.same 13 (by decide) (by decide) (by decide)
    ·exact ⟨_, rfl⟩
    apply Yb rfl rfl
    ·intro dn r0 K hd hdep hK w5 hB1
     have r3 : w5.cell? ⟨gl, ol + q.toNat * 4 + 3, none⟩ = some (.int .u32 f3) := (by have h := HC4.out w5 (Kc.u hB1) q.toNat HI.out 3 (by decide); rw [HF.out.2.2.2] at h; exact h)
     have HB := Yh_ hB1
     clear hB1 hdep
     go_wp2_with fail
     first
     |exact hK _ (HB.out.same 14 (by decide) (by decide) (by decide))
     |exact HB.out.same 14 (by decide) (by decide) (by decide)
    ·exact ⟨_, rfl⟩
    apply Yb rfl rfl
    ·intro dn r0 K hd hdep hK w5 hB1
     skip
     have HB := Yh_ hB1
     clear hB1 hdep
     go_wp2_with fail
     first
     |exact hK _ (HB.out.same 15 (by decide) (by decide) (by decide))
     |exact HB.out.same 15 (by decide) (by decide) (by decide)
    ·exact ⟨_, rfl⟩
    apply Yb rfl rfl
    ·intro dn r0 K hd hdep hK w5 hB1
     skip
     have HB := Yh_ hB1
     clear hB1 hdep
     go_wp2_with fail
     first
     |exact hK _ (HB.out.same 16 (by decide) (by decide) (by decide))
     |exact HB.out.same 16 (by decide) (by decide) (by decide)
    ·exact ⟨_, rfl⟩
    apply Yb rfl rfl
    ·intro dn r0 K hd hdep hK w5 hB1
     have f1x : w5.cell? ⟨wr.heap.size, 3, none⟩ = some (.int .u32 ((stD (St.zero.setR 0 kd) 17 20 23 3 1 2 f1 f2 f3 dn).R 3)) := (Ya (Kc.get hB1 0 rfl) 3).trans (St.cR _ 3 (by decide))
     have f2x := Yg (Kc.get hB1 0 rfl)
     have HB := Yh_ hB1
     clear hB1 hdep
     go_wp2_with fail
     first
     |exact hK _ (HB.out.p1)
     |exact HB.out.p1
    ·exact ⟨undef, rfl⟩
    apply Yb rfl rfl
    ·intro dn r0 K hd hdep hK w5 hB1
     skip
     have HB := Yh_ hB1
     clear hB1 hdep
     go_wp2_with fail
     first
     |exact hK _ (HB.out.same 18 (by decide) (by decide) (by decide))
     |exact HB.out.same 18 (by decide) (by decide) (by decide)
    ·exact ⟨_, rfl⟩
    apply Yb rfl rfl
    ·intro dn r0 K hd hdep hK w5 hB1
     skip
     have HB := Yh_ hB1
     clear hB1 hdep
     go_wp2_with fail
     first
     |exact hK _ (HB.out.same 19 (by decide) (by decide) (by decide))
     |exact HB.out.same 19 (by decide) (by decide) (by decide)
    ·exact ⟨_, rfl⟩
    apply Yb rfl rfl
    ·intro dn r0 K hd hdep hK w5 hB1
     have f1x : w5.cell? ⟨wr.heap.size, 1, none⟩ = some (.int .u32 ((stD (St.zero.setR 0 kd) 17 20 23 3 1 2 f1 f2 f3 dn).R 1)) := (Ya (Kc.get hB1 0 rfl) 1).trans (St.cR _ 1 (by decide))
     have f2x := Yg (Kc.get hB1 0 rfl)
     have HB := Yh_ hB1
     clear hB1 hdep
     go_wp2_with fail
     first
     |exact hK _ (HB.out.p2)
     |exact HB.out.p2
    ·exact ⟨undef, rfl⟩
    apply Yb rfl rfl
    ·intro dn r0 K hd hdep hK w5 hB1
     skip
     have HB := Yh_ hB1
     clear hB1 hdep
     go_wp2_with fail
     first
     |exact hK _ (HB.out.same 21 (by decide) (by decide) (by decide))
     |exact HB.out.same 21 (by decide) (by decide) (by decide)
    ·exact ⟨_, rfl⟩
    apply Yb rfl rfl
    ·intro dn r0 K hd hdep hK w5 hB1
     skip
     have HB := Yh_ hB1
     clear hB1 hdep
     go_wp2_with fail
     first
     |exact hK _ (HB.out.same 22 (by decide) (by decide) (by decide))
     |exact HB.out.same 22 (by decide) (by decide) (by decide)
    ·exact ⟨_, rfl⟩
    apply Yb rfl rfl
    ·intro dn r0 K hd hdep hK w5 hB1
     have f1x : w5.cell? ⟨wr.heap.size, 2, none⟩ = some (.int .u32 ((stD (St.zero.setR 0 kd) 17 20 23 3 1 2 f1 f2 f3 dn).R 2)) := (Ya (Kc.get hB1 0 rfl) 2).trans (St.cR _ 2 (by decide))
     have f2x := Yg (Kc.get hB1 0 rfl)
     have HB := Yh_ hB1
     clear hB1 hdep
     go_wp2_with fail
     first
     |exact hK _ (HB.out.p3)
     |exact HB.out.p3
    ·exact ⟨undef, rfl⟩
    refine Yah (fun _ r0 w5 dn hall hB2 => ?_)
    unfold CpD at hB2
    rw [stD_all (hall 17 (by decide)) (hall 20 (by decide)) (hall 23 (by decide)) (by decide) (by decide) (by decide)] at hB2
    have K4 := Yh_ (show Kc w ma pb M c b C [(wr.heap.size, .cells (cpS kd f1 f2 f3).cells 39 (0, 0)), (rb, .cells CR 30 (0, 0))] w5 from hB2)
    clear hB2 hall K3
    simp only [Yh]
    obtain ⟨rv, hrv0⟩ : ∃ rv, chR M kd f1 f2 f3 = rv := ⟨_, rfl⟩
    have HRV := Yh_ hrv0
    clear hrv0
    go_upto_region 14 with (first
     |(have _t := K4; clear _t; refine Ycq 39 rfl ?_; refine Yan (cpS kd f1 f2 f3) wr.heap.size rfl _ rfl rfl (K4.out.get 0 rfl) ?_)
     |(have _t := K4; clear _t; go_at_call 8; refine (Yd9 K4.out (cpS kd f1 f2 f3) (cpS_ok HKD.out HBD.out.1 HBD.out.2.1 HBD.out.2.2) (by rw [HN.out]; have := hq.out; have := HS.out; omega)).mono ?_; rintro e w6 ⟨rfl, hk⟩; rw [cp_doR HKD.out, HRV.out, cp_end HKD.out]; rw [cp_doM HKD.out] at hk; have K4b := Yh_ hk; clear hk K4)
     |(have _t := K4b; clear _t; refine Ybl 39 rfl ?_; refine Yx ((cpS kd f1 f2 f3).setR 0 rv) w6.heap.size rfl _ _ rfl rfl rfl (heap_alloc_new w6 _) rfl ?_; intro w7 hw; have K5 := Yh_ (K4b.out.one hw); clear hw K4b))
    have ct : w7.cell? ⟨w6.heap.size, 0, none⟩ = some (.int .u32 rv) := (Ya (K5.out.get 0 rfl) 0).trans (St.cR _ 0 (by decide))
    have cs : w7.cell? ⟨wr.heap.size, 0, none⟩ = some (.int .u32 kd) := (Ya (K5.out.get 1 rfl) 0).trans (St.cR _ 0 (by decide))
    have r1 : w7.cell? ⟨gl, ol + q.toNat * 4 + 1, none⟩ = some (.int .u32 f1) := (by have h := HC4.out w7 K5.out.u q.toNat HI.out 1 (by decide); rw [HF.out.2.1] at h; exact h)
    have r2 : w7.cell? ⟨gl, ol + q.toNat * 4 + 2, none⟩ = some (.int .u32 f2) := (by have h := HC4.out w7 K5.out.u q.toNat HI.out 2 (by decide); rw [HF.out.2.2.1] at h; exact h)
    have r3 : w7.cell? ⟨gl, ol + q.toNat * 4 + 3, none⟩ = some (.int .u32 f3) := (by have h := HC4.out w7 K5.out.u q.toNat HI.out 3 (by decide); rw [HF.out.2.2.2] at h; exact h)
    obtain ⟨rem, hrem⟩ : ∃ rem, f1 % 256 = rem := ⟨_, rfl⟩
    have e1 : f1.tmod 256 = rem := by rw [Int.tmod_eq_emod_of_nonneg b1.1, hrem]
    by_cases g1 : rem = 0
    ·by_cases g2 : f2 ≤ 64
     ·by_cases g3 : kd = 91 ∨ f3 ≤ 7
      ·obtain ⟨pq, hpq⟩ : ∃ pq, f1 / 256 = pq := ⟨_, rfl⟩
       have e4 : f1.tdiv 256 = pq := by rw [Int.tdiv_eq_ediv_of_nonneg b1.1, hpq]
       have e5 : wrap64 pq = pq := by unfold wrap64; omega
       have e8 : pq % 4294967296 = pq := by omega
       have e6 : wrap64 f2 = f2 := by unfold wrap64; omega
       have e7 : wrap64 f3 = f3 := by unfold wrap64; omega
       have dB : decide (f2 ≤ 64) = true := by simp [g2]
       have HP := Yh_ (show (f1 % 256 = 0 ∧ f2 ≤ 64 ∧ f1 / 256 = pq) ∧ -9223372036854775808 ≤ f2 ∧ f2 ≤ 9223372036854775807 by omega)
       subst g1
       have hz0 : ((0 : Int) == 0) = true := rfl
       have HG3 := Yh_ g3
       clear hrem g2 hpq
       have tk9 : True := trivial
       have step : ∀ (d1 : (kd == 91) = true ∨ ((kd == 91) = false ∧ decide (f3 ≤ 7) = true)), True := fun _ => trivial
       rcases HKD.out with rfl | rfl | rfl
       ·clear step g3
        go_upto_region 16 with fail
        refine Yr 22 (fun w1 => ∃ n, w1 = w7.drewN n) (fun _ _ => False) (by kernel_rfl) (by decide +kernel) ⟨1, rfl⟩ (fun _ _ _ h => h.elim) ?_
        simp only [List.take_succ_cons, List.take_zero, List.drop_succ_cons, List.drop_zero]
        iterate 22
         apply Yj rfl rfl
         ·intro K hK w5 hB1
          obtain ⟨n, rfl⟩ := hB1
          go_wp2_with fail
          first | exact hK _ ⟨n, rfl⟩ | exact ⟨n, rfl⟩
         ·exact ⟨_, rfl⟩
        refine Yk (fun _ w8 hB1 => ?_)
        obtain ⟨nn, rfl⟩ := hB1
        have K6 := Yh_ (K5.out.quiet (Yv (Upd.refl [] w7) nn))
        have ct2 : (w7.drewN nn).cell? ⟨w6.heap.size, 0, none⟩ = some (.int .u32 rv) := (Ya (K6.out.get 0 rfl) 0).trans (St.cR _ 0 (by decide))
        have cs2 : (w7.drewN nn).cell? ⟨wr.heap.size, 0, none⟩ = some (.int .u32 91) := (Ya (K6.out.get 1 rfl) 0).trans (St.cR _ 0 (by decide))
        clear K5 ct cs r1 r2 r3
        generalize w7.drewN nn = w7 at K6 ct2 cs2 ⊢
        have ct := ct2
        have cs := cs2
        have K5 := Yh_ K6.out
        clear K6 ct2 cs2
        obtain ⟨z1, z2⟩ := cp_91 (M := M) (x := f1) (y := f2) (z := f3) HP.out.1.1 HP.out.1.2.1
        obtain ⟨bv, hbv⟩ : ∃ bv, M.unmapB pq f2 = bv := ⟨_, rfl⟩
        rw [HP.out.1.2.2, hbv] at z1
        have hrv : rv = cond bv 0 4294967274 := by rw [← HRV.out]; unfold chR; rw [z1]; cases bv <;> rfl
        rw [HP.out.1.2.2] at z2
        rw [z2] at K5
        have HBV := Yh_ hbv
        clear z1 z2 hbv
        cases bv
        ·have hrv2 : rv = 4294967274 := hrv
         clear hrv
         subst hrv2
         go_wp2_with (first
          |(have _t := tk9; clear _t; go_at_call 9; refine (Yfb M rb pq f2 _ (K5.out.ref 2 rfl HR.out) HP.out.2.1 HP.out.2.2).mono ?_; rintro e w8 ⟨rfl, hr, hu⟩; rw [HBV.out]; obtain ⟨C', hh, hk⟩ := K5.out.refPut 2 rfl hr hu; have K6 := Yh_ hk; have HH := Yh_ hh; have ct : w8.cell? ⟨w6.heap.size, 0, none⟩ = some (.int .u32 4294967274) := (Ya (K6.out.get 0 rfl) 0).trans (St.cR _ 0 (by decide)); clear hr hu hh hk K5 tk9)
          |(have _t := K6; clear _t; go_at_call 12; refine (Yaf _ ma pb rb _ K6.out.m (K6.out.ref 2 rfl HH.out)).mono ?_; rintro e w9 ⟨rfl, hu⟩; have K7 := Yh_ (K6.out.quiet hu); clear hu K6))
         try simp only [ewq]
         go_roundw
         case rel => exact ⟨q + 1, _, _, _, rfl, Yh_ (by have := HB1.out; have := hq.out; omega), Yh_ (by rw [show (q + 1).toNat = q.toNat + 1 by have := hq.out; omega]; exact Ybs _ HN.out), HH, Yh_ (K7.out.tail.tail)⟩
         case measure => have := HB1.out; simp only [intOf]; omega
        ·have hrv2 : rv = 0 := hrv
         clear hrv
         subst hrv2
         go_wp2_with (first
          |(have _t := tk9; clear _t; go_at_call 9; refine (Yfb M rb pq f2 _ (K5.out.ref 2 rfl HR.out) HP.out.2.1 HP.out.2.2).mono ?_; rintro e w8 ⟨rfl, hr, hu⟩; rw [HBV.out]; obtain ⟨C', hh, hk⟩ := K5.out.refPut 2 rfl hr hu; have K6 := Yh_ hk; have HH := Yh_ hh; have ct : w8.cell? ⟨w6.heap.size, 0, none⟩ = some (.int .u32 0) := (Ya (K6.out.get 0 rfl) 0).trans (St.cR _ 0 (by decide)); clear hr hu hh hk K5 tk9)
          |(have _t := K6; clear _t; go_at_call 12; refine (Yaf _ ma pb rb _ K6.out.m (K6.out.ref 2 rfl HH.out)).mono ?_; rintro e w9 ⟨rfl, hu⟩; have K7 := Yh_ (K6.out.quiet hu); clear hu K6))
         try simp only [ewq]
         go_roundw
         case rel => exact ⟨q + 1, _, _, _, rfl, Yh_ (by have := HB1.out; have := hq.out; omega), Yh_ (by rw [show (q + 1).toNat = q.toNat + 1 by have := hq.out; omega]; exact Ybs _ HN.out), HH, Yh_ (K7.out.tail.tail)⟩
         case measure => have := HB1.out; simp only [intOf]; omega
       ·have dF : decide (f3 ≤ 7) = true := by have := HG3.out; simp; omega
        clear step g3
        go_upto_region 16 with fail
        refine Yr 22 (fun w1 => ∃ n, w1 = w7.drewN n) (fun _ _ => False) (by kernel_rfl) (by decide +kernel) ⟨1, rfl⟩ (fun _ _ _ h => h.elim) ?_
        simp only [List.take_succ_cons, List.take_zero, List.drop_succ_cons, List.drop_zero]
        iterate 22
         apply Yj rfl rfl
         ·intro K hK w5 hB1
          obtain ⟨n, rfl⟩ := hB1
          go_wp2_with fail
          first | exact hK _ ⟨n, rfl⟩ | exact ⟨n, rfl⟩
         ·exact ⟨_, rfl⟩
        refine Yk (fun _ w8 hB1 => ?_)
        obtain ⟨nn, rfl⟩ := hB1
        have K6 := Yh_ (K5.out.quiet (Yv (Upd.refl [] w7) nn))
        have ct2 : (w7.drewN nn).cell? ⟨w6.heap.size, 0, none⟩ = some (.int .u32 rv) := (Ya (K6.out.get 0 rfl) 0).trans (St.cR _ 0 (by decide))
        have cs2 : (w7.drewN nn).cell? ⟨wr.heap.size, 0, none⟩ = some (.int .u32 125) := (Ya (K6.out.get 1 rfl) 0).trans (St.cR _ 0 (by decide))
        clear K5 ct cs r1 r2 r3
        generalize w7.drewN nn = w7 at K6 ct2 cs2 ⊢
        have ct := ct2
        have cs := cs2
        have K5 := Yh_ K6.out
        clear K6 ct2 cs2
        obtain ⟨z1, z2⟩ := cp_125 (M := M) (x := f1) (y := f2) (z := f3) HP.out.1.1 HP.out.1.2.1 (by have := HG3.out; omega)
        obtain ⟨bv, hbv⟩ : ∃ bv, M.protB pq f2 f3 = bv := ⟨_, rfl⟩
        rw [HP.out.1.2.2, hbv] at z1
        have hrv : rv = cond bv 0 4294967274 := by rw [← HRV.out]; unfold chR; rw [z1]; cases bv <;> rfl
        rw [HP.out.1.2.2] at z2
        rw [z2] at K5
        have HBV := Yh_ hbv
        clear z1 z2 hbv
        cases bv
        ·have hrv2 : rv = 4294967274 := hrv
         clear hrv
         subst hrv2
         go_wp2_with (first
          |(have _t := tk9; clear _t; go_at_call 10; refine (Yds M rb pq f2 f3 _ (K5.out.ref 2 rfl HR.out) HP.out.2.1 HP.out.2.2).mono ?_; rintro e w8 ⟨rfl, hr, hu⟩; rw [HBV.out]; obtain ⟨C', hh, hk⟩ := K5.out.refPut 2 rfl hr hu; have K6 := Yh_ hk; have HH := Yh_ hh; have ct : w8.cell? ⟨w6.heap.size, 0, none⟩ = some (.int .u32 4294967274) := (Ya (K6.out.get 0 rfl) 0).trans (St.cR _ 0 (by decide)); clear hr hu hh hk K5 tk9)
          |(have _t := K6; clear _t; go_at_call 12; refine (Yaf _ ma pb rb _ K6.out.m (K6.out.ref 2 rfl HH.out)).mono ?_; rintro e w9 ⟨rfl, hu⟩; have K7 := Yh_ (K6.out.quiet hu); clear hu K6))
         try simp only [ewq]
         go_roundw
         case rel => exact ⟨q + 1, _, _, _, rfl, Yh_ (by have := HB1.out; have := hq.out; omega), Yh_ (by rw [show (q + 1).toNat = q.toNat + 1 by have := hq.out; omega]; exact Ybs _ HN.out), HH, Yh_ (K7.out.tail.tail)⟩
         case measure => have := HB1.out; simp only [intOf]; omega
        ·have hrv2 : rv = 0 := hrv
         clear hrv
         subst hrv2
         go_wp2_with (first
          |(have _t := tk9; clear _t; go_at_call 10; refine (Yds M rb pq f2 f3 _ (K5.out.ref 2 rfl HR.out) HP.out.2.1 HP.out.2.2).mono ?_; rintro e w8 ⟨rfl, hr, hu⟩; rw [HBV.out]; obtain ⟨C', hh, hk⟩ := K5.out.refPut 2 rfl hr hu; have K6 := Yh_ hk; have HH := Yh_ hh; have ct : w8.cell? ⟨w6.heap.size, 0, none⟩ = some (.int .u32 0) := (Ya (K6.out.get 0 rfl) 0).trans (St.cR _ 0 (by decide)); clear hr hu hh hk K5 tk9)
          |(have _t := K6; clear _t; go_at_call 12; refine (Yaf _ ma pb rb _ K6.out.m (K6.out.ref 2 rfl HH.out)).mono ?_; rintro e w9 ⟨rfl, hu⟩; have K7 := Yh_ (K6.out.quiet hu); clear hu K6))
         try simp only [ewq]
         go_roundw
         case rel => exact ⟨q + 1, _, _, _, rfl, Yh_ (by have := HB1.out; have := hq.out; omega), Yh_ (by rw [show (q + 1).toNat = q.toNat + 1 by have := hq.out; omega]; exact Ybs _ HN.out), HH, Yh_ (K7.out.tail.tail)⟩
         case measure => have := HB1.out; simp only [intOf]; omega
       ·have dF : decide (f3 ≤ 7) = true := by have := HG3.out; simp; omega
        clear step g3
        go_upto_region 16 with fail
        refine Yr 22 (fun w1 => ∃ n, w1 = w7.drewN n) (fun _ _ => False) (by kernel_rfl) (by decide +kernel) ⟨1, rfl⟩ (fun _ _ _ h => h.elim) ?_
        simp only [List.take_succ_cons, List.take_zero, List.drop_succ_cons, List.drop_zero]
        iterate 22
         apply Yj rfl rfl
         ·intro K hK w5 hB1
          obtain ⟨n, rfl⟩ := hB1
          go_wp2_with fail
          first | exact hK _ ⟨n, rfl⟩ | exact ⟨n, rfl⟩
         ·exact ⟨_, rfl⟩
        refine Yk (fun _ w8 hB1 => ?_)
        obtain ⟨nn, rfl⟩ := hB1
        have K6 := Yh_ (K5.out.quiet (Yv (Upd.refl [] w7) nn))
        have ct2 : (w7.drewN nn).cell? ⟨w6.heap.size, 0, none⟩ = some (.int .u32 rv) := (Ya (K6.out.get 0 rfl) 0).trans (St.cR _ 0 (by decide))
        have cs2 : (w7.drewN nn).cell? ⟨wr.heap.size, 0, none⟩ = some (.int .u32 192) := (Ya (K6.out.get 1 rfl) 0).trans (St.cR _ 0 (by decide))
        clear K5 ct cs r1 r2 r3
        generalize w7.drewN nn = w7 at K6 ct2 cs2 ⊢
        have ct := ct2
        have cs := cs2
        have K5 := Yh_ K6.out
        clear K6 ct2 cs2
        obtain ⟨z1, z2⟩ := cp_192 (M := M) (x := f1) (y := f2) (z := f3) HP.out.1.1 HP.out.1.2.1 (by have := HG3.out; omega)
        obtain ⟨bv, hbv⟩ : ∃ bv, M.mapB pq f2 f3 = bv := ⟨_, rfl⟩
        rw [HP.out.1.2.2, hbv] at z1
        have hrv : rv = cond bv 0 4294967274 := by rw [← HRV.out]; unfold chR; rw [z1]; cases bv <;> rfl
        rw [HP.out.1.2.2] at z2
        rw [z2] at K5
        have HBV := Yh_ hbv
        clear z1 z2 hbv
        cases bv
        ·have hrv2 : rv = 4294967274 := hrv
         clear hrv
         subst hrv2
         go_wp2_with (first
          |(have _t := tk9; clear _t; go_at_call 11; refine (Ygj M rb pq f2 f3 _ (K5.out.ref 2 rfl HR.out) HP.out.2.1 HP.out.2.2).mono ?_; rintro e w8 ⟨rfl, hr, hu⟩; rw [HBV.out]; obtain ⟨C', hh, hk⟩ := K5.out.refPut 2 rfl hr hu; have K6 := Yh_ hk; have HH := Yh_ hh; have ct : w8.cell? ⟨w6.heap.size, 0, none⟩ = some (.int .u32 4294967274) := (Ya (K6.out.get 0 rfl) 0).trans (St.cR _ 0 (by decide)); clear hr hu hh hk K5 tk9)
          |(have _t := K6; clear _t; go_at_call 12; refine (Yaf _ ma pb rb _ K6.out.m (K6.out.ref 2 rfl HH.out)).mono ?_; rintro e w9 ⟨rfl, hu⟩; have K7 := Yh_ (K6.out.quiet hu); clear hu K6))
         try simp only [ewq]
         go_roundw
         case rel => exact ⟨q + 1, _, _, _, rfl, Yh_ (by have := HB1.out; have := hq.out; omega), Yh_ (by rw [show (q + 1).toNat = q.toNat + 1 by have := hq.out; omega]; exact Ybs _ HN.out), HH, Yh_ (K7.out.tail.tail)⟩
         case measure => have := HB1.out; simp only [intOf]; omega
        ·have hrv2 : rv = 0 := hrv
         clear hrv
         subst hrv2
         go_wp2_with (first
          |(have _t := tk9; clear _t; go_at_call 11; refine (Ygj M rb pq f2 f3 _ (K5.out.ref 2 rfl HR.out) HP.out.2.1 HP.out.2.2).mono ?_; rintro e w8 ⟨rfl, hr, hu⟩; rw [HBV.out]; obtain ⟨C', hh, hk⟩ := K5.out.refPut 2 rfl hr hu; have K6 := Yh_ hk; have HH := Yh_ hh; have ct : w8.cell? ⟨w6.heap.size, 0, none⟩ = some (.int .u32 0) := (Ya (K6.out.get 0 rfl) 0).trans (St.cR _ 0 (by decide)); clear hr hu hh hk K5 tk9)
          |(have _t := K6; clear _t; go_at_call 12; refine (Yaf _ ma pb rb _ K6.out.m (K6.out.ref 2 rfl HH.out)).mono ?_; rintro e w9 ⟨rfl, hu⟩; have K7 := Yh_ (K6.out.quiet hu); clear hu K6))
         try simp only [ewq]
         go_roundw
         case rel => exact ⟨q + 1, _, _, _, rfl, Yh_ (by have := HB1.out; have := hq.out; omega), Yh_ (by rw [show (q + 1).toNat = q.toNat + 1 by have := hq.out; omega]; exact Ybs _ HN.out), HH, Yh_ (K7.out.tail.tail)⟩
         case measure => have := HB1.out; simp only [intOf]; omega
      ·have d3 : (kd == 91) = false := by simp; omega
       have d4 : decide (f3 ≤ 7) = false := by simp; omega
       have dB : decide (f2 ≤ 64) = true := by simp [g2]
       have hno : Yap kd f1 f2 f3 = false := by unfold Yap; simp; omega
       subst g1
       clear hrem g2 g3
       obtain ⟨z1, z2⟩ := cp_no (M := M) hno
       rw [← HRV.out, z1] at K5
       rw [z2] at K5
       have hrv : rv = 4294967274 := by rw [← HRV.out, z1]
       subst hrv
       clear hno z1 z2
       go_wp2_with (have _t := K5; clear _t; go_at_call 12; refine (Yaf M ma pb rb _ K5.out.m (K5.out.ref 2 rfl HR.out)).mono ?_; rintro e w8 ⟨rfl, hu⟩; have K6 := Yh_ (K5.out.quiet hu); clear hu K5)
       try simp only [ewq]
       go_roundw
       case rel => exact ⟨q + 1, _, _, _, rfl, Yh_ (by have := HB1.out; have := hq.out; omega), Yh_ (by rw [show (q + 1).toNat = q.toNat + 1 by have := hq.out; omega]; exact Ybs _ HN.out), HR, Yh_ (K6.out.tail.tail)⟩
       case measure => have := HB1.out; simp only [intOf]; omega
     ·have dB : decide (f2 ≤ 64) = false := by simp [g2]
      have hno : Yap kd f1 f2 f3 = false := by unfold Yap; simp [g2]
      subst g1
      clear hrem g2
      obtain ⟨z1, z2⟩ := cp_no (M := M) hno
      rw [← HRV.out, z1] at K5
      rw [z2] at K5
      have hrv : rv = 4294967274 := by rw [← HRV.out, z1]
      subst hrv
      clear hno z1 z2
      go_wp2_with (have _t := K5; clear _t; go_at_call 12; refine (Yaf M ma pb rb _ K5.out.m (K5.out.ref 2 rfl HR.out)).mono ?_; rintro e w8 ⟨rfl, hu⟩; have K6 := Yh_ (K5.out.quiet hu); clear hu K5)
      try simp only [ewq]
      go_roundw
      case rel => exact ⟨q + 1, _, _, _, rfl, Yh_ (by have := HB1.out; have := hq.out; omega), Yh_ (by rw [show (q + 1).toNat = q.toNat + 1 by have := hq.out; omega]; exact Ybs _ HN.out), HR, Yh_ (K6.out.tail.tail)⟩
      case measure => have := HB1.out; simp only [intOf]; omega
    ·have dA : (rem == 0) = false := by simp [g1]
     have hno : Yap kd f1 f2 f3 = false := by unfold Yap; simp; omega
     clear hrem g1
     obtain ⟨z1, z2⟩ := cp_no (M := M) hno
     rw [← HRV.out, z1] at K5
     rw [z2] at K5
     have hrv : rv = 4294967274 := by rw [← HRV.out, z1]
     subst hrv
     clear hno z1 z2
     go_wp2_with (have _t := K5; clear _t; go_at_call 12; refine (Yaf M ma pb rb _ K5.out.m (K5.out.ref 2 rfl HR.out)).mono ?_; rintro e w8 ⟨rfl, hu⟩; have K6 := Yh_ (K5.out.quiet hu); clear hu K5)
     try simp only [ewq]
     go_roundw
     case rel => exact ⟨q + 1, _, _, _, rfl, Yh_ (by have := HB1.out; have := hq.out; omega), Yh_ (by rw [show (q + 1).toNat = q.toNat + 1 by have := hq.out; omega]; exact Ybs _ HN.out), HR, Yh_ (K6.out.tail.tail)⟩
     case measure => have := HB1.out; simp only [intOf]; omega
   ·have hqk : q = ln := by have := hq.out; omega
    subst hqk
    have dlt : decide (q < q) = false := by simp
    clear hlt
    go_wp2_with fail
    go_ret
    exact ⟨rfl, K1.out.u⟩
end
end Go.Proofs.Ytdgclmibbmofcaa
