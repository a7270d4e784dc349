/-
  Parts of the proof (their names shortened by a program). No condition.
-/
import Derived.Test.YteiplidhkelkbaaGreatMg01
import Derived.Test.YteiplidhkelkbaaGreatMg28
import Derived.Test.YteiplidhkelkbaaGreatMg30
import Derived.ChangeSlices
import Derived.Test.YteiplidhkelkbaaGreatMg27
import Derived.Test.YteiplidhkelkbaaGreatMg03
import Derived.Test.YteiplidhkelkbaaGreatMg04
import Derived.Test.YteiplidhkelkbaaGreatMg06
namespace Go.Proofs.YteiplidhkelkbaaGreat
open Go Go.RowKit
set_option linter.unusedVariables false
set_option linter.unusedSimpArgs false
set_option maxRecDepth 100000
set_option maxHeartbeats 16000000
theorem Yiu (M : Mem) (x : Int) : (M.rightAt x == 0) = !M.mappedB x := by
 unfold Mem.rightAt Mem.mappedB
 by_cases h : x < 16384
 ·rw [if_pos h, decide_eq_true h, Bool.true_and]
  cases hz : M.R (x / 256).toNat == 0
  ·simp only [bne, hz]; rfl
  ·simp only [bne, hz]; rfl
 ·rw [if_neg h, decide_eq_false h, Bool.false_and]
  rfl
theorem Ybg.drew {w : World} {r : Nat} {M : Mem} (h : Ybg w r M) : Ybg w.drew r M := ⟨h.ex, h.ok⟩
theorem Yo1 (M : Mem) (r : Nat) (x n : Int) (w : World) (hM : Ybg w r M) (h0 : 0 ≤ x) (h1 : x < 4294967296) :
  Calls Tryz.prog 14 #[.pointer (some ⟨r, 0, none⟩), .int .u32 x, .int .i64 n] w fun e w' =>
   ∃ v, e = .returned v ∧ w'.ownsRow w.heap.size 5 1 v (M.peek x n).length ((M.peek x n).map (Value.int .u8)) ∧ Upd [] w w' := by
 obtain ⟨i0, hi, hz0, hz1, hz2⟩ := info_parts Yl1
 have HI := Yh_ (And.intro hi (And.intro hz0 (And.intro hz1 hz2)))
 clear hi hz0 hz1 hz2
 obtain ⟨k, hk⟩ : ∃ k : Nat, (min n 16384).toNat = k := ⟨_, rfl⟩
 have hk2 : Hid (k ≤ 16384) := Yh_ (by omega)
 have HK := Yh_ hk
 have hmin : (min n 16384 < 0 ∧ k = 0) ∨ (0 ≤ min n 16384 ∧ min n 16384 = k) := by omega
 have HMin := Yh_ hmin
 clear hk hmin
 have hfin : ∀ (j : Nat) (v : Value) (w' : World), j = M.peekN x k → w'.ownsRow w.heap.size 5 1 v j ((M.peekL x j).map (Value.int .u8)) → Upd [] w w' →
   ∃ u, Ending.returned v = .returned u ∧ w'.ownsRow w.heap.size 5 1 u (M.peek x n).length ((M.peek x n).map (Value.int .u8)) ∧ Upd [] w w' := by
  intro j v w' hj ho hU
  refine ⟨v, rfl, ?_, hU⟩
  simp only [Mem.peek, HK.out, ← hj, Yjr]
  exact ho
 have HF := Yh_ hfin
 clear hfin
 have hrl := hM.lt
 go_enter Tryz.func14, Tryz.ntmps14
 go_wp2_with fail
 go_loopw [7, 8, 9] (fun v i _ wr => ∃ j : Nat, j ≤ k ∧ i = .int .i64 j ∧ (∀ t, t < j → M.mappedB (Yw x t) = true) ∧ Ybg wr r M ∧ Upd [] w wr ∧ wr.ownsRow w.heap.size 5 1 v j ((M.peekL x j).map (Value.int .u8))) (fun v _ _ _ => k - Ykg v)
 case atStart => exact ⟨0, Nat.zero_le _, rfl, by simp, hM, Upd.refl _ _, World.ownsRow_nil _ _ _ _⟩
 case round =>
  obtain ⟨j, hj, rfl, hc, hm, hU, ho⟩ := hrel
  have HC := Yh_ hc
  have HM := Yh_ hm
  have HU := Yh_ hU
  have HO := Yh_ ho
  clear hc hm hU ho hM
  obtain ⟨sb, sc, rfl⟩ := Ygt HO.out
  have hplt := Yki x j
  have hpn := Ybf x j
  by_cases hlt : j < k
  ·have hmn : (j : Int) < n := by have := HMin.out; omega
   have h16 : (j : Int) < 16384 := by have := hk2.out; omega
   have q2 : (x + (j : Int)) % 4294967296 = Yw x j := rfl
   cases hb : M.mappedB (Yw x j)
   ·have HB := Yh_ hb
    have HR := Yh_ (show (M.rightAt (Yw x j) == 0) = true by rw [Yiu, hb]; rfl)
    clear hb
    go_wp2_with (go_at_call 26; refine (Yie M r (Yw x j) _ HM.out (Ybf x j)).mono ?_; rintro e w' ⟨rfl, rfl⟩; have hr0 := HR.out)
    go_ret
    exact HF.out j _ _ (Yjb M x k j hlt HC.out HB.out).symm HO.out HU.out
   ·have HB := Yh_ hb
    have HR := Yh_ (show (M.rightAt (Yw x j) == 0) = false by rw [Yiu, hb]; rfl)
    clear hb
    have hx := Yex HB.out
    have cb := HM.out.cB (Yw x j).toNat (by omega)
    go_wp2_with (first | (go_at_call 26; refine (Yie M r (Yw x j) _ HM.out (Ybf x j)).mono ?_; rintro e w' ⟨rfl, rfl⟩; have hr0 := HR.out) | (at_builtin; refine wpList_append_own _ rfl _ _ 45 rfl w.heap.size 5 i0 (.int .u8 0) 1 1 Tryz.underlying45 HI.out.1 HI.out.2.1 HI.out.2.2.1 HI.out.2.2.2 rfl (by decide) _ _ _ rfl (HO.out.alloc _) ⟨wr.heap.size, 0, none⟩ 1 1 [.int .u8 (M.B (Yw x j).toNat)] rfl rfl (Ykk _ _ _) (Yhe _ _) (by have := hk2.out; unfold maxLen; omega) (by have := hk2.out; omega) (by have := HU.out.size; simp; omega) ?_))
    intro v' w1 hown' hgrow _
    have hU1 := Upd.of_grown hgrow
    have hlt' := HO.out.lt
    have hU2 : Upd (Value.slice sb j sc).ownBlock.toList wr w1 := ((Upd.refl [] wr).alloc _).trans hU1 (by simp) (fun z hz => .inl hz)
    have hne : ∀ z, z ∈ (Value.slice sb j sc).ownBlock.toList → w.heap.size ≤ z := fun z hz => (hlt' z (by simpa using hz)).1
    have hm' := HM.out.keep hU2 (fun h => by have := hne _ h; omega)
    have hu' := HU.out.new hU2 hne
    have HM' := Yh_ hm'
    have HU' := Yh_ hu'
    have HO' := Yh_ hown'
    clear hm' hu' hown' hgrow hU1 hU2 hne hlt' cb
    go_wp2_with fail
    go_roundw
    case rel => exact ⟨j + 1, by omega, by go_num, fun t ht => by
      by_cases e : t = j
      ·subst e; exact HB.out
      ·exact HC.out t (by omega), HM'.out, HU'.out, by rw [Yi5, List.map_append]; exact HO'.out⟩
    case measure => rw [Yjx HO'.out]; simp [Ykg]; omega
  ·have hjk : j = k := by omega
   have hpk : j = M.peekN x k := by rw [hjk, Yjw M x k (fun t ht => HC.out t (by omega))]
   have HP := Yh_ hpk
   have hmin := HMin.out
   by_cases hmn : (j : Int) < n
   ·have h16 : ¬ (j : Int) < 16384 := by omega
    clear hmin hpk hjk
    go_wp2_with fail
    go_ret
    exact HF.out j _ _ HP.out HO.out HU.out
   ·clear hmin hpk hjk
    go_wp2_with fail
    go_ret
    exact HF.out j _ _ HP.out HO.out HU.out
structure Rep (v : Value) (l : List Value) (n : Nat) : Prop where
 eq : l = List.replicate n v
theorem Rep.append {v : Value} {l m : List Value} {a b : Nat} (h : Rep v l a) (k : Rep v m b) : Rep v (l.append m) (a + b) :=
 ⟨by rw [h.eq, k.eq]; exact List.replicate_append_replicate⟩
structure Rep2 (v u : Value) (l : List Value) (n m : Nat) : Prop where
 eq : l = List.replicate n v ++ List.replicate m u
theorem Rep2.append {v u : Value} {l l' : List Value} {n m m' : Nat} (h : Rep2 v u l n m) (k : Rep u l' m') : Rep2 v u (l.append l') n (m + m') :=
 ⟨by rw [h.eq, k.eq]; show (List.replicate n v ++ List.replicate m u) ++ List.replicate m' u = _; rw [List.append_assoc, List.replicate_append_replicate]⟩
theorem Rep.leaf {v : Value} {l : List Value} (h : l = List.replicate l.length v) : Rep v l l.length := ⟨h⟩
theorem Rep2.leaf {v u : Value} {l : List Value} (h : l = List.replicate l.length v) : Rep2 v u l l.length 0 := ⟨by rw [List.replicate_zero, List.append_nil]; exact h⟩
theorem Ymf : ∃ l n m, Tryz.t58.zero = some (.agg l.toArray) ∧ Rep2 (.int .i64 0) (.int .u8 0) l n m ∧ n = 64 ∧ m = 16384 := by
 apply Exists.intro
 apply Exists.intro
 apply Exists.intro
 apply And.intro
 ·unfold Tryz.t58; exact rfl
 apply And.intro
 ·repeat (first | (with_reducible apply Rep2.append) | (with_reducible apply Rep.append) | exact Rep.leaf (by kernel_rfl) | exact Rep2.leaf (by kernel_rfl))
 ·exact ⟨by kernel_rfl, by kernel_rfl⟩
theorem zero_ref : ∃ Z : Array Value, Tryz.t58.zero = some (.agg Z) ∧ Yh6 Z Mem.zero := by
 obtain ⟨l, n, m, h, k, hn, hm⟩ := Ymf
 have hk := k.eq
 clear k
 refine ⟨l.toArray, h, ?_, fun i hi => ?_⟩
 ·clear h
  rw [List.size_toArray, hk, List.length_append, List.length_replicate, List.length_replicate, hn, hm]
 ·clear h
  rw [hk, List.getElem?_toArray]
  by_cases h64 : i < 64
  ·rw [List.getElem?_append_left (by rw [List.length_replicate]; omega), List.getElem?_replicate, if_pos (by omega), Mem.rat, if_pos h64]
   rfl
  ·rw [List.getElem?_append_right (by rw [List.length_replicate]; omega), List.length_replicate, List.getElem?_replicate, if_pos (by omega), Mem.rat, if_neg h64]
   rfl
theorem info_ref : Tryz.prog.info? 58 = some Tryz.t58 := by kernel_rfl
theorem Yjp : ∃ Z : Array Value, Yh6 Z Mem.zero ∧ ∀ w, (Instr.build 58 #[]).run Tryz.prog w = .ok (.agg Z) w := by
 obtain ⟨Z, hz, hZ⟩ := zero_ref
 refine ⟨Z, hZ, fun w => ?_⟩
 have hz' : (zeroValue 58).run Tryz.prog w = .ok (.agg Z) w := by
  generalize hT : Tryz.t58 = T at hz
  have hi := info_ref
  rw [hT] at hi
  clear hT
  simp [zeroValue, typeInfo, hi, hz]
 clear hz
 unfold Instr.build
 simp only [Sem.run_bind, hz', Result.andThen_ok, Tryz.runUnderlying58]
 simp only [Array.mapM_eq_mapM_toList, List.mapM_cons, List.mapM_nil, Sem.run_bind, Sem.run_pure, Result.andThen_ok, Sem.run_map]
 have h49 : ∀ w, (sizeOf 55).run Tryz.prog w = .ok 64 w := Tryz.sizeOf55
 have h50 : ∀ w, (sizeOf 56).run Tryz.prog w = .ok 16384 w := Tryz.sizeOf56
 simp only [h49, h50, Result.andThen_ok]
 rfl
theorem Yjm : (Tryz.prog.info? 58).map (·.size) = some 16448 := by kernel_rfl
theorem rat_one (M : Mem) (k : Nat) : (M.rat k).oneCell' = true := by
 unfold Mem.rat; split <;> rfl
theorem Yh6.one {C : Array Value} {M : Mem} (h : Yh6 C M) : C.all (·.oneCell') = true := by
 rw [Array.all_eq_true]
 intro i hi
 have hi' : i < 16448 := by rw [← h.size]; exact hi
 have e := h.get i hi'
 rw [Array.getElem?_eq_getElem hi] at e
 injection e with e
 rw [e]
 exact rat_one M i
theorem Ybg.new {w : World} {C : Array Value} {M : Mem} (h : Yh6 C M) (hok : M.Ok) : Ybg (w.alloc (.cells C 58 (0, 0))) w.heap.size M := ⟨⟨C, h, heap_alloc_new _ _⟩, hok⟩
theorem Yqk (s : ByteArray) (k : Nat) (h : k < s.size) : (Yc7 s).getD k 0 = ((s[k].toNat : Nat) : Int) := by
 have hi' : k < s.data.size := h
 rw [List.getD_eq_getElem?_getD, Yc7, List.getElem?_map, Array.getElem?_toList, Array.getElem?_eq_getElem hi']
 rfl
def Mem.strN (M : Mem) (o : Nat) (s : ByteArray) : Nat → Mem
 |0 => M
 |k + 1 => (M.strN o s k).setB (o + k) ((Yc7 s).getD k 0)
theorem Ylq (M : Mem) (p : Int) (hp0 : 0 ≤ p) (s : ByteArray) : ∀ k : Nat, p * 256 + k ≤ 16384 → M.pokeN (p * 256) (Yc7 s) k = M.strN (p.toNat * 256) s k
 |0, _ => rfl
 |k + 1, h => by
  rw [Mem.pokeN, Mem.strN, Ylq M p hp0 s k (by omega)]
  congr 1
  unfold Yw
  omega
theorem Yvl {M : Mem} {s : Ych} (hb : M.spanB s = true) : M.span1 s = (M.mapN s.pg.toNat s.ct.toNat s.rt).strN (s.pg.toNat * 256) s.by_ s.by_.size := by
 simp only [Mem.spanB, Bool.and_eq_true, decide_eq_true_eq] at hb
 obtain ⟨hm, hs⟩ := hb
 have hrow := Yk8 hm
 have hr : Yfa s.rt = true := by simp only [Mem.mapB, Bool.and_eq_true] at hm; exact hm.1
 have hr1 := (Yf5 _).1 hr
 have hp : (M.mapN s.pg.toNat s.ct.toNat s.rt).pokeB (s.pg * 256) (Yc7 s.by_) = true := by
  simp only [Mem.pokeB, Bool.and_eq_true, decide_eq_true_eq, List.all_eq_true, List.mem_range, Yep]
  refine ⟨by omega, fun i hi => ?_⟩
  have e : Yw (s.pg * 256) i = s.pg * 256 + i := by unfold Yw; omega
  simp only [Mem.mappedB, e, Mem.mapN]
  rw [decide_eq_true (by omega), Bool.true_and, if_pos (by omega)]
  simp; omega
 rw [Mem.span1, Mem.poke, hp, if_pos rfl, Yep, Ylq _ _ hrow.1 _ _ (by omega)]
theorem Yms {w : World} {r : Nat} {C D : Array Value} {M : Mem} (h : Yh6 C M) (hb : w.heap[r]? = some (.cells D 58 (0, 0))) (hd : D.size = 16448) (hok : M.Ok) : Ybg (w.setCells r 0 C.toList) r M := by
 have hl : C.toList.length = 16448 := by rw [Array.length_toList, h.size]
 refine ⟨⟨_, ⟨by rw [Yl0, hd], fun k hk => ?_⟩, Ybw _ _ _ _ hb⟩, hok⟩
 rw [Yhh _ _ _ _ (by rw [hl, hd]; omega), if_pos (by rw [hl]; omega), Nat.sub_zero, Array.getElem?_toList, h.get k hk]
theorem Load_ref (M : Mem) (r g : Nat) (v : Value) (l : List Ych) (w : World) (hM : Ybg w r M) (hl : Yhz w v l g) (hok : ∀ s, s ∈ l → s.ok) :
  Calls Tryz.prog 21 #[.pointer (some ⟨r, 0, none⟩), v] w fun e w' => e = .returned (.int .i64 (errI (Ydr l) 60)) ∧ Ybg w' r (Yfl l M) ∧ Upd [r] w w' := by
 have hmo : Tryz.prog.follows .mixedOrders = true := by kernel_rfl
 obtain ⟨Z, hZ, hbuild⟩ := Yjp
 have HZ := Yh_ hZ
 have HBu := Yh_ hbuild
 have HM := Yh_ hM
 have HL := Yh_ hl
 have hrl := hM.lt
 clear hM hZ hbuild
 have hl2 := hl
 clear hl
 rcases hl2 with ⟨x, c, rfl, rfl⟩ | ⟨o, c, rfl, hg, hlen, hc⟩
 ·go_enter Tryz.func21, Tryz.ntmps21
  go_wp2_with (refine Yft rfl 58 [] rfl [] rfl (.agg Z) (HBu.out _) ?_)
  go_loopw [6, 7, 8] (fun i _ _ wr => i = .int .i64 0 ∧ Ybg wr w.heap.size Mem.zero ∧ Upd [] w wr) (fun _ _ _ _ => 0)
  case atStart => exact ⟨rfl, Ybg.new HZ.out Mem.zero_ok, (Upd.refl _ _).alloc _⟩
  case round =>
   obtain ⟨rfl, hN, hU⟩ := hrel
   have HN := Yh_ hN
   have HU := Yh_ hU
   clear hN hU
   have hyes := Yh_ (show Ydr [] = true from rfl)
   obtain ⟨C, hC1, hC2⟩ := HN.out.ex
   obtain ⟨D, hD1, hD2⟩ := HM.out.ex
   have hD2' := HU.out.get hD2 (by simp)
   have HC1 := Yh_ hC1
   have HC2 := Yh_ (Yfc hC2)
   have HCS := Yh_ hC1.size
   have HD2 := Yh_ hD2'
   have HDS := Yh_ hD1.size
   clear hC1 hC2 hD1 hD2 hD2'
   go_wp2_with (first | (refine Ydq rfl 58 _ rfl w.heap.size 0 rfl C _ HC2.out Tryz.underlying58 rfl (by rw [HCS.out]; exact Yjm) ?_) | (refine Ydj rfl 58 _ _ rfl r 0 C rfl rfl HD2.out (by rw [HCS.out, HDS.out]; decide) (by rw [HCS.out]; exact Yjm) HC1.out.one ?_))
   go_ret
   exact ⟨by rw [hyes.out]; rfl, by rw [Yj1 hyes.out]; exact Yms HC1.out HD2.out HDS.out HN.out.ok, (HU.out.mono (by simp)).setCells (by simp) _ _⟩
 ·have HC := Yh_ hc
  clear hc
  have HO := Yh_ hok
  clear hok
  go_enter Tryz.func21, Tryz.ntmps21
  go_wp2_with (refine Yft rfl 58 [] rfl [] rfl (.agg Z) (HBu.out _) ?_)
  go_loopw [6, 7, 8] (fun i _ _ wr => ∃ j : Nat, j ≤ l.length ∧ i = .int .i64 j ∧ (∀ k, k < j → (Yc4 l k).spanB (l.getD k default) = true) ∧ Ybg wr w.heap.size (Yc4 l j) ∧ Upd [] w wr) (fun i _ _ _ => l.length - (intOf i).toNat)
  case atStart => exact ⟨0, Nat.zero_le _, rfl, by omega, Ybg.new HZ.out Mem.zero_ok, (Upd.refl _ _).alloc _⟩
  case round =>
   obtain ⟨j, hj, rfl, hall, hN, hU⟩ := hrel
   have hnl := hN.lt
   have HN := Yh_ hN
   have HU := Yh_ hU
   have HA := Yh_ hall
   clear hN hU hall
   by_cases hlt : j < l.length
   ·obtain ⟨s, hs⟩ : ∃ s, l[j]? = some s := ⟨l[j], List.getElem?_eq_getElem hlt⟩
    have hsd : l.getD j default = s := by rw [List.getD_eq_getElem?_getD, hs]; rfl
    have hcs := HL.out.keep HU.out (by simp)
    obtain ⟨c0, c1, c2, c3⟩ : wr.cell? ⟨g, o + j * 4, none⟩ = some (.int .i64 s.pg) ∧ wr.cell? ⟨g, o + j * 4 + 1, none⟩ = some (.int .i64 s.ct) ∧ wr.cell? ⟨g, o + j * 4 + 2, none⟩ = some (.int .i64 s.rt) ∧ wr.cell? ⟨g, o + j * 4 + 3, none⟩ = some (.string s.by_) := by
     rcases hcs with ⟨_, _, hv, _⟩ | ⟨o', c', hv, _, _, h⟩
     ·injection hv with _ e _; omega
     ·injection hv with e _ _
      injection e with e
      injection e with _ e _
      subst e
      exact h j s hs
    have hsm : s.ok := HO.out s (List.mem_of_getElem? hs)
    have HS := Yh_ hsm
    have HSD := Yh_ hsd
    clear hcs hs hsm hsd
    have hmb : (Yc4 l j).mapB s.pg s.ct s.rt = true ∨ (Yc4 l j).mapB s.pg s.ct s.rt = false := by cases (Yc4 l j).mapB s.pg s.ct s.rt <;> simp
    rcases hmb with hmb | hmb
    ·have hrow := Yk8 hmb
     have HB := Yh_ hmb
     clear hmb
     obtain ⟨p1, p2, p3, p4⟩ := hrow
     by_cases hsz : (s.by_.size : Int) ≤ s.ct * 256
     ·go_wp2_with (go_at_call 33; refine (Yma (Yc4 l j) w.heap.size s.pg s.ct s.rt _ (HN.out.keep ((Upd.refl [] _).alloc _) (by simp)) HS.out.1 HS.out.2).mono ?_; rintro e w2 ⟨rfl, hM2, hU2⟩; rw [Mem.mapM, HB.out, if_pos rfl] at hM2; rw [HB.out]; have HM2 := Yh_ hM2; have HU2 := Yh_ hU2; have hc2 := hU2.get (heap_alloc_new _ _) (by simp; omega); have HC2 := Yh_ hc2; have cs2 := Ya hc2; clear hM2 hU2 hc2)
      have hn1 : ∀ x, x ∈ [w.heap.size] → x ∈ ([] : List Nat) ∨ w.heap.size ≤ x := by simp
      obtain ⟨sb, hsb⟩ : ∃ sb, sb = wr.heap.size := ⟨_, rfl⟩
      have HSB := Yh_ hsb
      have hsb' := HC2.out
      rw [← hsb] at hsb'
      have HC2' := Yh_ hsb'
      clear hsb hsb'
      have HUA := Yh_ ((HU.out.alloc _).also HU2.out hn1)
      go_loopw [8] (fun i w3 => ∃ k : Nat, k ≤ s.by_.size ∧ i = .int .i64 k ∧ Ybg w3 w.heap.size (((Yc4 l j).mapN s.pg.toNat s.ct.toNat s.rt).strN (s.pg.toNat * 256) s.by_ k) ∧ w3.heap[sb]? = some (.cells #[.int .i64 s.pg, .int .i64 s.ct, .int .i64 s.rt, .string s.by_] 62 (0, 0)) ∧ Upd [] w w3) (fun i _ => s.by_.size - (intOf i).toNat)
      case atStart => exact ⟨0, Nat.zero_le _, rfl, HM2.out, HC2'.out, HUA.out⟩
      case round =>
       obtain ⟨k, hk, rfl, hN3, hs3, hU3⟩ := hrel
       rw [← HSB.out]
       have HN3 := Yh_ hN3
       have HS3 := Yh_ hs3
       have HU3 := Yh_ hU3
       have cs3 := Ya hs3
       clear hN3 hs3 hU3 cs2
       by_cases hk2 : k < s.by_.size
       ·have hd : decide ((k : Int) < s.by_.size) = true := by simp; omega
        have hlt8 : s.pg * 256 + k < 16384 := by omega
        have hnn8 : 0 ≤ s.pg * 256 + (k : Int) := by omega
        go_wp2_with fail
        refine Ybc 13 (fun w1 => Ybg w1 w.heap.size (((Yc4 l j).mapN s.pg.toNat s.ct.toNat s.rt).strN (s.pg.toNat * 256) s.by_ k) ∧ w1.heap[sb]? = some (.cells #[.int .i64 s.pg, .int .i64 s.ct, .int .i64 s.rt, .string s.by_] 62 (0, 0)) ∧ Upd [] w w1) (fun _ _ => False) (by kernel_rfl) (by decide +kernel) ⟨HN3.out.drew, HS3.out, HU3.out.drew⟩ (fun _ _ _ h => h.elim) ?_
        simp only [List.take_succ_cons, List.take_zero, List.drop_succ_cons, List.drop_zero]
        repeat
         apply Yae rfl rfl
         ·intro K hK w1 hB1
          have cs3 := Ya hB1.2.1
          have HB1 := Yh_ hB1
          clear hB1
          go_wp2_with fail
          exact HB1.out
         ·exact ⟨_, rfl⟩
        refine Yav (fun _ w1 hB1 => ?_)
        have ei : (s.pg * 256 + (k : Int)).toNat = s.pg.toNat * 256 + k := by omega
        have cb := hB1.1.cB (s.pg.toNat * 256 + k) (by omega)
        have fb := hB1.1.free (64 + (s.pg.toNat * 256 + k))
        rw [← ei] at cb fb
        have EI := Yh_ ei
        have HB1 := Yh_ hB1
        clear hB1 ei
        go_wp2_with fail
        have hgd : ((s.by_[k].toNat : Nat) : Int) = (Yc7 s.by_).getD k 0 := (Yqk s.by_ k hk2).symm
        rw [hgd, EI.out]
        go_roundw
        case rel => exact ⟨k + 1, by omega, by go_num, HB1.out.1.setB (s.pg.toNat * 256 + k) ((Yc7 s.by_).getD k 0) (by omega) (Yi7 _ _).1 (Yi7 _ _).2, Yq _ (by simp; have := HSB.out; omega) HB1.out.2.1, HB1.out.2.2.setCell (by simp) _⟩
        case measure => simp [intOf]; omega
       ·have hd : decide ((k : Int) < s.by_.size) = false := by simp; omega
        have hke : k = s.by_.size := by omega
        have HKE := Yh_ hke
        clear hke
        go_wp2_with fail
        go_roundw
        case rel =>
         refine ⟨j + 1, by omega, by go_num, fun t ht => ?_, ?_, HU3.out⟩
         ·by_cases e : t = j
          ·subst e
           rw [HSD.out, Mem.spanB, HB.out]
           simpa using hsz
          ·exact HA.out t (by omega)
         ·rw [Yc4, HSD.out, Yvl (by rw [Mem.spanB, HB.out]; simpa using hsz), ← HKE.out]
          exact HN3.out
        case measure => simp [intOf]; omega
     ·have hsz' : s.ct * 256 < s.by_.size := by omega
      go_wp2_with (go_at_call 33; refine (Yma (Yc4 l j) w.heap.size s.pg s.ct s.rt _ (HN.out.keep ((Upd.refl [] _).alloc _) (by simp)) HS.out.1 HS.out.2).mono ?_; rintro e w2 ⟨rfl, hM2, hU2⟩; rw [Mem.mapM, HB.out, if_pos rfl] at hM2; rw [HB.out]; have HM2 := Yh_ hM2; have HU2 := Yh_ hU2; have hc2 := hU2.get (heap_alloc_new _ _) (by simp; omega); have HC2 := Yh_ hc2; have cs2 := Ya hc2; clear hM2 hU2 hc2)
      go_ret
      have hn : ∀ x, x ∈ [w.heap.size] → x ∈ ([] : List Nat) ∨ w.heap.size ≤ x := by simp
      have hno : Ydr l = false := Yjo hlt (by rw [HSD.out, Mem.spanB]; simp; omega)
      have hU' := (HU.out.alloc _).also HU2.out hn
      exact ⟨by rw [hno]; rfl, by rw [Yib hno]; exact HM.out.keep hU' (by simp), hU'.mono (by simp)⟩
    ·have HB := Yh_ hmb
     clear hmb
     go_wp2_with (go_at_call 33; refine (Yma (Yc4 l j) w.heap.size s.pg s.ct s.rt _ (HN.out.keep ((Upd.refl [] _).alloc _) (by simp)) HS.out.1 HS.out.2).mono ?_; rintro e w2 ⟨rfl, hM2, hU2⟩; rw [HB.out]; have HU2 := Yh_ hU2; clear hM2 hU2)
     go_ret
     have hn : ∀ x, x ∈ [w.heap.size] → x ∈ ([] : List Nat) ∨ w.heap.size ≤ x := by simp
     have hno : Ydr l = false := Yjo hlt (by rw [HSD.out, Mem.spanB, HB.out]; rfl)
     have hU' := (HU.out.alloc _).also HU2.out hn
     exact ⟨by rw [hno]; rfl, by rw [Yib hno]; exact HM.out.keep hU' (by simp), hU'.mono (by simp)⟩
   ·have e : j = l.length := by omega
    subst e
    have hyes := Yh_ (Ym4 HA.out)
    obtain ⟨C, hC1, hC2⟩ := HN.out.ex
    obtain ⟨D, hD1, hD2⟩ := HM.out.ex
    have hD2' := HU.out.get hD2 (by simp)
    have HC1 := Yh_ hC1
    have HC2 := Yh_ (Yfc hC2)
    have HCS := Yh_ hC1.size
    have HD2 := Yh_ hD2'
    have HDS := Yh_ hD1.size
    clear hC1 hC2 hD1 hD2 hD2'
    go_wp2_with (first | (refine Ydq rfl 58 _ rfl w.heap.size 0 rfl C _ HC2.out Tryz.underlying58 rfl (by rw [HCS.out]; exact Yjm) ?_) | (refine Ydj rfl 58 _ _ rfl r 0 C rfl rfl HD2.out (by rw [HCS.out, HDS.out]; decide) (by rw [HCS.out]; exact Yjm) HC1.out.one ?_))
    go_ret
    exact ⟨by rw [hyes.out]; rfl, by rw [Yj1 hyes.out]; exact Yms HC1.out HD2.out HDS.out HN.out.ok, (HU.out.mono (by simp)).setCells (by simp) _ _⟩
section
open Go.WideShapes Go.ChangeShapes
def ByS0 (w : World) (v : Value) (l : List Int) (g : Nat) : Prop := (∃ a c, v = .slice a 0 c ∧ l = []) ∨ (l ≠ [] ∧ g < w.heap.size ∧ Yb0 w v l g)
theorem ByS0.keep {w w' : World} {v : Value} {l : List Int} {g : Nat} (h : ByS0 w v l g) (u : Upd [] w w') : ByS0 w' v l g := by
 rcases h with h | ⟨h0, h1, h2⟩
 ·exact .inl h
 ·exact .inr ⟨h0, Nat.lt_of_lt_of_le h1 u.size, h2.keep u (by simp)⟩
structure Ykl where
 wt : Int
 pg : Int
 ct : Int
 rt : Int
 nb : Int
 at_ : Int
 v : Int
 vb : Value
 vs : Value
 B : List Int
 S : List Ych
 gb : Nat
 gs : Nat
def Ykl.cells (s : Ykl) : Array Value := #[.int .i64 s.wt, .int .i64 s.pg, .int .i64 s.ct, .int .i64 s.rt, .int .i64 s.nb, .int .u32 s.at_, .int .u32 s.v, s.vb, s.vs]
structure Ykl.Good (q : Ykl) (w : World) : Prop where
 pg : -9223372036854775808 ≤ q.pg ∧ q.pg ≤ 9223372036854775807
 ct : -9223372036854775808 ≤ q.ct ∧ q.ct ≤ 9223372036854775807
 nb : -9223372036854775808 ≤ q.nb ∧ q.nb ≤ 9223372036854775807
 at_ : 0 ≤ q.at_ ∧ q.at_ < 4294967296
 v : 0 ≤ q.v ∧ q.v < 4294967296
 b : ByS0 w q.vb q.B q.gb
 bl : ∀ i, 0 ≤ q.B.getD i 0 ∧ q.B.getD i 0 ≤ 255
 bn : q.B.length ≤ maxLen
 bf : ∃ b c, q.vb = .slice b q.B.length c
 sa : Ygx w q.vs q.S q.gs
 sf : ∃ b c, q.vs = .slice b q.S.length c
theorem Ykl.Good.keep {s : Ykl} {w w' : World} (h : s.Good w) (u : Upd [] w w') : s.Good w' := ⟨h.pg, h.ct, h.nb, h.at_, h.v, h.b.keep u, h.bl, h.bn, h.bf, h.sa.keep u, h.sf⟩
end
theorem Map_any (M : Mem) (a pb : Nat) (p n r : Int) (w : World) (hM : Yap w a pb M) (hn : -9223372036854775808 ≤ n) :
  Calls Tryz.prog 18 #[.pointer (some ⟨a, 0, none⟩), .int .i64 p, .int .i64 n, .int .i64 r] w fun e w' => e = .returned (.int .i64 (errI (M.mapB p n r) 61)) ∧ Yap w' a pb (M.mapM p n r) ∧ Upd [pb] w w' := by
 cases h : M.mapB p n r
 ·refine (Map_no M a pb p n r w hM hn h).mono ?_
  rintro e w' ⟨h1, h2⟩
  exact ⟨h1, by rw [Mem.mapM, h]; exact hM.keep h2 (by simp) (by simp), h2.mono (by simp)⟩
 ·refine (Yl5 M a pb p n r w hM hn h).mono ?_
  rintro e w' ⟨h1, h2, h3⟩
  exact ⟨h1, by rw [Mem.mapM, h]; exact h2, h3⟩
def bkMap : Mem := Mem.zero.mapM 0 1 7
def Ydi : Mem := bkMap.poke 0 [64, 235, 254, 64]
theorem bk_map : Mem.zero.mapB 0 1 7 = true := by decide +kernel
theorem bk_poke : bkMap.pokeB 0 [64, 235, 254, 64] = true := by decide +kernel
theorem bk_peek : Ydi.peek 0 3 = [64, 235, 254] := by decide +kernel
theorem bk_no : Ygs Ydi 300 = false ∧ (Yf4 Ydi 300).a = 300 ∧ (Yf4 Ydi 300).pc = 300 := by decide +kernel
theorem bk_yes : Ygs Ydi 0 = true := by decide +kernel
theorem Yhg : (Ybi Ydi 0).length = 2 := by decide +kernel
theorem Yrt : Ydo (Ybi Ydi 0) 2 = 3 := by decide +kernel
theorem bk_place : Ye7 0 (Ybi Ydi 0) 1 = 1 := by decide +kernel
theorem bk_fno : ∃ k t, Yf4 Ydi 300 = ⟨k, 300, 300, t⟩ := by
 have h := bk_no.2
 cases hF : Yf4 Ydi 300 with
 |mk k p x t => rw [hF] at h; simp only at h; rw [h.1, h.2]; exact ⟨_, _, rfl⟩
theorem bk_fyes : Yf4 Ydi 0 = Flt.zero := by unfold Yf4; exact if_pos bk_yes
theorem getD_ok {l : List Int} (h : l.all (fun x => decide (0 ≤ x) && decide (x ≤ 255)) = true) (i : Nat) : 0 ≤ l.getD i 0 ∧ l.getD i 0 ≤ 255 := by
 rw [List.getD_eq_getElem?_getD]
 cases hx : l[i]? with
 |none => simp
 |some x =>
  have := List.all_eq_true.1 h x (List.mem_of_getElem? hx)
  simpa using this
theorem pl_form {w : World} {b : Nat} {v : Value} (h : w.ownsRow b 23 1 v (Ybi Ydi 0).length (Yes 0 (Ybi Ydi 0) (Ybi Ydi 0).length)) : ∃ g c C, v = .slice (some ⟨g, 0, none⟩) 2 c ∧ w.heap[g]? = some (.cells C 23 (0, 0)) ∧ C[1]? = some (.int .u32 1) := by
 rw [Yhg] at h
 rcases h.2 with ⟨_, h0⟩ | ⟨g, cap, cur, rfl, hg, hb, _, _, hs, ht⟩
 ·omega
 ·refine ⟨g, cap, cur, rfl, hb, ?_⟩
  have e : (cur.toList.take (2 * 1))[1]? = some (.int .u32 1) := by rw [ht]; simp [Yes, List.range_succ, bk_place]
  rw [List.getElem?_take_of_lt (by omega), Array.getElem?_toList] at e
  exact e
theorem bk_str : (strOfNums [64, 235, 254]).toList = [64, 235, 254] := by decide +kernel
theorem Yoa (n : Int) : errI true n = 0 := rfl
structure BkS (w : World) (a pb g : Nat) (v : Value) (w1 : World) : Prop where
 m : Yap w1 a pb Ydi
 s : ISl w1 v (Ybi Ydi 0) g
 u : Upd [] w w1
theorem BkS.step {w w1 w2 : World} {a pb g : Nat} {v : Value} (h : BkS w a pb g v w1) (u : Upd [] w1 w2) : BkS w a pb g v w2 := ⟨h.m.keep u (by simp) (by simp), h.s.keep u (by simp), h.u.also u (by simp)⟩
theorem Yhd (w : World) : Calls Tryz.prog 5 #[] w fun e w' => e = .returned (.bool true) ∧ Upd [] w w' := by
 obtain ⟨nk, nt, hno⟩ := bk_fno
 have HNO := Yh_ hno
 clear hno
 go_enter Tryz.func5, Tryz.ntmps5
 have hstr := bk_str
 have tok : True := trivial
 go_wp2_with (first | (have _t := tok; clear _t; go_at_call 17; refine (Yiv _).mono ?_; rintro e w1 ⟨a, pb, rfl, ha, hp, hM1, hu1⟩; clear tok) | (have _t := hM1; clear _t; go_at_call 18; refine (Map_any Mem.zero a pb 0 1 7 _ hM1 (by decide)).mono ?_; rintro e w2 ⟨rfl, hM2, hu2⟩; rw [bk_map, Yoa]; clear hM1) | (have _t := hM2; clear _t; go_at_call 19; refine (Yo2 bkMap a pb 0 _ [64, 235, 254, 64] w2.heap.size _ (hM2.keep ((Upd.refl [] w2).alloc _) (by simp) (by simp)) (by decide) (by decide) (Yr7 w2 [64, 235, 254, 64] _ _ rfl) (by obtain ⟨C, _, hc⟩ := hM2.pg; have := Yt hc; omega) (getD_ok (by decide)) (by simp [maxLen])).mono ?_; rintro e w3 ⟨rfl, hM3, hu3⟩; rw [bk_poke, Yoa]; have hS : ∀ x, x ∈ [pb] → x ∈ ([] : List Nat) ∨ w.heap.size ≤ x := (by intro x hx; simp only [List.mem_singleton] at hx; omega); have U3 := Yh_ (((hu1.also hu2 hS).alloc (.cells #[.int .u8 64, .int .u8 235, .int .u8 254, .int .u8 64] 5)).also hu3 hS); clear hM2 hu1 hu2 hu3 hS) | (have _t := hM3; clear _t; go_at_call 8; refine (Yjj Ydi a pb 0 _ hM3 (by decide)).mono ?_; rintro e w4 ⟨v, g, rfl, hI, hg, hu4⟩; have k4 := BkS.mk (g := g) (v := v) (hM3.keep hu4 (by simp) (by simp)) hI (U3.out.also hu4 (by simp)); obtain ⟨sb, sc, rfl⟩ := hI.form; rw [Yhg] at k4; have K4 := Yh_ k4; clear k4; rw [bk_fyes, bk_yes, Yhg]; simp only [Flt.val, Flt.zero]; clear hM3 U3 hu4 hI) | (have _t := K4; clear _t; go_at_call 8; refine (Yjj Ydi a pb 300 _ (K4.out.m.keep ((Upd.refl [] w4).alloc _) (by simp) (by simp)) (by decide)).mono ?_; rintro e w5 ⟨v2, g2, rfl, hI2, _, hu5⟩; rw [HNO.out, bk_no.1]; simp only [Flt.val]; have K5 := Yh_ (K4.out.step (((Upd.refl [] w4).alloc _).also hu5 (by simp))); clear hu5 hI2 K4) | (have _t := K5; clear _t; go_at_call 11; refine (Yi1 0 _ (Ybi Ydi 0) g _ (K5.out.s.keep ((Upd.refl [] w5).alloc _) (by simp)) (by rw [Yhg]; decide)).mono ?_; rintro e w6 ⟨v6, rfl, ho6, hu6⟩; obtain ⟨g6, p6, C6, rfl, hg6, hc6⟩ := pl_form ho6; have F6 := Yh_ (hu6.get (heap_alloc_new w5 (.cells #[.int .i64 nk, .int .u32 300, .int .u32 300, .int .i64 nt] 32)) (by simp)); have G6 := Yh_ hg6; have K6 := Yh_ (K5.out.step (((Upd.refl [] w5).alloc _).also hu6 (by simp))); clear hu6 ho6 hg6 K5) | (have _t := K6; clear _t; go_at_call 12; refine (Yiy _ (Ybi Ydi 0) g _ K6.out.s (by rw [Yhg]; decide)).mono ?_; rintro e w7 ⟨rfl, hu7⟩; rw [Yhg, Yrt]; have K7 := Yh_ (K6.out.step hu7); have F7 := Yh_ (hu7.get F6.out (by simp)); have G7 := Yh_ (hu7.get G6.out (by simp)); clear hu7 K6 F6 G6) | (have _t := K7; clear _t; go_at_call 13; refine (Ykc Ydi a pb 0 _ (Ybi Ydi 0) g _ K7.out.m (by decide) K7.out.s (by rw [Yhg]; decide)).mono ?_; rintro e w8 ⟨rfl, hu8⟩; rw [Yhg, Yrt, bk_peek]; have K8 := Yh_ (K7.out.step hu8); have F8 := Yh_ (hu8.get F7.out (by simp)); have c8 := Ya F8.out; have c9 : w8.cell? ⟨g6, 1, none⟩ = some (.int .u32 1) := (by rw [Ya (hu8.get G7.out (by simp))]; exact hc6); clear hu8 K7 F7 G7))
 go_ret
 exact ⟨rfl, K8.out.u⟩
structure AlB (w0 : World) (a pb rr : Nat) (M : Mem) (L : List Int) (d : Nat → Bool) (r : Nat → Value) (w : World) : Prop where
 m : Yap w a pb M
 f : Ybg w rr M
 u : Upd [] w0 w
 p : d 15 = true → ∃ g, Yb0 w (r 15) L g
 q : d 21 = true → ∃ g, Yb0 w (r 21) L g
theorem AlB.same {w0 : World} {a pb rr : Nat} {M : Mem} {L : List Int} {d : Nat → Bool} {r : Nat → Value} {w : World} (h : AlB w0 a pb rr M L d r w) (i : Nat) (h1 : i ≠ 15) (h2 : i ≠ 21) : AlB w0 a pb rr M L (Ybq d i) r w :=
 ⟨h.m, h.f, h.u, fun e => h.p (by simpa [Ybq, h1.symm] using e), fun e => h.q (by simpa [Ybq, h2.symm] using e)⟩
theorem Yhv (v : Value) (L : List Ych) (g : Nat) (w : World) (h : Ygx w v L g) :
  Calls Tryz.prog 6 #[v] w fun e w' => ∃ a pb rr, e = .returned (.tuple #[.pointer (some ⟨a, 0, none⟩), .pointer (some ⟨rr, 0, none⟩), .bool (Ydr L)]) ∧ Yap w' a pb (Yfl L Mem.zero) ∧ Ybg w' rr (Yfl L Mem.zero) ∧ Upd [] w w' ∧ rr ≠ a ∧ rr ≠ pb ∧ w.heap.size ≤ a ∧ w.heap.size ≤ pb ∧ w.heap.size ≤ rr := by
 obtain ⟨Z, hZ, hbuild⟩ := Yjp
 have HZ := Yh_ hZ
 have HBu := Yh_ hbuild
 have HS := Yh_ h
 have HO := Yh_ (show ∀ s, s ∈ L → s.ok from fun s hs => (h.ok s hs).ct)
 clear hZ hbuild h
 cases hb : Ydr L
 ·have HB := Yh_ hb
  clear hb
  go_enter Tryz.func6, Tryz.ntmps6
  go_wp2_with (first | (go_at_call 17; refine (Yiv _).mono ?_; rintro e w1 ⟨a, pb, rfl, ha, hp, hm, hu⟩; have HM := Yh_ hm; have HU := Yh_ hu; have HA := Yh_ (And.intro ha hp); clear hm hu ha hp) | (refine Yft rfl 58 [] rfl [] rfl (.agg Z) (HBu.out _) ?_) | (go_at_call 20; refine (Ynj Mem.zero a pb g v L _ (HM.out.keep ((Upd.refl [] _).alloc _) (by simp) (by simp)) (HS.out.sp.keep (HU.out.alloc _) (by simp)) HO.out).mono ?_; rintro e w2 ⟨rfl, hm, hu⟩; rw [HB.out]; have HM2 := Yh_ hm; have HU2 := Yh_ hu; clear hm hu))
  obtain ⟨qb, hq, hm⟩ := HM2.out.ex
  have hal := HM.out.al
  have hpl := HM.out.pl
  have hUA := (HU.out.alloc (.cells Z 58)).also HU2.out (by have := HA.out; simp; omega)
  refine bodyPost_ret (v := .tuple #[.pointer (some ⟨a, 0, none⟩), .pointer (some ⟨w1.heap.size, 0, none⟩), .bool false]) (Yas rfl (Yj 2 rfl) (Yj 3 rfl) (Yj 4 rfl)) rfl ⟨a, qb, w1.heap.size, rfl, hm, ?_, hUA, by omega, ?_, HA.out.1, ?_, HU.out.size⟩
  ·rw [Yib HB.out]
   exact (Ybg.new HZ.out Mem.zero_ok).keep HU2.out (by simp; omega)
  ·rcases hq with rfl | hq
   ·omega
   ·have : w1.heap.size < (w1.alloc (.cells Z 58)).heap.size := by simp
    omega
  ·have := HA.out.2
   have h1 := HU.out.size
   rcases hq with rfl | hq
   ·omega
   ·simp at hq; omega
 ·have HB := Yh_ hb
  clear hb
  go_enter Tryz.func6, Tryz.ntmps6
  go_wp2_with (first | (go_at_call 17; refine (Yiv _).mono ?_; rintro e w1 ⟨a, pb, rfl, ha, hp, hm, hu⟩; have HM := Yh_ hm; have HU := Yh_ hu; have HA := Yh_ (And.intro ha hp); clear hm hu ha hp) | (refine Yft rfl 58 [] rfl [] rfl (.agg Z) (HBu.out _) ?_) | (go_at_call 20; refine (Ynj Mem.zero a pb g v L _ (HM.out.keep ((Upd.refl [] _).alloc _) (by simp) (by simp)) (HS.out.sp.keep (HU.out.alloc _) (by simp)) HO.out).mono ?_; rintro e w2 ⟨rfl, hm, hu⟩; rw [HB.out]; have HM2 := Yh_ hm; have HU2 := Yh_ hu; clear hm hu) | (go_at_call 21; refine (Load_ref Mem.zero w1.heap.size g v L _ ((Ybg.new HZ.out Mem.zero_ok).keep HU2.out (by have := HM.out.al; simp; omega)) (HS.out.sp.keep ((HU.out.alloc _).also HU2.out (by have := HA.out; simp; omega)) (by simp)) HO.out).mono ?_; rintro e w3 ⟨rfl, hr, hu⟩; rw [HB.out]; have HR3 := Yh_ hr; have HU3 := Yh_ hu; clear hr hu))
  obtain ⟨qb, hq, hm⟩ := HM2.out.ex
  have hal := HM.out.al
  have hpl := HM.out.pl
  have hqb : qb ≠ w1.heap.size := by
   rcases hq with rfl | hq
   ·omega
   ·have : w1.heap.size < (w1.alloc (.cells Z 58)).heap.size := by simp
    omega
  have hqn : w.heap.size ≤ qb := by
   have := HA.out.2
   have h1 := HU.out.size
   rcases hq with rfl | hq
   ·omega
   ·simp at hq; omega
  have hUA := (HU.out.alloc (.cells Z 58)).also HU2.out (by have := HA.out; simp; omega)
  have hUB := hUA.also HU3.out (by have := HU.out.size; simp; omega)
  refine bodyPost_ret (v := .tuple #[.pointer (some ⟨a, 0, none⟩), .pointer (some ⟨w1.heap.size, 0, none⟩), .bool true]) (Yas rfl (Yj 2 rfl) (Yj 3 rfl) (Yj 4 rfl)) rfl ⟨a, qb, w1.heap.size, rfl, hm.keep HU3.out (by simp; omega) (by simpa using hqb), HR3.out, hUB, by omega, by omega, HA.out.1, hqn, HU.out.size⟩
def Ygz (L : List Ych) : Bool := (L.all fun s => decide (s.by_.size ≤ 3000)) && decide (L.length ≤ 8)
theorem Yig (v : Value) (L : List Ych) (g : Nat) (w : World) (h : Ygx w v L g) :
  Calls Tryz.prog 7 #[v] w fun e w' => e = .returned (.bool (Ygz L)) ∧ w = w' := by
 have HS := Yh_ h
 have hlen := h.len
 unfold maxLen at hlen
 have hsp := h.sp
 clear h
 rcases hsp with ⟨b, c, rfl, rfl⟩ | ⟨o, c, rfl, hg, hlen2, hc⟩
 ·have HF := Yh_ (show Ygz [] = true from rfl)
  go_enter Tryz.func7, Tryz.ntmps7
  go_wp2_with fail
  go_loop [3] (fun i => i = .int .i64 0) (fun _ => 0)
  case atStart => exact rfl
  case round =>
   subst hrel
   go_wp2_with fail
   go_ret
   exact ⟨by rw [HF.out]; rfl, rfl⟩
 ·have HC := Yh_ hc
  clear hc
  go_enter Tryz.func7, Tryz.ntmps7
  go_wp2_with fail
  go_loop [3] (fun i => ∃ j : Nat, j ≤ L.length ∧ i = .int .i64 j ∧ ∀ k, k < j → (L.getD k default).by_.size ≤ 3000) (fun i => L.length - (intOf i).toNat)
  case atStart => exact ⟨0, Nat.zero_le _, rfl, by omega⟩
  case round =>
   obtain ⟨j, hj, rfl, hall⟩ := hrel
   have HA := Yh_ hall
   clear hall
   by_cases hlt : j < L.length
   ·have hd : decide ((j : Int) < L.length) = true := by simp; omega
    obtain ⟨s, hs⟩ : ∃ s, L[j]? = some s := ⟨L[j], List.getElem?_eq_getElem hlt⟩
    have hsd : L.getD j default = s := by rw [List.getD_eq_getElem?_getD, hs]; rfl
    have c3 := (HC.out j s hs).2.2.2
    have HSD := Yh_ hsd
    have HSS := Yh_ hs
    clear hs hsd
    by_cases hz : s.by_.size ≤ 3000
    ·have hz1 : decide (3000 < (s.by_.size : Int)) = false := by simp; omega
     have HZ := Yh_ hz
     clear hz
     go_wp2_with fail
     go_round
     case rel => exact ⟨j + 1, by omega, by go_num, fun k hk => by
       by_cases e : k = j
       ·subst e; rw [HSD.out]; exact HZ.out
       ·exact HA.out k (by omega)⟩
     case measure => simp [intOf]; omega
    ·have hz1 : decide (3000 < (s.by_.size : Int)) = true := by simp; omega
     have HF := Yh_ (show Ygz L = false by
      rw [Ygz, Bool.and_eq_false_iff]
      refine .inl ?_
      rw [List.all_eq_false]
      exact ⟨s, List.mem_of_getElem? HSS.out, by simpa using hz⟩)
     clear hz
     go_wp2_with fail
     go_ret
     exact ⟨by rw [HF.out]; rfl, rfl⟩
   ·have hd : decide ((j : Int) < L.length) = false := by simp; omega
    have hall : (L.all fun s => decide (s.by_.size ≤ 3000)) = true := by
     rw [List.all_eq_true]
     intro s hs
     obtain ⟨k, hk⟩ := List.getElem?_of_mem hs
     have hkl := (List.getElem?_eq_some_iff.1 hk).1
     have := HA.out k (by omega)
     rw [List.getD_eq_getElem?_getD, hk] at this
     simpa using this
    by_cases h8 : L.length ≤ 8
    ·have h81 : decide ((L.length : Int) ≤ 8) = true := by simp; omega
     have HF := Yh_ (show Ygz L = true by rw [Ygz, hall, Bool.true_and]; simpa using h8)
     clear h8 hall
     go_wp2_with fail
     go_ret
     exact ⟨by rw [HF.out]; rfl, rfl⟩
    ·have h81 : decide ((L.length : Int) ≤ 8) = false := by simp; omega
     have HF := Yh_ (show Ygz L = false by rw [Ygz, hall, Bool.true_and]; simpa using h8)
     clear h8 hall
     go_wp2_with fail
     go_ret
     exact ⟨by rw [HF.out]; rfl, rfl⟩
theorem Ymo (M : Mem) (pc : Int) : ∀ (n : Nat) (row : List Ins) (x : Int), row.length ≤ 8 → (Yee M pc n row x).length ≤ 8
 |0, row, x, h => h
 |n + 1, row, x, h => by
  rw [Yee]
  split
  ·rename_i hg
   have h8 : row.length < 8 := by
    have := hg.1
    simp only [Yev, Bool.and_eq_true, decide_eq_true_eq] at this
    exact this.1
   exact Ymo M pc n _ _ (by rw [List.length_append]; simp only [List.length_cons, List.length_nil]; omega)
  ·exact h
theorem Ym0 (M : Mem) (pc : Int) : (Ybi M pc).length ≤ 8 := by
 unfold Ybi
 split
 ·exact Ymo M pc _ _ _ (by simp)
 ·simp
theorem Ykq (pc : Int) (l : List Ins) (h : 0 ≤ pc ∧ pc < 4294967296) (k : Nat) : Ye7 pc l k = (pc + Ydo l k) % 4294967296 := by
 induction k with
 |zero => rw [Ye7, Ydo]; omega
 |succ k ih => rw [Ye7, Ydo, ih]; omega
theorem Yn6 {w : World} {b e sz n : Nat} {v : Value} {xs : List Value} (h : w.ownsRow b e sz v n xs) : ∃ b c, v = .slice b n c := by
 rcases h.2 with ⟨h1, h2⟩ | ⟨g, cap, cur, h1, _⟩
 ·exact ⟨none, 0, by rw [h1, h2]⟩
 ·exact ⟨_, _, h1⟩
theorem Ym3 {w : World} {b7 : Option Addr} {c7 base N k : Nat} {pc : Int} {l : List Ins} (h : w.ownsRow base 23 1 (.slice b7 N c7) N (Yes pc l N)) (hk : k < N) : ∃ g, b7 = some ⟨g, 0, none⟩ ∧ w.cell? ⟨g, k, none⟩ = some (.int .u32 (Ye7 pc l k)) := by
 rcases h.2 with ⟨_, h0⟩ | ⟨g, cap, cur, hv, hg, hb, _, _, hs, ht⟩
 ·omega
 ·injection hv with hv
  refine ⟨g, hv, ?_⟩
  rw [Ya hb]
  have e : (cur.toList.take (N * 1))[k]? = some (.int .u32 (Ye7 pc l k)) := by rw [ht]; simp [Yes, hk]
  rw [List.getElem?_take_of_lt (by omega), Array.getElem?_toList] at e
  exact e
theorem Yrv {N k : Nat} {z : Int} (h : k < N) (e : z = ((k + 1 : Nat) : Int)) : N - (intOf (.int .i64 z)).toNat < N - (intOf (.int .i64 (k : Int))).toNat := by
 subst e
 simp [intOf]
 omega
structure FnS (a pb rr : Nat) (M : Mem) (b : Option Addr) (c n : Nat) (l : List Ins) (g : Nat) (w w1 : World) : Prop where
 m : Yap w1 a pb M
 r : Ybg w1 rr M
 i : ISl w1 (.slice b n c) l g
 u : Upd [] w w1
theorem FnS.step {a pb rr : Nat} {M : Mem} {b : Option Addr} {c n : Nat} {l : List Ins} {g : Nat} {w w1 w2 : World} (h : FnS a pb rr M b c n l g w w1) (u : Upd [] w1 w2) : FnS a pb rr M b c n l g w w2 :=
 ⟨h.m.keep u (by simp) (by simp), h.r.keep u (by simp), h.i.keep u (by simp), h.u.also u (by simp)⟩
theorem Yui (v : Value) (L : List Ych) (g : Nat) (pc : Int) (w : World) (hS : Ygx w v L g) (h0 : 0 ≤ pc ∧ pc < 4294967296) (hfew : Ygz L = false) :
  Calls Tryz.prog 3 #[v, .int .u32 pc] w fun e w' => e = .returned (.bool true) ∧ Upd [] w w' := by
 have HS := Yh_ hS
 have HPC := Yh_ h0
 clear hS h0
 have tok1 : True := trivial
 have tok2 : True := trivial
 have HFew := Yh_ hfew
 clear hfew
 go_enter Tryz.func3, Tryz.ntmps3
 go_wp2_with (first | (have _t := tok1; clear _t; go_at_call 5; refine (Yhd _).mono ?_; rintro e w1 ⟨rfl, hu⟩; have U1 := Yh_ hu; clear hu tok1) | (have _t := U1; clear _t; go_at_call 6; refine (Yhv v L g _ (HS.out.keep U1.out)).mono ?_; rintro e w2 ⟨a, pb, rr, rfl, hm, hr, hu, hra, hrp, -, -, -⟩; have U2 := Yh_ (U1.out.also hu (by simp)); clear hu hm hr hra hrp U1) | (have _t := U2; clear _t; go_at_call 7; refine (Yig v L g _ (HS.out.keep U2.out)).mono ?_; rintro e w3 ⟨rfl, rfl⟩; rw [HFew.out]))
 go_ret
 exact ⟨rfl, U2.out⟩
theorem Yua (v : Value) (L : List Ych) (g : Nat) (pc : Int) (w : World) (hS : Ygx w v L g) (h0 : 0 ≤ pc ∧ pc < 4294967296) (hfew : Ygz L = true) (hlb : Ydr L = false) :
  Calls Tryz.prog 3 #[v, .int .u32 pc] w fun e w' => e = .returned (.bool true) ∧ Upd [] w w' := by
 have HS := Yh_ hS
 have HPC := Yh_ h0
 clear hS h0
 have tok1 : True := trivial
 have tok2 : True := trivial
 have HFew := Yh_ hfew
 have HLb := Yh_ hlb
 clear hfew hlb
 go_enter Tryz.func3, Tryz.ntmps3
 go_wp2_with (first | (have _t := tok1; clear _t; go_at_call 5; refine (Yhd _).mono ?_; rintro e w1 ⟨rfl, hu⟩; have U1 := Yh_ hu; clear hu tok1) | (have _t := U1; clear _t; go_at_call 6; refine (Yhv v L g _ (HS.out.keep U1.out)).mono ?_; rintro e w2 ⟨a, pb, rr, rfl, hm, hr, hu, hra, hrp, -, -, -⟩; rw [HLb.out]; have U2 := Yh_ (U1.out.also hu (by simp)); clear hu hm hr hra hrp U1) | (have _t := U2; clear _t; go_at_call 7; refine (Yig v L g _ (HS.out.keep U2.out)).mono ?_; rintro e w3 ⟨rfl, rfl⟩; rw [HFew.out]))
 go_ret
 exact ⟨rfl, U2.out⟩
theorem Yte (v : Value) (L : List Ych) (g : Nat) (pc : Int) (w : World) (hS : Ygx w v L g) (h0 : 0 ≤ pc ∧ pc < 4294967296) (hfew : Ygz L = true) (hlb : Ydr L = true) (hk : Ygs (Yfl L Mem.zero) pc = false) :
  Calls Tryz.prog 3 #[v, .int .u32 pc] w fun e w' => e = .returned (.bool true) ∧ Upd [] w w' := by
 have HS := Yh_ hS
 have HPC := Yh_ h0
 clear hS h0
 have tok1 : True := trivial
 have tok2 : True := trivial
 have HFew := Yh_ hfew
 have HLb := Yh_ hlb
 clear hfew hlb
 obtain ⟨M, hM⟩ : ∃ M, Yfl L Mem.zero = M := ⟨_, rfl⟩
 rw [hM] at hk
 have HMe := Yh_ hM
 clear hM
 obtain ⟨N, hN⟩ : ∃ N, (Ybi M pc).length = N := ⟨_, rfl⟩
 have hl8 := Ym0 M pc
 have HL8 := Yh_ (show (Ybi M pc).length ≤ 100 by omega)
 have HN := Yh_ hN
 have HN8 := Yh_ (show N ≤ 8 by omega)
 have hbz := Yjz (Ybi M pc) N
 obtain ⟨z, hz⟩ : ∃ z, Ydo (Ybi M pc) N = z := ⟨_, rfl⟩
 rw [hz] at hbz
 have HZ := Yh_ hz
 have HQZ := Yh_ (show wrap64 z = z by unfold wrap64; omega)
 clear hl8 hN hbz hz
 obtain ⟨⟨fk, fp, fa, fw⟩, hF⟩ : ∃ F, Yf4 M pc = F := ⟨_, rfl⟩
 obtain ⟨⟨gk, gp, ga, gw⟩, hG⟩ : ∃ F, (Ydt M pc).f = F := ⟨_, rfl⟩
 have hGF := ((Yho M pc).2.2 hk).symm
 rw [hG, hF] at hGF
 injection hGF with e1 e2 e3 e4
 subst e1 e2 e3 e4
 have HJ := Yh_ (And.intro hF (And.intro hG (And.intro hk trivial)))
 clear hF hG hk
 go_enter Tryz.func3, Tryz.ntmps3
 go_wp2_with (first | (have _t := tok1; clear _t; go_at_call 5; refine (Yhd _).mono ?_; rintro e w1 ⟨rfl, hu⟩; have U1 := Yh_ hu; clear hu tok1) | (have _t := U1; clear _t; go_at_call 6; refine (Yhv v L g _ (HS.out.keep U1.out)).mono ?_; rintro e w2 ⟨a, pb, rr, rfl, hm, hr, hu, -, -, -, -, -⟩; rw [HLb.out]; rw [HMe.out] at hm hr; have U2 := Yh_ (And.intro hm (And.intro hr (U1.out.also hu (by simp)))); clear hu hm hr U1) | (have _t := U2; have _t2 := tok2; clear _t _t2 tok2; go_at_call 7; refine (Yig v L g _ (HS.out.keep U2.out.2.2)).mono ?_; rintro e w3 ⟨rfl, rfl⟩; rw [HFew.out]; have tok3 : True := trivial) | (have _t := tok3; clear _t; go_at_call 8; refine (Yjj M a pb pc _ U2.out.1 HPC.out).mono ?_; rintro e w4 ⟨v4, g4, rfl, hI, -, hu⟩; rw [HJ.out.1, HJ.out.2.2.1]; unfold Flt.val; obtain ⟨b4, c4, rfl⟩ := hI.form; rw [HN.out] at hI; rw [HN.out]; have K4 := Yh_ (FnS.mk (U2.out.1.keep hu (by simp) (by simp)) (U2.out.2.1.keep hu (by simp)) hI (U2.out.2.2.also hu (by simp))); clear hu hI U2 tok3) | (have _t := K4; clear _t; go_at_call 9; refine (Ymw M rr pc _ (K4.out.r.keep ((Upd.refl [] w4).alloc _) (by simp)) HPC.out).mono ?_; rintro e w5 ⟨v5, g5, rfl, hI, -, hu⟩; rw [(Yho M pc).1] at hI; rw [HJ.out.2.1, (Yho M pc).2.1, HJ.out.2.2.1]; unfold Flt.val; obtain ⟨b5, c5, rfl⟩ := hI.form; rw [HN.out] at hI; rw [HN.out]; have u5 := ((Upd.refl [] w4).alloc (.cells #[.int .i64 fk, .int .u32 fp, .int .u32 fa, .int .i64 fw] 32)).also hu (by simp); have hf5 := hu.get (heap_alloc_new w4 (.cells #[.int .i64 fk, .int .u32 fp, .int .u32 fa, .int .i64 fw] 32)) (by simp); have K5 := Yh_ (And.intro (K4.out.step u5) (And.intro hI (And.intro hf5 (Yt hf5)))); have tok5 : True := trivial; clear hu hI u5 hf5 K4) | (have _t := tok5; clear _t; go_at_call 10; refine (Ylb _ _ (Ybi M pc) g4 g5 _ ((K5.out.1.step ((Upd.refl [] w5).alloc _)).i) (K5.out.2.1.keep ((Upd.refl [] w5).alloc (.cells #[.int .i64 fk, .int .u32 fp, .int .u32 fa, .int .i64 fw] 32)) (by simp)) HL8.out).mono ?_; rintro e w6 ⟨rfl, hu⟩; have u6 := ((Upd.refl [] w5).alloc (.cells #[.int .i64 fk, .int .u32 fp, .int .u32 fa, .int .i64 fw] 32)).also hu (by simp); have hf6 := u6.get K5.out.2.2.1 (by simp); have hg6 := hu.get (heap_alloc_new w5 (.cells #[.int .i64 fk, .int .u32 fp, .int .u32 fa, .int .i64 fw] 32)) (by simp); have cf := Ya hf6; have cg := Ya hg6; have K6 := Yh_ (K5.out.1.step u6); clear hu u6 hf6 hg6 tok5 K5) | (have _t := K6; clear _t; go_at_call 11; refine (Yi1 pc _ (Ybi M pc) g4 _ K6.out.i HL8.out).mono ?_; rintro e w7 ⟨v7, rfl, ho, hu⟩; rw [HN.out] at ho; have K7 := Yh_ (And.intro (K6.out.step hu) ho); obtain ⟨b7, c7, rfl⟩ := Yn6 ho; clear hu ho cf cg K6))
 go_loopw [14, 16] (fun n i wr => ∃ k : Nat, k ≤ N ∧ n = .int .u32 (Ydo (Ybi M pc) k) ∧ i = .int .i64 k ∧ FnS a pb rr M b4 c4 N (Ybi M pc) g4 w wr ∧ wr.ownsRow w6.heap.size 23 1 (.slice b7 N c7) N (Yes pc (Ybi M pc) N)) (fun _ i _ => N - (intOf i).toNat)
 case atStart => exact ⟨0, Nat.zero_le _, rfl, rfl, K7.out.1, K7.out.2⟩
 case round =>
  obtain ⟨k, hk, rfl, rfl, hu, ho⟩ := hrel
  have K8 := Yh_ hu
  have O8 := Yh_ ho
  clear hu ho K7
  have hN8 := HN8.out
  by_cases hlt : k < N
  ·have d1 : decide ((k : Int) < N) = true := by simp; omega
   have e1 : wrap64 ((k : Int) + 1) = ((k + 1 : Nat) : Int) := by unfold wrap64; omega
   obtain ⟨x, hx⟩ : ∃ x, (Ybi M pc)[k]? = some x := ⟨(Ybi M pc)[k]'(by rw [HN.out]; exact hlt), List.getElem?_eq_getElem (by rw [HN.out]; exact hlt)⟩
   have HX := Yh_ hx
   obtain ⟨o4, rfl⟩ := K8.out.i.some (by rw [HN.out]; exact Nat.lt_of_le_of_lt (Nat.zero_le _) hlt)
   have c15 := K8.out.i.at hx 15 (.int .i64 x.len) rfl
   obtain ⟨g7, rfl, c16⟩ := Ym3 O8.out hlt
   rw [Ykq pc _ HPC.out] at c16
   have HK := Yh_ hk
   have HT := Yh_ hlt
   clear hx hk hlt hN8
   go_wp2_with fail
   go_roundw
   case rel => exact ⟨k + 1, HT.out, by rw [Ydo, List.getD_eq_getElem?_getD, HX.out]; rfl, by rw [e1], K8.out, O8.out⟩
   case measure => exact Yrv HT.out e1
  ·obtain rfl : k = N := by omega
   have d1 : decide ((k : Int) < k) = false := by simp
   clear hlt hk hN8 O8
   have hz := HZ.out
   have qz := HQZ.out
   go_wp2_with (first | (have _t := K8; clear _t; go_at_call 12; refine (Yiy _ (Ybi M pc) g4 _ K8.out.i HL8.out).mono ?_; rintro e w9 ⟨rfl, hu⟩; rw [HN.out, HZ.out]; have K9 := Yh_ (K8.out.step hu); clear hu K8) | (have _t := K9; clear _t; go_at_call 13; refine (Ykc M a pb pc _ (Ybi M pc) g4 _ K9.out.m HPC.out K9.out.i HL8.out).mono ?_; rintro e wA ⟨rfl, hu⟩; rw [HN.out, HZ.out]; have KA := Yh_ (K9.out.step hu); clear hu K9) | (have _t := KA; clear _t; go_at_call 14; refine (Yo1 M rr pc z _ KA.out.r HPC.out.1 HPC.out.2).mono ?_; rintro e wB ⟨vB, rfl, ho, hu⟩; have hcv := Yjg ho; have KB := Yh_ (KA.out.step hu); clear hu ho KA))
   go_ret
   exact ⟨rfl, KB.out.u⟩
theorem Ysd (v : Value) (L : List Ych) (g : Nat) (pc : Int) (w : World) (hS : Ygx w v L g) (h0 : 0 ≤ pc ∧ pc < 4294967296) (hfew : Ygz L = true) (hlb : Ydr L = true) (hk : Ygs (Yfl L Mem.zero) pc = true) :
  Calls Tryz.prog 3 #[v, .int .u32 pc] w fun e w' => e = .returned (.bool true) ∧ Upd [] w w' := by
 have HS := Yh_ hS
 have HPC := Yh_ h0
 clear hS h0
 have tok1 : True := trivial
 have tok2 : True := trivial
 have HFew := Yh_ hfew
 have HLb := Yh_ hlb
 clear hfew hlb
 obtain ⟨M, hM⟩ : ∃ M, Yfl L Mem.zero = M := ⟨_, rfl⟩
 rw [hM] at hk
 have HMe := Yh_ hM
 clear hM
 obtain ⟨N, hN⟩ : ∃ N, (Ybi M pc).length = N := ⟨_, rfl⟩
 have hl8 := Ym0 M pc
 have HL8 := Yh_ (show (Ybi M pc).length ≤ 100 by omega)
 have HN := Yh_ hN
 have HN8 := Yh_ (show N ≤ 8 by omega)
 have hbz := Yjz (Ybi M pc) N
 obtain ⟨z, hz⟩ : ∃ z, Ydo (Ybi M pc) N = z := ⟨_, rfl⟩
 rw [hz] at hbz
 have HZ := Yh_ hz
 have HQZ := Yh_ (show wrap64 z = z by unfold wrap64; omega)
 clear hl8 hN hbz hz
 obtain ⟨⟨fk, fp, fa, fw⟩, hF⟩ : ∃ F, Yf4 M pc = F := ⟨_, rfl⟩
 obtain ⟨⟨gk, gp, ga, gw⟩, hG⟩ : ∃ F, (Ydt M pc).f = F := ⟨_, rfl⟩
 have HJ := Yh_ (And.intro hF (And.intro hG (And.intro hk trivial)))
 clear hF hG hk
 go_enter Tryz.func3, Tryz.ntmps3
 go_wp2_with (first | (have _t := tok1; clear _t; go_at_call 5; refine (Yhd _).mono ?_; rintro e w1 ⟨rfl, hu⟩; have U1 := Yh_ hu; clear hu tok1) | (have _t := U1; clear _t; go_at_call 6; refine (Yhv v L g _ (HS.out.keep U1.out)).mono ?_; rintro e w2 ⟨a, pb, rr, rfl, hm, hr, hu, -, -, -, -, -⟩; rw [HLb.out]; rw [HMe.out] at hm hr; have U2 := Yh_ (And.intro hm (And.intro hr (U1.out.also hu (by simp)))); clear hu hm hr U1) | (have _t := U2; have _t2 := tok2; clear _t _t2 tok2; go_at_call 7; refine (Yig v L g _ (HS.out.keep U2.out.2.2)).mono ?_; rintro e w3 ⟨rfl, rfl⟩; rw [HFew.out]; have tok3 : True := trivial) | (have _t := tok3; clear _t; go_at_call 8; refine (Yjj M a pb pc _ U2.out.1 HPC.out).mono ?_; rintro e w4 ⟨v4, g4, rfl, hI, -, hu⟩; rw [HJ.out.1, HJ.out.2.2.1]; unfold Flt.val; obtain ⟨b4, c4, rfl⟩ := hI.form; rw [HN.out] at hI; rw [HN.out]; have K4 := Yh_ (FnS.mk (U2.out.1.keep hu (by simp) (by simp)) (U2.out.2.1.keep hu (by simp)) hI (U2.out.2.2.also hu (by simp))); clear hu hI U2 tok3) | (have _t := K4; clear _t; go_at_call 9; refine (Ymw M rr pc _ (K4.out.r.keep ((Upd.refl [] w4).alloc _) (by simp)) HPC.out).mono ?_; rintro e w5 ⟨v5, g5, rfl, hI, -, hu⟩; rw [(Yho M pc).1] at hI; rw [HJ.out.2.1, (Yho M pc).2.1, HJ.out.2.2.1]; unfold Flt.val; obtain ⟨b5, c5, rfl⟩ := hI.form; rw [HN.out] at hI; rw [HN.out]; have u5 := ((Upd.refl [] w4).alloc (.cells #[.int .i64 fk, .int .u32 fp, .int .u32 fa, .int .i64 fw] 32)).also hu (by simp); have hf5 := hu.get (heap_alloc_new w4 (.cells #[.int .i64 fk, .int .u32 fp, .int .u32 fa, .int .i64 fw] 32)) (by simp); have K5 := Yh_ (And.intro (K4.out.step u5) (And.intro hI (And.intro hf5 (Yt hf5)))); have tok5 : True := trivial; clear hu hI u5 hf5 K4) | (have _t := tok5; clear _t; go_at_call 10; refine (Ylb _ _ (Ybi M pc) g4 g5 _ ((K5.out.1.step ((Upd.refl [] w5).alloc _)).i) (K5.out.2.1.keep ((Upd.refl [] w5).alloc (.cells #[.int .i64 gk, .int .u32 gp, .int .u32 ga, .int .i64 gw] 32)) (by simp)) HL8.out).mono ?_; rintro e w6 ⟨rfl, hu⟩; have u6 := ((Upd.refl [] w5).alloc (.cells #[.int .i64 gk, .int .u32 gp, .int .u32 ga, .int .i64 gw] 32)).also hu (by simp); have hf6 := u6.get K5.out.2.2.1 (by simp); have hg6 := hu.get (heap_alloc_new w5 (.cells #[.int .i64 gk, .int .u32 gp, .int .u32 ga, .int .i64 gw] 32)) (by simp); have cf := Ya hf6; have cg := Ya hg6; have K6 := Yh_ (K5.out.1.step u6); clear hu u6 hf6 hg6 tok5 K5) | (have _t := K6; clear _t; go_at_call 11; refine (Yi1 pc _ (Ybi M pc) g4 _ K6.out.i HL8.out).mono ?_; rintro e w7 ⟨v7, rfl, ho, hu⟩; rw [HN.out] at ho; have K7 := Yh_ (And.intro (K6.out.step hu) ho); obtain ⟨b7, c7, rfl⟩ := Yn6 ho; clear hu ho cf cg K6))
 go_loopw [14, 16] (fun n i wr => ∃ k : Nat, k ≤ N ∧ n = .int .u32 (Ydo (Ybi M pc) k) ∧ i = .int .i64 k ∧ FnS a pb rr M b4 c4 N (Ybi M pc) g4 w wr ∧ wr.ownsRow w6.heap.size 23 1 (.slice b7 N c7) N (Yes pc (Ybi M pc) N)) (fun _ i _ => N - (intOf i).toNat)
 case atStart => exact ⟨0, Nat.zero_le _, rfl, rfl, K7.out.1, K7.out.2⟩
 case round =>
  obtain ⟨k, hk, rfl, rfl, hu, ho⟩ := hrel
  have K8 := Yh_ hu
  have O8 := Yh_ ho
  clear hu ho K7
  have hN8 := HN8.out
  by_cases hlt : k < N
  ·have d1 : decide ((k : Int) < N) = true := by simp; omega
   have e1 : wrap64 ((k : Int) + 1) = ((k + 1 : Nat) : Int) := by unfold wrap64; omega
   obtain ⟨x, hx⟩ : ∃ x, (Ybi M pc)[k]? = some x := ⟨(Ybi M pc)[k]'(by rw [HN.out]; exact hlt), List.getElem?_eq_getElem (by rw [HN.out]; exact hlt)⟩
   have HX := Yh_ hx
   obtain ⟨o4, rfl⟩ := K8.out.i.some (by rw [HN.out]; exact Nat.lt_of_le_of_lt (Nat.zero_le _) hlt)
   have c15 := K8.out.i.at hx 15 (.int .i64 x.len) rfl
   obtain ⟨g7, rfl, c16⟩ := Ym3 O8.out hlt
   rw [Ykq pc _ HPC.out] at c16
   have HK := Yh_ hk
   have HT := Yh_ hlt
   clear hx hk hlt hN8
   go_wp2_with fail
   go_roundw
   case rel => exact ⟨k + 1, HT.out, by rw [Ydo, List.getD_eq_getElem?_getD, HX.out]; rfl, by rw [e1], K8.out, O8.out⟩
   case measure => exact Yrv HT.out e1
  ·obtain rfl : k = N := by omega
   have d1 : decide ((k : Int) < k) = false := by simp
   clear hlt hk hN8 O8
   have hz := HZ.out
   have qz := HQZ.out
   go_wp2_with (first | (have _t := K8; clear _t; go_at_call 12; refine (Yiy _ (Ybi M pc) g4 _ K8.out.i HL8.out).mono ?_; rintro e w9 ⟨rfl, hu⟩; rw [HN.out, HZ.out]; have K9 := Yh_ (K8.out.step hu); clear hu K8) | (have _t := K9; clear _t; go_at_call 13; refine (Ykc M a pb pc _ (Ybi M pc) g4 _ K9.out.m HPC.out K9.out.i HL8.out).mono ?_; rintro e wA ⟨rfl, hu⟩; rw [HN.out, HZ.out]; have KA := Yh_ (K9.out.step hu); clear hu K9) | (have _t := KA; clear _t; go_at_call 14; refine (Yo1 M rr pc z _ KA.out.r HPC.out.1 HPC.out.2).mono ?_; rintro e wB ⟨vB, rfl, ho, hu⟩; have hcv := Yjg ho; have KB := Yh_ (KA.out.step hu); clear hu ho KA))
   go_ret
   exact ⟨rfl, KB.out.u⟩
theorem Ylj (v : Value) (L : List Ych) (g : Nat) (pc : Int) (w : World) (hS : Ygx w v L g) (h0 : 0 ≤ pc ∧ pc < 4294967296) :
  Calls Tryz.prog 3 #[v, .int .u32 pc] w fun e w' => e = .returned (.bool true) ∧ Upd [] w w' := by
 cases hfew : Ygz L
 ·exact Yui v L g pc w hS h0 hfew
 cases hlb : Ydr L
 ·exact Yua v L g pc w hS h0 hfew hlb
 cases hk : Ygs (Yfl L Mem.zero) pc
 ·exact Yte v L g pc w hS h0 hfew hlb hk
 ·exact Ysd v L g pc w hS h0 hfew hlb hk
end Go.Proofs.YteiplidhkelkbaaGreat
