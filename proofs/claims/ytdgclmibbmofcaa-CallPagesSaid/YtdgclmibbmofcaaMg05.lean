/-
  Parts of the proof (their names shortened by a program). No condition.
-/
import Derived.Test.YtdgclmibbmofcaaMg01
import Derived.Test.YtdgclmibbmofcaaMg04
import Derived.ChangeSlices
import Derived.Deep.CutRange
import Derived.Test.YtdgclmibbmofcaaMg03
import Derived.Laws.IdiomCopy
import Derived.Test.YtdgclmibbmofcaaMg02
import Derived.StillTailTactics
import Derived.Outline
import Derived.Deep.Cut
namespace Go.Proofs.Ytdgclmibbmofcaa
open Go Go.RowKit
set_option linter.unusedVariables false
set_option linter.unusedSimpArgs false
set_option maxRecDepth 100000
set_option maxHeartbeats 16000000
theorem Ycp (M : Mem) (x : Int) : (M.rightAt x == 0) = !M.mappedB x := by
 unfold Mem.rightAt Mem.mappedB
 by_cases h : x < 16384
 ·rw [if_pos h, decide_eq_true h, Bool.true_and]
  cases hz : M.R (x / 256).toNat == 0
  ·simp only [bne, hz]; rfl
  ·simp only [bne, hz]; rfl
 ·rw [if_neg h, decide_eq_false h, Bool.false_and]
  rfl
theorem Ym.drew {w : World} {r : Nat} {M : Mem} (h : Ym w r M) : Ym w.drew r M := ⟨h.ex, h.ok⟩
theorem Peek_ref (M : Mem) (r : Nat) (x n : Int) (w : World) (hM : Ym w r M) (h0 : 0 ≤ x) (h1 : x < 4294967296) :
  Calls Try.prog 33 #[.pointer (some ⟨r, 0, none⟩), .int .u32 x, .int .i64 n] w fun e w' =>
   ∃ v, e = .returned v ∧ w'.ownsRow w.heap.size 5 1 v (M.peek x n).length ((M.peek x n).map (Value.int .u8)) ∧ Upd [] w w' := by
 obtain ⟨i0, hi, hz0, hz1, hz2⟩ := info_parts Ye8
 have HI := Yh_ (And.intro hi (And.intro hz0 (And.intro hz1 hz2)))
 clear hi hz0 hz1 hz2
 obtain ⟨k, hk⟩ : ∃ k : Nat, (min n 16384).toNat = k := ⟨_, rfl⟩
 have hk2 : Hid (k ≤ 16384) := Yh_ (by omega)
 have HK := Yh_ hk
 have hmin : (min n 16384 < 0 ∧ k = 0) ∨ (0 ≤ min n 16384 ∧ min n 16384 = k) := by omega
 have HMin := Yh_ hmin
 clear hk hmin
 have hfin : ∀ (j : Nat) (v : Value) (w' : World), j = M.peekN x k → w'.ownsRow w.heap.size 5 1 v j ((M.peekL x j).map (Value.int .u8)) → Upd [] w w' →
   ∃ u, Ending.returned v = .returned u ∧ w'.ownsRow w.heap.size 5 1 u (M.peek x n).length ((M.peek x n).map (Value.int .u8)) ∧ Upd [] w w' := by
  intro j v w' hj ho hU
  refine ⟨v, rfl, ?_, hU⟩
  simp only [Mem.peek, HK.out, ← hj, Ybu]
  exact ho
 have HF := Yh_ hfin
 clear hfin
 have hrl := hM.lt
 go_enter Try.func33, Try.ntmps33
 go_wp2_with fail
 go_loopw [7, 8, 9] (fun v i _ wr => ∃ j : Nat, j ≤ k ∧ i = .int .i64 j ∧ (∀ t, t < j → M.mappedB (Yf x t) = true) ∧ Ym wr r M ∧ Upd [] w wr ∧ wr.ownsRow w.heap.size 5 1 v j ((M.peekL x j).map (Value.int .u8))) (fun v _ _ _ => k - Ydm v)
 case atStart => exact ⟨0, Nat.zero_le _, rfl, by simp, hM, Upd.refl _ _, World.ownsRow_nil _ _ _ _⟩
 case round =>
  obtain ⟨j, hj, rfl, hc, hm, hU, ho⟩ := hrel
  have HC := Yh_ hc
  have HM := Yh_ hm
  have HU := Yh_ hU
  have HO := Yh_ ho
  clear hc hm hU ho hM
  obtain ⟨sb, sc, rfl⟩ := Ycg HO.out
  have hplt := Ygi x j
  have hpn := Yp x j
  by_cases hlt : j < k
  ·have hmn : (j : Int) < n := by have := HMin.out; omega
   have h16 : (j : Int) < 16384 := by have := hk2.out; omega
   have q2 : (x + (j : Int)) % 4294967296 = Yf x j := rfl
   cases hb : M.mappedB (Yf x j)
   ·have HB := Yh_ hb
    have HR := Yh_ (show (M.rightAt (Yf x j) == 0) = true by rw [Ycp, hb]; rfl)
    clear hb
    go_wp2_with (go_at_call 54; refine (Yfe M r (Yf x j) _ HM.out (Yp x j)).mono ?_; rintro e w' ⟨rfl, rfl⟩; have hr0 := HR.out)
    go_ret
    exact HF.out j _ _ (Ycy M x k j hlt HC.out HB.out).symm HO.out HU.out
   ·have HB := Yh_ hb
    have HR := Yh_ (show (M.rightAt (Yf x j) == 0) = false by rw [Ycp, hb]; rfl)
    clear hb
    have hx := Yb2 HB.out
    have cb := HM.out.cB (Yf x j).toNat (by omega)
    go_wp2_with (first | (go_at_call 54; refine (Yfe M r (Yf x j) _ HM.out (Yp x j)).mono ?_; rintro e w' ⟨rfl, rfl⟩; have hr0 := HR.out) | (at_builtin; refine wpList_append_own _ rfl _ _ 67 rfl w.heap.size 5 i0 (.int .u8 0) 1 1 Try.underlying67 HI.out.1 HI.out.2.1 HI.out.2.2.1 HI.out.2.2.2 rfl (by decide) _ _ _ rfl (HO.out.alloc _) ⟨wr.heap.size, 0, none⟩ 1 1 [.int .u8 (M.B (Yf x j).toNat)] rfl rfl (Ye9 _ _ _) (Ycn _ _) (by have := hk2.out; unfold maxLen; omega) (by have := hk2.out; omega) (by have := HU.out.size; simp; omega) ?_))
    intro v' w1 hown' hgrow _
    have hU1 := Upd.of_grown hgrow
    have hlt' := HO.out.lt
    have hU2 : Upd (Value.slice sb j sc).ownBlock.toList wr w1 := ((Upd.refl [] wr).alloc _).trans hU1 (by simp) (fun z hz => .inl hz)
    have hne : ∀ z, z ∈ (Value.slice sb j sc).ownBlock.toList → w.heap.size ≤ z := fun z hz => (hlt' z (by simpa using hz)).1
    have hm' := HM.out.keep hU2 (fun h => by have := hne _ h; omega)
    have hu' := HU.out.new hU2 hne
    have HM' := Yh_ hm'
    have HU' := Yh_ hu'
    have HO' := Yh_ hown'
    clear hm' hu' hown' hgrow hU1 hU2 hne hlt' cb
    go_wp2_with fail
    go_roundw
    case rel => exact ⟨j + 1, by omega, by go_num, fun t ht => by
      by_cases e : t = j
      ·subst e; exact HB.out
      ·exact HC.out t (by omega), HM'.out, HU'.out, by rw [Yb8, List.map_append]; exact HO'.out⟩
    case measure => rw [Yde HO'.out]; simp [Ydm]; omega
  ·have hjk : j = k := by omega
   have hpk : j = M.peekN x k := by rw [hjk, Ycl M x k (fun t ht => HC.out t (by omega))]
   have HP := Yh_ hpk
   have hmin := HMin.out
   by_cases hmn : (j : Int) < n
   ·have h16 : ¬ (j : Int) < 16384 := by omega
    clear hmin hpk hjk
    go_wp2_with fail
    go_ret
    exact HF.out j _ _ HP.out HO.out HU.out
   ·clear hmin hpk hjk
    go_wp2_with fail
    go_ret
    exact HF.out j _ _ HP.out HO.out HU.out
structure Rep (v : Value) (l : List Value) (n : Nat) : Prop where
 eq : l = List.replicate n v
theorem Rep.append {v : Value} {l m : List Value} {a b : Nat} (h : Rep v l a) (k : Rep v m b) : Rep v (l.append m) (a + b) :=
 ⟨by rw [h.eq, k.eq]; exact List.replicate_append_replicate⟩
structure Rep2 (v u : Value) (l : List Value) (n m : Nat) : Prop where
 eq : l = List.replicate n v ++ List.replicate m u
theorem Rep2.append {v u : Value} {l l' : List Value} {n m m' : Nat} (h : Rep2 v u l n m) (k : Rep u l' m') : Rep2 v u (l.append l') n (m + m') :=
 ⟨by rw [h.eq, k.eq]; show (List.replicate n v ++ List.replicate m u) ++ List.replicate m' u = _; rw [List.append_assoc, List.replicate_append_replicate]⟩
theorem Rep.leaf {v : Value} {l : List Value} (h : l = List.replicate l.length v) : Rep v l l.length := ⟨h⟩
theorem Rep2.leaf {v u : Value} {l : List Value} (h : l = List.replicate l.length v) : Rep2 v u l l.length 0 := ⟨by rw [List.replicate_zero, List.append_nil]; exact h⟩
theorem Ye7 : ∃ l n m, Try.t30.zero = some (.agg l.toArray) ∧ Rep2 (.int .i64 0) (.int .u8 0) l n m ∧ n = 64 ∧ m = 16384 := by
 apply Exists.intro
 apply Exists.intro
 apply Exists.intro
 apply And.intro
 ·unfold Try.t30; exact rfl
 apply And.intro
 ·repeat (first | (with_reducible apply Rep2.append) | (with_reducible apply Rep.append) | exact Rep.leaf (by kernel_rfl) | exact Rep2.leaf (by kernel_rfl))
 ·exact ⟨by kernel_rfl, by kernel_rfl⟩
theorem zero_ref : ∃ Z : Array Value, Try.t30.zero = some (.agg Z) ∧ Ybk Z Mem.zero := by
 obtain ⟨l, n, m, h, k, hn, hm⟩ := Ye7
 have hk := k.eq
 clear k
 refine ⟨l.toArray, h, ?_, fun i hi => ?_⟩
 ·clear h
  rw [List.size_toArray, hk, List.length_append, List.length_replicate, List.length_replicate, hn, hm]
 ·clear h
  rw [hk, List.getElem?_toArray]
  by_cases h64 : i < 64
  ·rw [List.getElem?_append_left (by rw [List.length_replicate]; omega), List.getElem?_replicate, if_pos (by omega), Mem.rat, if_pos h64]
   rfl
  ·rw [List.getElem?_append_right (by rw [List.length_replicate]; omega), List.length_replicate, List.getElem?_replicate, if_pos (by omega), Mem.rat, if_neg h64]
   rfl
theorem info_ref : Try.prog.info? 30 = some Try.t30 := by kernel_rfl
theorem Yfl : ∃ Z : Array Value, Ybk Z Mem.zero ∧ ∀ w, (Instr.build 30 #[]).run Try.prog w = .ok (.agg Z) w := by
 obtain ⟨Z, hz, hZ⟩ := zero_ref
 refine ⟨Z, hZ, fun w => ?_⟩
 have hz' : (zeroValue 30).run Try.prog w = .ok (.agg Z) w := by
  generalize hT : Try.t30 = T at hz
  have hi := info_ref
  rw [hT] at hi
  clear hT
  simp [zeroValue, typeInfo, hi, hz]
 clear hz
 unfold Instr.build
 simp only [Sem.run_bind, hz', Result.andThen_ok, Try.runUnderlying30]
 simp only [Array.mapM_eq_mapM_toList, List.mapM_cons, List.mapM_nil, Sem.run_bind, Sem.run_pure, Result.andThen_ok, Sem.run_map]
 have h49 : ∀ w, (sizeOf 27).run Try.prog w = .ok 64 w := Try.sizeOf27
 have h50 : ∀ w, (sizeOf 28).run Try.prog w = .ok 16384 w := Try.sizeOf28
 simp only [h49, h50, Result.andThen_ok]
 rfl
theorem rat_one (M : Mem) (k : Nat) : (M.rat k).oneCell' = true := by
 unfold Mem.rat; split <;> rfl
theorem Ybk.one {C : Array Value} {M : Mem} (h : Ybk C M) : C.all (·.oneCell') = true := by
 rw [Array.all_eq_true]
 intro i hi
 have hi' : i < 16448 := by rw [← h.size]; exact hi
 have e := h.get i hi'
 rw [Array.getElem?_eq_getElem hi] at e
 injection e with e
 rw [e]
 exact rat_one M i
theorem Ym.new {w : World} {C : Array Value} {M : Mem} (h : Ybk C M) (hok : M.Ok) : Ym (w.alloc (.cells C 30 (0, 0))) w.heap.size M := ⟨⟨C, h, heap_alloc_new _ _⟩, hok⟩
section
open Go.WideShapes Go.ChangeShapes
def ByS0 (w : World) (v : Value) (l : List Int) (g : Nat) : Prop := (∃ a c, v = .slice a 0 c ∧ l = []) ∨ (l ≠ [] ∧ g < w.heap.size ∧ Ya7 w v l g)
theorem ByS0.keep {w w' : World} {v : Value} {l : List Int} {g : Nat} (h : ByS0 w v l g) (u : Upd [] w w') : ByS0 w' v l g := by
 rcases h with h | ⟨h0, h1, h2⟩
 ·exact .inl h
 ·exact .inr ⟨h0, Nat.lt_of_lt_of_le h1 u.size, h2.keep u (by simp)⟩
theorem Ygz {w : World} {b o : Nat} {s : Option Nat} {v : Value} (h : w.cell? ⟨b, o, s⟩ = some v) : s = none ∧ ∃ c t f, w.heap[b]? = some (.cells c t f) := by
 unfold World.cell? at h
 split at h
 ·rename_i c t f hh
  cases s with
  |none => exact ⟨rfl, c, t, f, hh⟩
  |some k => simp at h
 ·cases h
structure Ydn where
 wt : Int
 pg : Int
 ct : Int
 rt : Int
 nb : Int
 at_ : Int
 v : Int
 vb : Value
 vs : Value
 B : List Int
 S : List Yb7
 gb : Nat
 gs : Nat
def Ydn.cells (s : Ydn) : Array Value := #[.int .i64 s.wt, .int .i64 s.pg, .int .i64 s.ct, .int .i64 s.rt, .int .i64 s.nb, .int .u32 s.at_, .int .u32 s.v, s.vb, s.vs]
structure Ydn.Good (q : Ydn) (w : World) : Prop where
 pg : -9223372036854775808 ≤ q.pg ∧ q.pg ≤ 9223372036854775807
 ct : -9223372036854775808 ≤ q.ct ∧ q.ct ≤ 9223372036854775807
 nb : -9223372036854775808 ≤ q.nb ∧ q.nb ≤ 9223372036854775807
 at_ : 0 ≤ q.at_ ∧ q.at_ < 4294967296
 v : 0 ≤ q.v ∧ q.v < 4294967296
 b : ByS0 w q.vb q.B q.gb
 bl : ∀ i, 0 ≤ q.B.getD i 0 ∧ q.B.getD i 0 ≤ 255
 bn : q.B.length ≤ maxLen
 bf : ∃ b c, q.vb = .slice b q.B.length c
 sa : SArg w q.vs q.S q.gs
 sf : ∃ b c, q.vs = .slice b q.S.length c
theorem Ydn.Good.keep {s : Ydn} {w w' : World} (h : s.Good w) (u : Upd [] w w') : s.Good w' := ⟨h.pg, h.ct, h.nb, h.at_, h.v, h.b.keep u, h.bl, h.bn, h.bf, h.sa.keep u, h.sf⟩
end
theorem Ye6 (M : Mem) (a pb : Nat) (p n r : Int) (w : World) (hM : Yd w a pb M) (hn : -9223372036854775808 ≤ n) :
  Calls Try.prog 20 #[.pointer (some ⟨a, 0, none⟩), .int .i64 p, .int .i64 n, .int .i64 r] w fun e w' => e = .returned (.int .i64 (Ybz (M.mapB p n r) 61)) ∧ Yd w' a pb (M.mapM p n r) ∧ Upd [pb] w w' := by
 cases h : M.mapB p n r
 ·refine (Map_no M a pb p n r w hM hn h).mono ?_
  rintro e w' ⟨h1, h2⟩
  exact ⟨h1, by rw [Mem.mapM, h]; exact hM.keep h2 (by simp) (by simp), h2.mono (by simp)⟩
 ·refine (Map_yes M a pb p n r w hM hn h).mono ?_
  rintro e w' ⟨h1, h2, h3⟩
  exact ⟨h1, by rw [Mem.mapM, h]; exact h2, h3⟩
theorem Yfa (M : Mem) (a pb : Nat) (p n : Int) (w : World) (hM : Yd w a pb M) (hn : -9223372036854775808 ≤ n) :
  Calls Try.prog 52 #[.pointer (some ⟨a, 0, none⟩), .int .i64 p, .int .i64 n] w fun e w' => e = .returned (.int .i64 (Ybz (M.unmapB p n) 61)) ∧ Yd w' a pb (M.unmapM p n) ∧ Upd [pb] w w' := by
 cases h : M.unmapB p n
 ·refine (Unmap_no M a pb p n w hM hn h).mono ?_
  rintro e w' ⟨h1, h2⟩
  exact ⟨h1, by rw [Mem.unmapM, h]; exact hM.keep h2 (by simp) (by simp), h2.mono (by simp)⟩
 ·refine (Yg8 M a pb p n w hM hn h).mono ?_
  rintro e w' ⟨h1, h2, h3⟩
  exact ⟨h1, by rw [Mem.unmapM, h]; exact h2, h3⟩
theorem Ydq (M : Mem) (a pb : Nat) (p n r : Int) (w : World) (hM : Yd w a pb M) (hn : -9223372036854775808 ≤ n) :
  Calls Try.prog 53 #[.pointer (some ⟨a, 0, none⟩), .int .i64 p, .int .i64 n, .int .i64 r] w fun e w' => e = .returned (.int .i64 (Ybz (M.protB p n r) 61)) ∧ Yd w' a pb (M.protM p n r) ∧ Upd [pb] w w' := by
 cases h : M.protB p n r
 ·refine (Ygs M a pb p n r w hM hn h).mono ?_
  rintro e w' ⟨h1, h2⟩
  exact ⟨h1, by rw [Mem.protM, h]; exact hM.keep h2 (by simp) (by simp), h2.mono (by simp)⟩
 ·refine (Ygg M a pb p n r w hM hn h).mono ?_
  rintro e w' ⟨h1, h2, h3⟩
  exact ⟨h1, by rw [Mem.protM, h]; exact h2, h3⟩
section
structure Ev.Ok (e : Ev) : Prop where
 n : 0 ≤ e.n ∧ e.n < 4294967296
 b : 0 ≤ e.b ∧ e.b < 4294967296
 c : 0 ≤ e.c ∧ e.c < 4294967296
 d : 0 ≤ e.d ∧ e.d < 4294967296
def Yap (n b c d : Int) : Bool := decide (b % 256 = 0) && decide (c ≤ 64) && (decide (n = 91) || decide (d ≤ 7))
def chB (M : Mem) (n b c d : Int) : Bool := Yap n b c d && (if n = 91 then M.unmapB (b / 256) c else if n = 125 then M.protB (b / 256) c d else M.mapB (b / 256) c d)
def chM (M : Mem) (n b c d : Int) : Mem := if Yap n b c d = true then (if n = 91 then M.unmapM (b / 256) c else if n = 125 then M.protM (b / 256) c d else M.mapM (b / 256) c d) else M
def chR (M : Mem) (n b c d : Int) : Int := if chB M n b c d = true then 0 else 4294967274
section
variable (M : Mem) (a pb : Nat) (n b c d r : Int) (s : ByteArray) (w : World)
theorem ch_bad (hM : Yd w a pb M) (hb : 0 ≤ b) (h : Yap n b c d = false) :
  Calls Try.prog 27 #[.pointer (some ⟨a, 0, none⟩), .agg #[.int .u32 n, .int .u32 b, .int .u32 c, .int .u32 d, .int .u32 r, .string s]] w fun x w' => x = .returned (.int .u32 4294967274) ∧ Yd w' a pb M ∧ Upd [pb] w w' := by
 have HM := Yh_ hM
 obtain ⟨q, hq⟩ : ∃ q, b % 256 = q := ⟨_, rfl⟩
 have e1 : b.tmod 256 = q := by rw [Int.tmod_eq_emod_of_nonneg hb]; exact hq
 unfold Yap at h
 rw [hq] at h
 clear hM hb hq
 by_cases h1 : q = 0
 ·subst h1
  by_cases h2 : c ≤ 64
  ·have h3 : ¬ n = 91 ∧ ¬ d ≤ 7 := by simpa [h2] using h
   have d1 : decide (64 < c) = false := by simp; omega
   have d2 : decide (7 < d) = true := by simp; omega
   have d3 : (n == 91) = false := by simp [h3.1]
   have d4 : (n != 91) = true := by simp [h3.1]
   clear h h2 h3
   go_enter Try.func27, Try.ntmps27
   go_wp2_with (go_at_call 28; refine (Yao (-22) (by decide) _).mono ?_; rintro e w1 ⟨rfl, hu⟩; have HU := Yh_ ((((Upd.refl [] w).alloc _).also hu (by simp))); clear hu)
   go_ret
   exact ⟨rfl, HM.out.keep HU.out (by simp) (by simp), HU.out.mono (by simp)⟩
  ·have d1 : decide (64 < c) = true := by simp; omega
   clear h h2
   go_enter Try.func27, Try.ntmps27
   go_wp2_with (go_at_call 28; refine (Yao (-22) (by decide) _).mono ?_; rintro e w1 ⟨rfl, hu⟩; have HU := Yh_ ((((Upd.refl [] w).alloc _).also hu (by simp))); clear hu)
   go_ret
   exact ⟨rfl, HM.out.keep HU.out (by simp) (by simp), HU.out.mono (by simp)⟩
 ·have d1 : (q == 0) = false := by simp [h1]
  have d2 : (q != 0) = true := by simp [h1]
  clear h h1
  go_enter Try.func27, Try.ntmps27
  go_wp2_with (go_at_call 28; refine (Yao (-22) (by decide) _).mono ?_; rintro e w1 ⟨rfl, hu⟩; have HU := Yh_ ((((Upd.refl [] w).alloc _).also hu (by simp))); clear hu)
  go_ret
  exact ⟨rfl, HM.out.keep HU.out (by simp) (by simp), HU.out.mono (by simp)⟩
theorem ch_91 (hM : Yd w a pb M) (hb : 0 ≤ b ∧ b < 4294967296) (hc : 0 ≤ c ∧ c < 4294967296) (hd : 0 ≤ d ∧ d < 4294967296) (h : Yap n b c d = true) (hn : n = 91) :
  Calls Try.prog 27 #[.pointer (some ⟨a, 0, none⟩), .agg #[.int .u32 n, .int .u32 b, .int .u32 c, .int .u32 d, .int .u32 r, .string s]] w fun x w' => x = .returned (.int .u32 (chR M n b c d)) ∧ Yd w' a pb (chM M n b c d) ∧ Upd [pb] w w' := by
 have HM := Yh_ hM
 have hbl : w.heap.size ≤ w.heap.size := Nat.le_refl _
 have hB : chR M n b c d = if M.unmapB (b / 256) c = true then 0 else 4294967274 := by unfold chR chB; rw [h, Bool.true_and, if_pos hn]
 have hMM : chM M n b c d = M.unmapM (b / 256) c := by unfold chM; rw [if_pos h, if_pos hn]
 rw [hB, hMM]
 unfold Yap at h
 simp only [Bool.and_eq_true, Bool.or_eq_true, decide_eq_true_eq] at h
 obtain ⟨⟨h1, h2⟩, h3⟩ := h
 have e1 : b.tmod 256 = 0 := by rw [Int.tmod_eq_emod_of_nonneg hb.1]; exact h1
 have d1 : decide (64 < c) = false := by simp; omega
 subst hn
 obtain ⟨y, hy⟩ : ∃ y, b / 256 = y := ⟨_, rfl⟩
 have e2 : b.tdiv 256 = y := by rw [Int.tdiv_eq_ediv_of_nonneg hb.1]; exact hy
 have e3 : wrap64 y = y := by unfold wrap64; omega
 have e6 : y % 4294967296 = y := by omega
 have e4 : wrap64 c = c := by unfold wrap64; omega
 have e5 : wrap64 d = d := by unfold wrap64; omega
 have HC := Yh_ hc.1
 rw [hy]
 clear hM hb hc hd h1 h2 h3 hy hB hMM
 generalize hk : M.unmapB y c = k
 have HK := Yh_ hk
 clear hk
 cases k
 ·go_enter Try.func27, Try.ntmps27
  go_upto_region 3 with fail
  go_quiet (fail)
  simp only [e4, e5, e6]
  go_wp2_with (first | (go_at_call 52; refine (Yfa M a pb y c _ (HM.out.keep (Yv ((Upd.refl [] w).alloc _) _) (by simp) (by simp)) (by have := HC.out; omega)).mono ?_; rintro e w1 ⟨rfl, hm, hu⟩; rw [HK.out]; unfold Ybz; simp only [Bool.false_eq_true, if_false, if_true]; have HU := Yh_ (And.intro hm (((Yv ((Upd.refl [pb] w).alloc _) _).also hu (by simp)))); clear hm hu) | (go_at_call 28; refine (Yao (-22) (by decide) _).mono ?_; rintro e w2 ⟨rfl, hu2⟩; have HU2 := Yh_ hu2; clear hu2))
  go_ret
  exact ⟨rfl, HU.out.1.keep HU2.out (by simp) (by simp), HU.out.2.also HU2.out (by simp)⟩
 ·go_enter Try.func27, Try.ntmps27
  go_upto_region 3 with fail
  go_quiet (fail)
  simp only [e4, e5, e6]
  go_wp2_with (go_at_call 52; refine (Yfa M a pb y c _ (HM.out.keep (Yv ((Upd.refl [] w).alloc _) _) (by simp) (by simp)) (by have := HC.out; omega)).mono ?_; rintro e w1 ⟨rfl, hm, hu⟩; rw [HK.out]; unfold Ybz; simp only [Bool.false_eq_true, if_false, if_true]; have HU := Yh_ (And.intro hm (((Yv ((Upd.refl [pb] w).alloc _) _).also hu (by simp)))); clear hm hu)
  go_ret
  exact ⟨rfl, HU.out.1, HU.out.2⟩
theorem ch_125 (hM : Yd w a pb M) (hb : 0 ≤ b ∧ b < 4294967296) (hc : 0 ≤ c ∧ c < 4294967296) (hd : 0 ≤ d ∧ d < 4294967296) (h : Yap n b c d = true) (hn : n = 125) :
  Calls Try.prog 27 #[.pointer (some ⟨a, 0, none⟩), .agg #[.int .u32 n, .int .u32 b, .int .u32 c, .int .u32 d, .int .u32 r, .string s]] w fun x w' => x = .returned (.int .u32 (chR M n b c d)) ∧ Yd w' a pb (chM M n b c d) ∧ Upd [pb] w w' := by
 have HM := Yh_ hM
 have hbl : w.heap.size ≤ w.heap.size := Nat.le_refl _
 have hB : chR M n b c d = if M.protB (b / 256) c d = true then 0 else 4294967274 := by unfold chR chB; rw [h, Bool.true_and, if_neg (show ¬ n = 91 by omega), if_pos hn]
 have hMM : chM M n b c d = M.protM (b / 256) c d := by unfold chM; rw [if_pos h, if_neg (show ¬ n = 91 by omega), if_pos hn]
 rw [hB, hMM]
 unfold Yap at h
 simp only [Bool.and_eq_true, Bool.or_eq_true, decide_eq_true_eq] at h
 obtain ⟨⟨h1, h2⟩, h3⟩ := h
 have e1 : b.tmod 256 = 0 := by rw [Int.tmod_eq_emod_of_nonneg hb.1]; exact h1
 have d1 : decide (64 < c) = false := by simp; omega
 have d2 : decide (7 < d) = false := by simp; omega
 subst hn
 obtain ⟨y, hy⟩ : ∃ y, b / 256 = y := ⟨_, rfl⟩
 have e2 : b.tdiv 256 = y := by rw [Int.tdiv_eq_ediv_of_nonneg hb.1]; exact hy
 have e3 : wrap64 y = y := by unfold wrap64; omega
 have e6 : y % 4294967296 = y := by omega
 have e4 : wrap64 c = c := by unfold wrap64; omega
 have e5 : wrap64 d = d := by unfold wrap64; omega
 have HC := Yh_ hc.1
 rw [hy]
 clear hM hb hc hd h1 h2 h3 hy hB hMM
 generalize hk : M.protB y c d = k
 have HK := Yh_ hk
 clear hk
 cases k
 ·go_enter Try.func27, Try.ntmps27
  go_upto_region 3 with fail
  go_quiet (fail)
  simp only [e4, e5, e6]
  go_wp2_with (first | (go_at_call 53; refine (Ydq M a pb y c d _ (HM.out.keep (Yv ((Upd.refl [] w).alloc _) _) (by simp) (by simp)) (by have := HC.out; omega)).mono ?_; rintro e w1 ⟨rfl, hm, hu⟩; rw [HK.out]; unfold Ybz; simp only [Bool.false_eq_true, if_false, if_true]; have HU := Yh_ (And.intro hm (((Yv ((Upd.refl [pb] w).alloc _) _).also hu (by simp)))); clear hm hu) | (go_at_call 28; refine (Yao (-22) (by decide) _).mono ?_; rintro e w2 ⟨rfl, hu2⟩; have HU2 := Yh_ hu2; clear hu2))
  go_ret
  exact ⟨rfl, HU.out.1.keep HU2.out (by simp) (by simp), HU.out.2.also HU2.out (by simp)⟩
 ·go_enter Try.func27, Try.ntmps27
  go_upto_region 3 with fail
  go_quiet (fail)
  simp only [e4, e5, e6]
  go_wp2_with (go_at_call 53; refine (Ydq M a pb y c d _ (HM.out.keep (Yv ((Upd.refl [] w).alloc _) _) (by simp) (by simp)) (by have := HC.out; omega)).mono ?_; rintro e w1 ⟨rfl, hm, hu⟩; rw [HK.out]; unfold Ybz; simp only [Bool.false_eq_true, if_false, if_true]; have HU := Yh_ (And.intro hm (((Yv ((Upd.refl [pb] w).alloc _) _).also hu (by simp)))); clear hm hu)
  go_ret
  exact ⟨rfl, HU.out.1, HU.out.2⟩
theorem ch_map (hM : Yd w a pb M) (hb : 0 ≤ b ∧ b < 4294967296) (hc : 0 ≤ c ∧ c < 4294967296) (hd : 0 ≤ d ∧ d < 4294967296) (h : Yap n b c d = true) (hn : n ≠ 91 ∧ n ≠ 125) :
  Calls Try.prog 27 #[.pointer (some ⟨a, 0, none⟩), .agg #[.int .u32 n, .int .u32 b, .int .u32 c, .int .u32 d, .int .u32 r, .string s]] w fun x w' => x = .returned (.int .u32 (chR M n b c d)) ∧ Yd w' a pb (chM M n b c d) ∧ Upd [pb] w w' := by
 have HM := Yh_ hM
 have hbl : w.heap.size ≤ w.heap.size := Nat.le_refl _
 have hB : chR M n b c d = if M.mapB (b / 256) c d = true then 0 else 4294967274 := by unfold chR chB; rw [h, Bool.true_and, if_neg hn.1, if_neg hn.2]
 have hMM : chM M n b c d = M.mapM (b / 256) c d := by unfold chM; rw [if_pos h, if_neg hn.1, if_neg hn.2]
 rw [hB, hMM]
 unfold Yap at h
 simp only [Bool.and_eq_true, Bool.or_eq_true, decide_eq_true_eq] at h
 obtain ⟨⟨h1, h2⟩, h3⟩ := h
 have e1 : b.tmod 256 = 0 := by rw [Int.tmod_eq_emod_of_nonneg hb.1]; exact h1
 have d1 : decide (64 < c) = false := by simp; omega
 have d2 : decide (7 < d) = false := by simp; omega
 have d3 : (n == 91) = false := by simp [hn.1]
 have d4 : (n != 91) = true := by simp [hn.1]
 have d5 : (n == 125) = false := by simp [hn.2]
 obtain ⟨y, hy⟩ : ∃ y, b / 256 = y := ⟨_, rfl⟩
 have e2 : b.tdiv 256 = y := by rw [Int.tdiv_eq_ediv_of_nonneg hb.1]; exact hy
 have e3 : wrap64 y = y := by unfold wrap64; omega
 have e6 : y % 4294967296 = y := by omega
 have e4 : wrap64 c = c := by unfold wrap64; omega
 have e5 : wrap64 d = d := by unfold wrap64; omega
 have HC := Yh_ hc.1
 rw [hy]
 clear hM hb hc hd h1 h2 h3 hy hB hMM
 generalize hk : M.mapB y c d = k
 have HK := Yh_ hk
 clear hk
 cases k
 ·go_enter Try.func27, Try.ntmps27
  go_upto_region 3 with fail
  go_quiet (fail)
  simp only [e4, e5, e6]
  go_wp2_with (first | (go_at_call 20; refine (Ye6 M a pb y c d _ (HM.out.keep (Yv ((Upd.refl [] w).alloc _) _) (by simp) (by simp)) (by have := HC.out; omega)).mono ?_; rintro e w1 ⟨rfl, hm, hu⟩; rw [HK.out]; unfold Ybz; simp only [Bool.false_eq_true, if_false, if_true]; have HU := Yh_ (And.intro hm (((Yv ((Upd.refl [pb] w).alloc _) _).also hu (by simp)))); clear hm hu) | (go_at_call 28; refine (Yao (-22) (by decide) _).mono ?_; rintro e w2 ⟨rfl, hu2⟩; have HU2 := Yh_ hu2; clear hu2))
  go_ret
  exact ⟨rfl, HU.out.1.keep HU2.out (by simp) (by simp), HU.out.2.also HU2.out (by simp)⟩
 ·go_enter Try.func27, Try.ntmps27
  go_upto_region 3 with fail
  go_quiet (fail)
  simp only [e4, e5, e6]
  go_wp2_with (go_at_call 20; refine (Ye6 M a pb y c d _ (HM.out.keep (Yv ((Upd.refl [] w).alloc _) _) (by simp) (by simp)) (by have := HC.out; omega)).mono ?_; rintro e w1 ⟨rfl, hm, hu⟩; rw [HK.out]; unfold Ybz; simp only [Bool.false_eq_true, if_false, if_true]; have HU := Yh_ (And.intro hm (((Yv ((Upd.refl [pb] w).alloc _) _).also hu (by simp)))); clear hm hu)
  go_ret
  exact ⟨rfl, HU.out.1, HU.out.2⟩
theorem Yf8 (hM : Yd w a pb M) (hb : 0 ≤ b ∧ b < 4294967296) (hc : 0 ≤ c ∧ c < 4294967296) (hd : 0 ≤ d ∧ d < 4294967296) :
  Calls Try.prog 27 #[.pointer (some ⟨a, 0, none⟩), .agg #[.int .u32 n, .int .u32 b, .int .u32 c, .int .u32 d, .int .u32 r, .string s]] w fun x w' => x = .returned (.int .u32 (chR M n b c d)) ∧ Yd w' a pb (chM M n b c d) ∧ Upd [pb] w w' := by
 cases h : Yap n b c d
 ·have h1 : chR M n b c d = 4294967274 := by unfold chR chB; rw [h, Bool.false_and]; rfl
  have h2 : chM M n b c d = M := by unfold chM; rw [h]; rfl
  rw [h1, h2]
  exact ch_bad M a pb n b c d r s w hM hb.1 h
 ·by_cases h1 : n = 91
  ·exact ch_91 M a pb n b c d r s w hM hb hc hd h h1
  ·by_cases h2 : n = 125
   ·exact ch_125 M a pb n b c d r s w hM hb hc hd h h2
   ·exact ch_map M a pb n b c d r s w hM hb hc hd h ⟨h1, h2⟩
end
end
inductive DR (α : Type) where
 |ok (v : α) (k : Nat)
 |err (c : Int)
def DR.bind {α β : Type} (r : DR α) (f : α → Nat → DR β) : DR β :=
 match r with
 |.ok v k => f v k
 |.err c => .err c
structure Mrm where
 mod : Int
 reg : Int
 rm : Int
def Mrm.cells (m : Mrm) : Array Value := #[.int .i64 m.mod, .int .i64 m.reg, .int .i64 m.rm]
def BOk (L : List Int) : Prop := ∀ i, 0 ≤ L.getD i 0 ∧ L.getD i 0 ≤ 255
def Opd.cells (o : Opd) : Array Value := #[.int .i64 o.k, .int .i64 o.r, .int .u32 o.imm, .int .i64 o.b, .int .i64 o.x, .int .u32 o.sc]
theorem Opd.size (o : Opd) : o.cells.size = 6 := rfl
theorem Opd.one (o : Opd) : o.cells.all (·.oneCell') = true := by simp [Opd.cells, Value.oneCell']
def Ins.val (i : Ins) : Value := .agg i.cells
theorem Mrm.one (m : Mrm) : m.cells.all (·.oneCell') = true := by simp [Mrm.cells, Value.oneCell']
section
structure Mrm.Ok (m : Mrm) : Prop where
 mod : 0 ≤ m.mod ∧ m.mod ≤ 3
 reg : 0 ≤ m.reg ∧ m.reg < 8
 rm : 0 ≤ m.rm ∧ m.rm < 8
section
variable {w w2 w3 : World} {d : Nat} {v : Value} {L : List Int} {g k k' : Nat} {m : Mrm} {o o' : Opd}
end
end
section
def Yo (d : Nat → Bool) (i : Nat) : Nat → Bool := fun j => if j = i then true else d j
def Ybv (listed : Array Bool) : Nat → Bool := fun j => listed.getD j false
theorem Yfh {listed : Array Bool} {i : Nat} (h : i < listed.size) : Ybv (listed.setIfInBounds i true) = Yo (Ybv listed) i := by
 funext j
 simp only [Ybv, Yo]
 by_cases e : j = i
 ·subst e; simp [h]
 ·rw [if_neg e, getD_set_ne false (fun h => e h.symm)]
theorem Ygq (n : Nat) : Ybv (Array.replicate n false) = fun _ => false := by
 funext j; exact getD_replicate_false _ _
section
variable {P : Program} {ops : Array Oper} {B : (Nat → Bool) → World → Prop} {X : List PanicEntry → World → Prop} {fin : List Nat → Act → Prop} {dead : List Nat} {i : Nat} {o : Oper} {rest : List Oper} {a : Act}
end
end
end Go.Proofs.Ytdgclmibbmofcaa
