/-
  Parts of the proof (their names shortened by a program). No condition.
-/
import Derived.Test.YtdgclmibbmofcaaMg01
import Derived.Test.YtdgclmibbmofcaaMg03
import Derived.Maps.OwnSet
import Derived.Maps.OwnOps
import Derived.Deep.QuietTactic
import Derived.BigQuiet
import Derived.Laws.IdiomStrings
import Derived.Outline
import Derived.Test.YtdgclmibbmofcaaMg02
namespace Go.Proofs.Ytdgclmibbmofcaa
open Go Go.RowKit
set_option linter.unusedVariables false
set_option linter.unusedSimpArgs false
set_option maxRecDepth 100000
set_option maxHeartbeats 16000000
section
open Go.Maps
theorem Yv {S : List Nat} {a b : World} (h : Upd S a b) (n : Nat) : Upd S a (b.drewN n) := ⟨h.os, h.tape, h.output, h.size, h.block⟩
structure Ev where
 n : Int
 b : Int
 c : Int
 d : Int
 r : Int
 s : ByteArray
def Ev.cells (e : Ev) : Array Value := #[.int .u32 e.n, .int .u32 e.b, .int .u32 e.c, .int .u32 e.d, .int .u32 e.r, .string e.s]
def Ev.val (e : Ev) : Value := .agg e.cells
def evR (v : Value) : Option (DataW Value × List MemPlace) := some (.held v, [])
structure Yaw (w : World) (c b g : Nat) (l : List Int) (inp : ByteArray) (k n : Nat) (D : DataW Value) : Prop where
 hd : ∃ v, w.heap[c]? = some (.cells #[v, .string inp, .map (some b), .int .i64 n] 77 (0, 0)) ∧ Rp w v l g
 mp : w.ownsMap Try.prog 3 evR b k D
 cb : c ≠ b
 cg : c ≠ g ∧ b ≠ g
section
variable {w w' : World} {c b g k n : Nat} {l : List Int} {inp : ByteArray} {D : DataW Value} {S : List Nat}
theorem Yav {H : Type} {P : Program} {kt : TypeId} {R : Value → Option (DataW H × List MemPlace)} {D : DataW H} (h : w.ownsMap P kt R b n D) (u : Upd S w w') (hb : b ∉ S) : w'.ownsMap P kt R b n D := by
 obtain ⟨es, clock, h1, h2⟩ := h
 exact ⟨es, clock, u.get h1 hb, h2⟩
theorem Yaw.keep (h : Yaw w c b g l inp k n D) (u : Upd S w w') (hc : c ∉ S) (hb : b ∉ S) (hg : g ∉ S) : Yaw w' c b g l inp k n D := by
 obtain ⟨v, h1, h2⟩ := h.hd
 exact ⟨⟨v, u.get h1 hc, h2.keep u hg⟩, Yav h.mp u hb, h.cb, h.cg⟩
end
theorem Yao (n : Int) (hn : -2147483648 ≤ n ∧ n < 2147483648) (w : World) : Calls Try.prog 28 #[.int .i64 n] w fun e w' => e = .returned (.int .u32 (n % 4294967296)) ∧ Upd [] w w' := by
 have e1 : IntKind.i32.wrap n = n := by unfold IntKind.wrap; simp [IntKind.signed, IntKind.bits]; omega
 go_enter Try.func28, Try.ntmps28
 go_wp2_with fail
 go_ret
 exact ⟨by rfl, Upd.refl _ _⟩
theorem Ybo (w : World) : Calls Try.prog 23 #[] w fun e w' => e = .returned (.agg #[.int .u32 91, .int .u32 125, .int .u32 192]) ∧ Upd [] w w' := by
 go_enter Try.func23, Try.ntmps23
 go_wp2_with fail
 exact bodyPost_ret (Yf2 rfl (Ygm 0 40 w.heap.size _ _ rfl (heap_alloc_new w _) Try.underlying40 rfl (by kernel_rfl))) rfl ⟨rfl, (Upd.refl [] w).alloc _⟩
theorem Ygb (l : List Int) (kb c : Nat) (C : Array Value) (x : Int) (w : World) (hb : w.heap[kb]? = some (.cells C 33 (0, 0)) ∨ w.heap[kb]? = some (.cells C 40 (0, 0))) (hC : ∀ i, i < l.length → C[i]? = some (.int .u32 (l.getD i 0))) (hl : l.length < 1000) :
  Calls Try.prog 51 #[.slice (some ⟨kb, 0, none⟩) l.length c, .int .u32 x] w fun e w' => ∃ k : Int, e = .returned (.int .i64 k) ∧ decide (0 ≤ k) = l.contains x ∧ Upd [] w w' := by
 have HC : ∀ i, i < l.length → w.cell? ⟨kb, i, none⟩ = some (.int .u32 (l.getD i 0)) := fun i hi => by
  rcases hb with hb | hb
  ·rw [Ya hb]; exact hC i hi
  ·rw [Ya hb]; exact hC i hi
 obtain ⟨n, hn⟩ : ∃ n, l.length = n := ⟨_, rfl⟩
 rw [hn] at hl HC ⊢
 have HX := Yh_ (And.intro HC hn)
 clear HC hC hb hn
 go_enter Try.func51, Try.ntmps51
 go_wp2_with fail
 go_loopw [5, 8] (fun _ i wr => ∃ k : Nat, k ≤ n ∧ i = .int .i64 k ∧ (Hid (∀ j, j < k → l.getD j 0 ≠ x)) ∧ wr = w) (fun _ i _ => n - (intOf i).toNat)
 case atStart => exact ⟨0, Nat.zero_le _, rfl, Yh_ (fun j hj => by omega), rfl⟩
 case round =>
  obtain ⟨k, hk, rfl, hno, rfl⟩ := hrel
  by_cases hlt : k < n
  ·have hc := HX.out.1 k hlt
   by_cases he : l.getD k 0 = x
   ·rw [he] at hc
    go_wp2_with fail
    go_ret
    refine ⟨k, rfl, ?_, Upd.refl _ _⟩
    rw [decide_eq_true (by omega)]
    symm
    rw [List.contains_iff_mem]
    rw [← he, List.getD_eq_getElem?_getD, List.getElem?_eq_getElem (by rw [HX.out.2]; exact hlt)]
    exact List.getElem_mem _
   ·obtain ⟨y, hy⟩ : ∃ y, l.getD k 0 = y := ⟨_, rfl⟩
    rw [hy] at hc he
    have q1 : (x == y) = false := by simp; exact fun e => he e.symm
    have HY := Yh_ (And.intro hy he)
    clear hy he
    go_wp2_with fail
    go_roundw
    case rel =>
     refine ⟨k + 1, by omega, by go_num, Yh_ fun j hj => ?_, trivial⟩
     by_cases e : j = k
     ·subst e; rw [HY.out.1]; exact HY.out.2
     ·exact hno.out j (by omega)
    case measure => simp [intOf]; omega
  ·have hkn : k = n := by omega
   subst hkn
   go_wp2_with fail
   go_ret
   refine ⟨-1, rfl, ?_, Upd.refl _ _⟩
   rw [decide_eq_false (by omega)]
   symm
   rw [← Bool.not_eq_true, List.contains_iff_mem]
   intro hm
   obtain ⟨j, hj, e⟩ := List.getElem_of_mem hm
   exact hno.out j (by rw [← HX.out.2]; exact hj) (by rw [List.getD_eq_getElem?_getD, List.getElem?_eq_getElem hj]; exact e)
theorem Yby (l : List Int) (kb c : Nat) (C : Array Value) (x : Int) (w : World) (hb : w.heap[kb]? = some (.cells C 33 (0, 0)) ∨ w.heap[kb]? = some (.cells C 40 (0, 0))) (hC : ∀ i, i < l.length → C[i]? = some (.int .u32 (l.getD i 0))) (hl : l.length < 1000) :
  Calls Try.prog 26 #[.slice (some ⟨kb, 0, none⟩) l.length c, .int .u32 x] w fun e w' => e = .returned (.bool (l.contains x)) ∧ Upd [] w w' := by
 obtain ⟨bb, hbb⟩ : ∃ bb, l.contains x = bb := ⟨_, rfl⟩
 rw [hbb]
 have HB := Yh_ hbb
 clear hbb
 go_enter Try.func26, Try.ntmps26
 go_wp2_with (go_at_call 51; refine (Ygb l kb c C x _ hb hC hl).mono ?_; rintro e w1 ⟨k, rfl, hk, hu⟩; rw [HB.out] at hk)
 go_ret
 exact ⟨rfl, hu⟩
theorem Yet (e : Ev) (hd : 0 ≤ e.d ∧ e.d < 4294967296) (w : World) : Calls Try.prog 47 #[e.val] w fun x w' => x = .returned (.int .i64 (min e.d 64)) ∧ Upd [] w w' := by
 obtain ⟨n, b, c, d, r, s⟩ := e
 have hd : 0 ≤ d ∧ d < 4294967296 := hd
 show Calls Try.prog 47 #[.agg #[.int .u32 n, .int .u32 b, .int .u32 c, .int .u32 d, .int .u32 r, .string s]] w fun x w' => x = .returned (.int .i64 (min d 64)) ∧ Upd [] w w'
 obtain ⟨m, hm⟩ : ∃ m, min d 64 = m := ⟨_, rfl⟩
 have h64 : (if (64 : Int) < d then 64 else d) = m := by rw [← hm]; omega
 rw [hm]
 by_cases h : 64 < d
 ·rw [if_pos h] at h64
  subst h64
  clear hm
  go_enter Try.func47, Try.ntmps47
  go_wp2_with fail
  go_ret
  exact ⟨rfl, (Upd.refl [] w).alloc _⟩
 ·rw [if_neg h] at h64
  subst h64
  clear hm
  go_enter Try.func47, Try.ntmps47
  go_wp2_with fail
  go_ret
  exact ⟨rfl, (Upd.refl [] w).alloc _⟩
theorem Left_any (c b g k n : Nat) (l : List Int) (inp : ByteArray) (D : DataW Value) (w : World) (h : Yaw w c b g l inp k n D) :
  Calls Try.prog 16 #[.pointer (some ⟨c, 0, none⟩)] w fun e w' => e = .returned (.tuple #[.int .i64 l.length, .int .i64 inp.size]) ∧ Upd [] w w' := by
 obtain ⟨v, h1, h2⟩ := h.hd
 obtain ⟨a, cp, rfl⟩ := h2.form
 have hc := Ya h1
 clear h h1 h2
 go_enter Try.func16, Try.ntmps16
 go_wp2_with fail
 go_quiet (fail)
 go_wp2_with fail
 go_ret2
 exact ⟨rfl, Yv (Upd.refl [] w) _⟩
end
structure Yb7 where
 pg : Int
 ct : Int
 rt : Int
 by_ : ByteArray
 deriving Inhabited
def Yb7.ok (s : Yb7) : Prop := -9223372036854775808 ≤ s.ct ∧ s.ct ≤ 9223372036854775807
def Ydk (w : World) (v : Value) (l : List Yb7) (g : Nat) : Prop :=
 (∃ a c, v = .slice a 0 c ∧ l = []) ∨
 ∃ o c, v = .slice (some ⟨g, o, none⟩) l.length c ∧ g < w.heap.size ∧ l.length ≤ 9223372036854775807 ∧ ∀ i s, l[i]? = some s → w.cell? ⟨g, o + i * 4, none⟩ = some (.int .i64 s.pg) ∧ w.cell? ⟨g, o + i * 4 + 1, none⟩ = some (.int .i64 s.ct) ∧ w.cell? ⟨g, o + i * 4 + 2, none⟩ = some (.int .i64 s.rt) ∧ w.cell? ⟨g, o + i * 4 + 3, none⟩ = some (.string s.by_)
theorem Ydk.keep {w w' : World} {v : Value} {l : List Yb7} {g : Nat} {S : List Nat} (h : Ydk w v l g) (u : Upd S w w') (hg : g ∉ S) : Ydk w' v l g := by
 rcases h with h | ⟨o, c, h1, h2, h4, h3⟩
 ·exact .inl h
 ·refine .inr ⟨o, c, h1, Nat.lt_of_lt_of_le h2 u.size, h4, fun i s hs => ?_⟩
  have e : ∀ k, w'.cell? ⟨g, k, none⟩ = w.cell? ⟨g, k, none⟩ := fun k => by
   simp only [World.cell?]; rw [u.block g h2 hg]
  rw [e, e, e, e]
  exact h3 i s hs
def Yi (s : ByteArray) : List Int := s.data.toList.map fun b => (b.toNat : Int)
theorem Yeo (s : ByteArray) (i : Nat) : 0 ≤ (Yi s).getD i 0 ∧ (Yi s).getD i 0 ≤ 255 := by
 rw [List.getD_eq_getElem?_getD, Yi, List.getElem?_map]
 cases s.data.toList[i]? with
 |none => simp
 |some b =>
  have h := b.toNat_lt
  simp only [Option.map_some, Option.getD_some]
  exact ⟨by omega, by omega⟩
section
open Go.WideShapes Go.ChangeShapes
structure Yb7.Ok (s : Yb7) : Prop where
 pg : -9223372036854775808 ≤ s.pg ∧ s.pg ≤ 9223372036854775807
 ct : -9223372036854775808 ≤ s.ct ∧ s.ct ≤ 9223372036854775807
 rt : -9223372036854775808 ≤ s.rt ∧ s.rt ≤ 9223372036854775807
 by_ : s.by_.size ≤ maxLen
theorem wf_i64 {z : Int} (h : (Lit.int .i64 z).wf = true) : -9223372036854775808 ≤ z ∧ z ≤ 9223372036854775807 := by
 simp only [Lit.wf, Bool.and_eq_true, decide_eq_true_eq] at h
 have h1 : IntKind.i64.min = -9223372036854775808 := by decide
 have h2 : IntKind.i64.max = 9223372036854775807 := by decide
 omega
structure SArg (w : World) (v : Value) (L : List Yb7) (g : Nat) : Prop where
 sp : Ydk w v L g
 ok : ∀ s ∈ L, s.Ok
 len : L.length ≤ maxLen
 lt : g ≤ w.heap.size
 form : ∀ b n c, v = .slice b n c → n = L.length
theorem SArg.keep {w w' : World} {v : Value} {L : List Yb7} {g : Nat} (h : SArg w v L g) (u : Upd [] w w') : SArg w' v L g :=
 ⟨h.sp.keep u (by simp), h.ok, h.len, Nat.le_trans h.lt u.size, h.form⟩
end
theorem wr_zero (M : Mem) (p k : Nat) (h : p + k ≤ 64) : wr M.cells (p * 257) (Builtin.zeroCells Yn k).toList = (M.mapN p k 0).cells := by
 have hl : (Builtin.zeroCells Yn k).toList.length = k * 257 := by simp [Builtin.zeroCells, Yw]
 apply Array.ext_getElem?
 intro i
 rw [Ydj _ _ _ _ (by rw [hl, M.size_cells]; omega), hl]
 by_cases hk : i < 16448
 ·rw [Mem.getElem?_cells _ _ hk, Mem.getElem?_cells _ _ hk]
  by_cases e : p * 257 ≤ i ∧ i < p * 257 + k * 257
  ·rw [if_pos e]
   have h1 : i - p * 257 < k * 257 := by omega
   rw [Array.getElem?_toList, Builtin.zeroCells, Array.getElem?_map, Array.getElem?_range, Yw, if_pos h1]
   simp only [Option.map_some, Option.some.injEq]
   have hz := Ycf (i - p * 257)
   rw [Yw] at hz
   rw [hz]
   have hm : (i - p * 257) % 257 = i % 257 := by omega
   have hp : p ≤ i / 257 ∧ i / 257 < p + k := by omega
   simp only [Mem.at_, hm, Mem.zero, Mem.mapN]
   by_cases e2 : i % 257 = 0
   ·simp [e2, hp]
   ·have hq := Nat.mod_lt i (show 257 > 0 by decide)
    have : (i / 257 * 256 + (i % 257 - 1)) / 256 = i / 257 := by omega
    simp [e2, this, hp]
  ·rw [if_neg e]
   have hp : ¬ (p ≤ i / 257 ∧ i / 257 < p + k) := by omega
   simp only [Mem.at_, Mem.mapN]
   by_cases e2 : i % 257 = 0
   ·simp [e2, hp]
   ·have hq := Nat.mod_lt i (show 257 > 0 by decide)
    have : (i / 257 * 256 + (i % 257 - 1)) / 256 = i / 257 := by omega
    simp [e2, this, hp]
 ·rw [if_neg (by omega), Array.getElem?_eq_none (by rw [Mem.size_cells]; omega), Array.getElem?_eq_none (by rw [Mem.size_cells]; omega)]
theorem zero_one (k : Nat) : (Builtin.zeroCells Yn k).all (·.oneCell') = true := by
 rw [Array.all_eq_true_iff_forall_mem]
 intro v hv
 simp only [Builtin.zeroCells, Array.mem_map] at hv
 obtain ⟨j, _, rfl⟩ := hv
 rw [Ycf]
 exact Mem.at_one _ _
theorem Yen (M : Mem) (a pb p k c : Nat) (w : World) (hM : Yd w a pb M) (hk : 0 < k) (h : p + k ≤ 64) (ty : TypeId) (cs : Array Bool) :
  (builtin .clear #[71] ty cs #[.slice (some ⟨pb, p * 257, none⟩) k c]).run Try.prog w = .ok (.value (.tuple #[])) (w.setCells pb (p * 257) (Builtin.zeroCells Yn k).toList) := by
 rw [BigFrame.builtin_clear]
 have hz : (zeroValue 108).run Try.prog w = .ok (.agg Yn) w := by
  simp [zeroValue, Yb3]
 have hl : (Builtin.zeroCells Yn k).size = k * 257 := by simp [Builtin.zeroCells, Yw]
 have ht := hM.there (p * 257) (k * 257) (by omega)
 have hs := run_storeCells_cells (P := Try.prog) pb (p * 257) (Builtin.zeroCells Yn k).toList 0 w (fun j hj => by simpa using (ht j (by simpa [hl] using hj)).1) (fun j hj => by simpa using (ht j (by simpa [hl] using hj)).2)
  (fun v hv => (Array.all_eq_true_iff_forall_mem.1 (zero_one k)) v (by simpa using hv))
 obtain ⟨j, rfl⟩ : ∃ j, k = j + 1 := ⟨k - 1, by omega⟩
 unfold Builtin.clear_
 simp only [Nat.add_zero] at hs
 simp [Sem.run_bind, hz, Value.cells, hs]
theorem Unmap_no (M : Mem) (a pb : Nat) (at_ n : Int) (w : World) (hM : Yd w a pb M) (hn : -9223372036854775808 ≤ n) (h : M.unmapB at_ n = false) :
  Calls Try.prog 52 #[.pointer (some ⟨a, 0, none⟩), .int .i64 at_, .int .i64 n] w fun e w' => e = .returned (.int .i64 61) ∧ Upd [] w w' := by
 have HA := Yh_ h
 clear h
 go_enter Try.func52, Try.ntmps52
 go_wp2_with (first | (go_at_call 44; refine (Ycd M a pb at_ n true _ hM hn).mono ?_; rintro e w' ⟨rfl, hU⟩; rw [show M.all at_ n true = false from HA.out]))
 go_ret
 exact ⟨rfl, hU⟩
theorem Yg8 (M : Mem) (a pb : Nat) (at_ n : Int) (w : World) (hM : Yd w a pb M) (hn : -9223372036854775808 ≤ n) (h : M.unmapB at_ n = true) :
  Calls Try.prog 52 #[.pointer (some ⟨a, 0, none⟩), .int .i64 at_, .int .i64 n] w fun e w' => e = .returned (.int .i64 0) ∧ Yd w' a pb (M.mapN at_.toNat n.toNat 0) ∧ Upd [pb] w w' := by
 have ha : M.all at_ n true = true := h
 have hrow : Yal at_ n = true := by
  simp only [Mem.all, Bool.and_eq_true] at ha; exact ha.1
 obtain ⟨g1, g2, g3, g4⟩ := (Yac at_ n).1 hrow
 have HA := Yh_ ha
 have HW := Yh_ hrow
 clear h ha hrow
 obtain ⟨p, rfl⟩ := Int.eq_ofNat_of_zero_le g1
 obtain ⟨k, rfl⟩ := Int.eq_ofNat_of_zero_le (show 0 ≤ n by omega)
 rw [Int.toNat_natCast, Int.toNat_natCast]
 go_enter Try.func52, Try.ntmps52
 go_wp2_with (first | (go_at_call 44; refine (Ycd M a pb p k true _ hM hn).mono ?_; rintro e w1 ⟨rfl, hU⟩; rw [HA.out]; have hM1 := hM.keep hU (by simp) (by simp); have HU := Yh_ hU; have HM1 := Yh_ hM1; clear hU hM1) | (go_at_call 45; refine (Ydl a pb p k _ M HM1.out HW.out).mono ?_; rintro e w2 ⟨cc, rfl, rfl⟩; rw [Int.toNat_natCast, Int.toNat_natCast]) | (refine Yeq rfl .clear _ #[71] rfl (.slice (some ⟨pb, p * 257, none⟩) k cc) rfl (.tuple #[]) _ (Yen M a pb p k cc _ HM1.out (by omega) (by omega) _) ?_))
 go_ret
 exact ⟨rfl, HM1.out.wr _ _ (by simp [Builtin.zeroCells, Yw]; omega) (wr_zero _ _ _ (by omega)) (HM1.out.ok.mapN_ok' _ _), (HU.out.mono (T := [pb]) (by simp)).setCells (by simp) _ _⟩
theorem Ygs (M : Mem) (a pb : Nat) (at_ n r : Int) (w : World) (hM : Yd w a pb M) (hn : -9223372036854775808 ≤ n) (h : M.protB at_ n r = false) :
  Calls Try.prog 53 #[.pointer (some ⟨a, 0, none⟩), .int .i64 at_, .int .i64 n, .int .i64 r] w fun e w' => e = .returned (.int .i64 61) ∧ Upd [] w w' := by
 cases hr : Yai r
 ·have HR := Yh_ hr
  clear hr h
  go_enter Try.func53, Try.ntmps53
  go_wp2_with (first | (go_at_call 43; refine (Ya2 r _).mono ?_; rintro e w' ⟨rfl, rfl⟩; rw [HR.out]))
  go_ret
  exact ⟨rfl, Upd.refl _ _⟩
 ·have ha : M.all at_ n true = false := by simpa [Mem.protB, hr] using h
  have HR := Yh_ hr
  have HA := Yh_ ha
  clear hr h ha
  go_enter Try.func53, Try.ntmps53
  go_wp2_with (first | (go_at_call 43; refine (Ya2 r _).mono ?_; rintro e w' ⟨rfl, rfl⟩; rw [HR.out]) | (go_at_call 44; refine (Ycd M a pb at_ n true _ hM hn).mono ?_; rintro e w' ⟨rfl, hU⟩; rw [HA.out]))
  go_ret
  exact ⟨rfl, hU⟩
theorem Ygg (M : Mem) (a pb : Nat) (at_ n r : Int) (w : World) (hM : Yd w a pb M) (hn : -9223372036854775808 ≤ n) (h : M.protB at_ n r = true) :
  Calls Try.prog 53 #[.pointer (some ⟨a, 0, none⟩), .int .i64 at_, .int .i64 n, .int .i64 r] w fun e w' => e = .returned (.int .i64 0) ∧ Yd w' a pb (M.protN at_.toNat n.toNat r) ∧ Upd [pb] w w' := by
 simp only [Mem.protB, Bool.and_eq_true] at h
 obtain ⟨hr, ha⟩ := h
 have hrow : Yal at_ n = true := by
  simp only [Mem.all, Bool.and_eq_true] at ha; exact ha.1
 obtain ⟨g1, g2, g3, g4⟩ := (Yac at_ n).1 hrow
 have HR := Yh_ hr
 have HA := Yh_ ha
 have HW := Yh_ hrow
 clear hr ha hrow
 obtain ⟨p, rfl⟩ := Int.eq_ofNat_of_zero_le g1
 obtain ⟨k, rfl⟩ := Int.eq_ofNat_of_zero_le (show 0 ≤ n by omega)
 rw [Int.toNat_natCast, Int.toNat_natCast]
 go_enter Try.func53, Try.ntmps53
 go_wp2_with (first | (go_at_call 43; refine (Ya2 r _).mono ?_; rintro e w' ⟨rfl, rfl⟩; rw [HR.out]) | (go_at_call 44; refine (Ycd M a pb p k true _ hM hn).mono ?_; rintro e w1 ⟨rfl, hU⟩; rw [HA.out]; have hM1 := hM.keep hU (by simp) (by simp); have HU := Yh_ hU; have HM1 := Yh_ hM1; clear hU hM1) | (go_at_call 45; refine (Ydl a pb p k _ M HM1.out HW.out).mono ?_; rintro e w2 ⟨cc, rfl, rfl⟩; rw [Int.toNat_natCast, Int.toNat_natCast]))
 go_loopw [11, 31] (fun _ i wr => ∃ j : Nat, j ≤ k ∧ i = .int .i64 j ∧ Yd wr a pb (M.protN p j r) ∧ Upd [pb] w wr) (fun _ i _ => k - (intOf i).toNat)
 case atStart => exact ⟨0, Nat.zero_le _, rfl, by rw [Mem.protN_zero]; exact HM1.out, HU.out.mono (by simp)⟩
 case round =>
  obtain ⟨j, hj, rfl, hMj, hUj⟩ := hrel
  have hc : p + j < 64 → wr.cell? ⟨pb, p * 257 + j * 257, none⟩ = some (.int .i64 ((M.protN p j r).R (p + j))) := fun h => by
   rw [← hMj.cR _ h, Nat.add_mul]
  have hf : wr.frozen? ⟨pb, p * 257 + j * 257, none⟩ = false := hMj.free _
  have HMj := Yh_ hMj
  have HUj := Yh_ hUj
  clear hMj hUj
  by_cases hlt : j < k
  ·have hc := hc (by omega)
   go_wp2
   go_roundw
   case rel =>
    refine ⟨j + 1, by omega, by go_num, ?_, HUj.out.setCell (by simp) _⟩
    have h := HMj.out.set ((p + j) * 257) (.int .i64 r) (by omega) (Mem.cells_setR _ _ _ (by omega)) (by rw [Mem.protN_succ]; exact Mem.protN_ok HM1.out.ok _ _ (by have := (Yag r).1 HR.out; omega) ((Yag r).1 HR.out).2)
    rw [Mem.protN_succ, Nat.add_mul] at h
    exact h
   case measure => simp [intOf]; omega
  ·clear hc
   go_wp2
   go_ret
   have e : j = k := by omega
   subst e
   exact ⟨rfl, HMj.out, HUj.out⟩
theorem Upd.drewN {S : List Nat} {a b : World} (h : Upd S a b) (n : Nat) : Upd S a (b.drewN n) := ⟨h.os, h.tape, h.output, h.size, h.block⟩
def Mem.rat (M : Mem) (k : Nat) : Value := if k < 64 then .int .i64 (M.R k) else .int .u8 (M.B (k - 64))
structure Ybk (C : Array Value) (M : Mem) : Prop where
 size : C.size = 16448
 get : ∀ k, k < 16448 → C[k]? = some (M.rat k)
structure Ym (w : World) (r : Nat) (M : Mem) : Prop where
 ex : ∃ C, Ybk C M ∧ w.heap[r]? = some (.cells C 30 (0, 0))
 ok : M.Ok
theorem Ym.lt {w : World} {r : Nat} {M : Mem} (h : Ym w r M) : r < w.heap.size := by
 obtain ⟨C, _, h1⟩ := h.ex; exact Yl h1
theorem Ym.keep {w w' : World} {r : Nat} {M : Mem} {S : List Nat} (h : Ym w r M) (u : Upd S w w') (hr : r ∉ S) : Ym w' r M := by
 obtain ⟨C, h1, h2⟩ := h.ex
 exact ⟨⟨C, h1, u.get h2 hr⟩, h.ok⟩
theorem Ym.cR {w : World} {r : Nat} {M : Mem} (h : Ym w r M) (p : Nat) (hp : p < 64) : w.cell? ⟨r, p, none⟩ = some (.int .i64 (M.R p)) := by
 obtain ⟨C, h1, h2⟩ := h.ex
 rw [Ya h2, h1.get p (by omega), Mem.rat, if_pos hp]
theorem Ym.cB {w : World} {r : Nat} {M : Mem} (h : Ym w r M) (a : Nat) (ha : a < 16384) : w.cell? ⟨r, 64 + a, none⟩ = some (.int .u8 (M.B a)) := by
 obtain ⟨C, h1, h2⟩ := h.ex
 rw [Ya h2, h1.get _ (by omega), Mem.rat, if_neg (by omega), Nat.add_sub_cancel_left]
theorem Ym.free {w : World} {r : Nat} {M : Mem} (h : Ym w r M) (o : Nat) : w.frozen? ⟨r, o, none⟩ = false := by
 obtain ⟨C, h1, h2⟩ := h.ex
 exact Yg h2 o
theorem Ym.setR {w : World} {r : Nat} {M : Mem} (h : Ym w r M) (p : Nat) (v : Int) (hp : p < 64) (h0 : 0 ≤ v) (h7 : v ≤ 7) : Ym (w.setCell ⟨r, p, none⟩ (.int .i64 v)) r (M.setR p v) := by
 obtain ⟨C, h1, h2⟩ := h.ex
 refine ⟨⟨_, ⟨by rw [Array.size_setIfInBounds]; exact h1.size, fun k hk => ?_⟩, Ye h2 p _⟩, Mem.setR_ok h.ok p h0 h7⟩
 rw [Array.getElem?_setIfInBounds, h1.get k hk, h1.size]
 by_cases e : p = k
 ·subst e
  rw [if_pos rfl, if_pos (by omega), Mem.rat, if_pos hp]
  simp [Mem.setR]
 ·rw [if_neg e]
  simp only [Mem.rat, Mem.setR]
  by_cases hk2 : k < 64
  ·rw [if_pos hk2, if_pos hk2, if_neg (fun h => e h.symm)]
  ·rw [if_neg hk2, if_neg hk2]
theorem Ym.setB {w : World} {r : Nat} {M : Mem} (h : Ym w r M) (a : Nat) (v : Int) (ha : a < 16384) (h0 : 0 ≤ v) (h7 : v ≤ 255) : Ym (w.setCell ⟨r, 64 + a, none⟩ (.int .u8 v)) r (M.setB a v) := by
 obtain ⟨C, h1, h2⟩ := h.ex
 refine ⟨⟨_, ⟨by rw [Array.size_setIfInBounds]; exact h1.size, fun k hk => ?_⟩, Ye h2 _ _⟩, Mem.setB_ok h.ok a h0 h7⟩
 rw [Array.getElem?_setIfInBounds, h1.get k hk, h1.size]
 by_cases e : 64 + a = k
 ·subst e
  rw [if_pos rfl, if_pos (by omega), Mem.rat, if_neg (by omega), Nat.add_sub_cancel_left]
  simp [Mem.setB]
 ·rw [if_neg e]
  simp only [Mem.rat, Mem.setB]
  by_cases hk2 : k < 64
  ·rw [if_pos hk2, if_pos hk2]
  ·rw [if_neg hk2, if_neg hk2, if_neg (by omega)]
theorem Yab (p n : Int) (w : World) (hn : -9223372036854775808 ≤ n) (hn2 : n ≤ 9223372036854775807) :
  Calls Try.prog 29 #[.int .i64 p, .int .i64 n] w fun e w' => e = .returned (.bool (Yal p n)) ∧ w = w' := by
 by_cases h1 : 0 ≤ p
 ·by_cases h2 : p < 64
  ·by_cases h3 : 0 < n
   ·by_cases h4 : n ≤ 64 - p
    ·have HV := Yh_ (show Yal p n = true from (Yac p n).2 (by omega))
     go_enter Try.func29, Try.ntmps29
     go_wp2
     go_ret
     exact ⟨by rw [HV.out]; rfl, rfl⟩
    ·have HV := Yh_ (show Yal p n = false by rw [← Bool.not_eq_true, Yac]; omega)
     have h4' : 64 - p < n := by omega
     go_enter Try.func29, Try.ntmps29
     go_wp2
     go_ret
     exact ⟨by rw [HV.out]; rfl, rfl⟩
   ·have HV := Yh_ (show Yal p n = false by rw [← Bool.not_eq_true, Yac]; omega)
    have h3' : n ≤ 0 := by omega
    go_enter Try.func29, Try.ntmps29
    go_wp2
    go_ret
    exact ⟨by rw [HV.out]; rfl, rfl⟩
  ·have HV := Yh_ (show Yal p n = false by rw [← Bool.not_eq_true, Yac]; omega)
   have h2' : 64 ≤ p := by omega
   go_enter Try.func29, Try.ntmps29
   go_wp2
   go_ret
   exact ⟨by rw [HV.out]; rfl, rfl⟩
 ·have HV := Yh_ (show Yal p n = false by rw [← Bool.not_eq_true, Yac]; omega)
  have h1' : p < 0 := by omega
  go_enter Try.func29, Try.ntmps29
  go_wp2
  go_ret
  exact ⟨by rw [HV.out]; rfl, rfl⟩
def Mem.allR (M : Mem) (p q : Nat) : Bool := (List.range (q - p)).all fun i => M.R (p + i) != 0
def Mem.anyR (M : Mem) (p q : Nat) : Bool := (List.range (q - p)).any fun i => M.R (p + i) != 0
theorem Yhc (M : Mem) (p q : Nat) (h : p ≤ q) : M.allR p (q + 1) = (M.allR p q && (M.R q != 0)) := by
 have e : q + 1 - p = (q - p) + 1 := by omega
 have e2 : p + (q - p) = q := by omega
 simp [Mem.allR, e, List.range_succ, e2]
theorem Yg4 (M : Mem) (p q : Nat) (h : p ≤ q) : M.anyR p (q + 1) = (M.anyR p q || (M.R q != 0)) := by
 have e : q + 1 - p = (q - p) + 1 := by omega
 have e2 : p + (q - p) = q := by omega
 simp [Mem.anyR, e, List.range_succ, e2]
theorem Ybh (M : Mem) (r p k : Nat) (w : World) (hM : Ym w r M) (h : p + k ≤ 64) :
  Calls Try.prog 30 #[.pointer (some ⟨r, 0, none⟩), .int .i64 p, .int .i64 k] w fun e w' => e = .returned (.tuple #[.bool (M.allR p (p + k)), .bool (M.anyR p (p + k))]) ∧ Upd [] w w' := by
 have hmo : Try.prog.follows .mixedOrders = true := by kernel_rfl
 have HM := Yh_ hM
 clear hM
 go_enter Try.func30, Try.ntmps30
 go_wp2_with fail
 go_loopw [8, 9, 10] (fun a b i wr => ∃ q : Nat, p ≤ q ∧ q ≤ p + k ∧ i = .int .i64 q ∧ a = .bool (M.allR p q) ∧ b = .bool (M.anyR p q) ∧ Upd [] w wr) (fun _ _ i _ => p + k - (intOf i).toNat)
 case atStart => exact ⟨p, Nat.le_refl _, by omega, rfl, by simp [Mem.allR], by simp [Mem.anyR], Upd.refl _ _⟩
 case round =>
  obtain ⟨q, hq0, hq, rfl, rfl, rfl, hU⟩ := hrel
  have hcR := (HM.out.keep hU (by simp)).cR q
  have HU := Yh_ hU
  clear hU
  by_cases hlt : q < p + k
  ·have hA := Yhc M p q hq0
   have hE := Yg4 M p q hq0
   have hcR := hcR (by omega)
   have h64 : q < 64 := by omega
   have hlt' : (q : Int) < p + k := by omega
   cases ha : M.allR p q <;> cases hb : M.anyR p q
   all_goals
    rw [ha] at hA
    rw [hb] at hE
    have HAE := Yh_ (And.intro hA hE)
    clear hA hE ha hb
    go_wp2_with fail
    go_quiet (fail)
    go_wp2_with fail
    go_roundw
    case rel => exact ⟨q + 1, by omega, by omega, by go_num, by rw [HAE.out.1]; rfl, by rw [HAE.out.2]; rfl, HU.out.drewN _⟩
    case measure => simp [intOf]; omega
  ·have e : q = p + k := by omega
   subst e
   clear hcR
   go_wp2_with fail
   go_ret2
   exact ⟨rfl, HU.out⟩
def Mem.setTo (M : Mem) (p q : Nat) (r : Int) (fr : Bool) : Mem :=
 ⟨fun i => if p ≤ i ∧ i < q then r else M.R i, fun x => if fr = true ∧ p ≤ x / 256 ∧ x / 256 < q then 0 else M.B x⟩
def Mem.clr (M : Mem) (q j : Nat) : Mem := ⟨M.R, fun x => if q * 256 ≤ x ∧ x < q * 256 + j then 0 else M.B x⟩
theorem Mem.setTo_self (M : Mem) (p : Nat) (r : Int) (fr : Bool) : M.setTo p p r fr = M := by
 apply Mem.ext'
 ·funext i; simp only [Mem.setTo]; rw [if_neg (by omega)]
 ·funext x; simp only [Mem.setTo]; rw [if_neg (by omega)]
theorem Mem.clr_zero (M : Mem) (q : Nat) : M.clr q 0 = M := by
 apply Mem.ext'
 ·rfl
 ·funext x; simp only [Mem.clr]; rw [if_neg (by omega)]
theorem Mem.clr_succ (M : Mem) (q j : Nat) : (M.clr q j).setB (q * 256 + j) 0 = M.clr q (j + 1) := by
 apply Mem.ext'
 ·rfl
 ·funext x
  simp only [Mem.clr, Mem.setB]
  by_cases e : x = q * 256 + j
  ·rw [if_pos e, if_pos (by omega)]
  ·rw [if_neg e]
   by_cases h : q * 256 ≤ x ∧ x < q * 256 + j
   ·rw [if_pos h, if_pos (by omega)]
   ·rw [if_neg h, if_neg (by omega)]
theorem Mem.setTo_fresh (M : Mem) (p q : Nat) (r : Int) (h : p ≤ q) : ((M.setTo p q r true).setR q r).clr q 256 = M.setTo p (q + 1) r true := by
 apply Mem.ext'
 ·funext i
  simp only [Mem.setTo, Mem.setR, Mem.clr]
  by_cases e : i = q
  ·rw [if_pos e, if_pos (by omega)]
  ·rw [if_neg e]
   by_cases h : p ≤ i ∧ i < q
   ·rw [if_pos h, if_pos (by omega)]
   ·rw [if_neg h, if_neg (by omega)]
 ·funext x
  simp only [Mem.setTo, Mem.setR, Mem.clr, true_and]
  by_cases e : q * 256 ≤ x ∧ x < q * 256 + 256
  ·rw [if_pos e, if_pos (by omega)]
  ·rw [if_neg e]
   by_cases h : p ≤ x / 256 ∧ x / 256 < q
   ·rw [if_pos h, if_pos (by omega)]
   ·rw [if_neg h, if_neg (by omega)]
theorem Mem.setTo_stale (M : Mem) (p q : Nat) (r : Int) (h : p ≤ q) : (M.setTo p q r false).setR q r = M.setTo p (q + 1) r false := by
 apply Mem.ext'
 ·funext i
  simp only [Mem.setTo, Mem.setR]
  by_cases e : i = q
  ·rw [if_pos e, if_pos (by omega)]
  ·rw [if_neg e]
   by_cases h : p ≤ i ∧ i < q
   ·rw [if_pos h, if_pos (by omega)]
   ·rw [if_neg h, if_neg (by omega)]
 ·funext x
  simp [Mem.setTo, Mem.setR]
theorem Mem.setTo_map (M : Mem) (p k : Nat) (r : Int) : M.setTo p (p + k) r true = M.mapN p k r := by
 apply Mem.ext' <;> (funext x; simp [Mem.setTo, Mem.mapN])
theorem Mem.setTo_prot (M : Mem) (p k : Nat) (r : Int) : M.setTo p (p + k) r false = M.protN p k r := by
 apply Mem.ext' <;> (funext x; simp [Mem.setTo, Mem.protN])
theorem Ye5 (M : Mem) (r p k : Nat) (v : Int) (fr : Bool) (w : World) (hM : Ym w r M) (h : p + k ≤ 64) (h0 : 0 ≤ v) (h7 : v ≤ 7) :
  Calls Try.prog 31 #[.pointer (some ⟨r, 0, none⟩), .int .i64 p, .int .i64 k, .int .i64 v, .bool fr] w fun e w' => e = .returned (.tuple #[]) ∧ Ym w' r (M.setTo p (p + k) v fr) ∧ Upd [r] w w' := by
 have HM := Yh_ hM
 clear hM
 go_enter Try.func31, Try.ntmps31
 go_wp2_with fail
 go_loopw [10, 11] (fun i _ wr => ∃ q : Nat, p ≤ q ∧ q ≤ p + k ∧ i = .int .i64 q ∧ Ym wr r (M.setTo p q v fr) ∧ Upd [r] w wr) (fun i _ _ => p + k - (intOf i).toNat)
 case atStart => exact ⟨p, Nat.le_refl _, by omega, rfl, by rw [Mem.setTo_self]; exact HM.out, Upd.refl _ _⟩
 case round =>
  obtain ⟨q, hq0, hq, rfl, hR, hU⟩ := hrel
  by_cases hlt : q < p + k
  ·have hcR := hR.cR q (by omega)
   have hfR := hR.free q
   have hlt' : (q : Int) < p + k := by omega
   have h64 : q < 64 := by omega
   have HR := Yh_ hR
   have HU := Yh_ hU
   clear hR hU
   cases fr
   ·go_wp2_with fail
    go_loopw [11] (fun i wr2 => i = .int .i64 0 ∧ Ym wr2 r (M.setTo p (q + 1) v false) ∧ Upd [r] w wr2) (fun _ _ => 0)
    case atStart => exact ⟨rfl, by rw [← Mem.setTo_stale _ _ _ _ hq0]; exact HR.out.setR q v h64 h0 h7, HU.out.setCell (by simp) _⟩
    case round =>
     obtain ⟨rfl, hR2, hU2⟩ := hrel
     have HR2 := Yh_ hR2
     have HU2 := Yh_ hU2
     clear hR2 hU2
     go_wp2_with fail
     go_roundw
     case rel => exact ⟨q + 1, by omega, by omega, by go_num, HR2.out, HU2.out⟩
     case measure => simp [intOf]; omega
   ·go_wp2_with fail
    go_loopw [11] (fun i wr2 => ∃ j : Nat, j ≤ 256 ∧ i = .int .i64 j ∧ Ym wr2 r (((M.setTo p q v true).setR q v).clr q j) ∧ Upd [r] w wr2) (fun i _ => 256 - (intOf i).toNat)
    case atStart => exact ⟨0, by omega, rfl, by rw [Mem.clr_zero]; exact HR.out.setR q v h64 h0 h7, HU.out.setCell (by simp) _⟩
    case round =>
     obtain ⟨j, hj, rfl, hR2, hU2⟩ := hrel
     by_cases hjl : j < 256
     ·have hcB := hR2.cB (q * 256 + j) (by omega)
      have hfB := hR2.free (64 + (q * 256 + j))
      have HR2 := Yh_ hR2
      have HU2 := Yh_ hU2
      clear hR2 hU2
      go_wp2_with fail
      go_roundw
      case rel => exact ⟨j + 1, by omega, by go_num, by rw [← Mem.clr_succ]; exact HR2.out.setB (q * 256 + j) 0 (by omega) (by omega) (by omega), HU2.out.setCell (by simp) _⟩
      case measure => simp [intOf]; omega
     ·have e : j = 256 := by omega
      subst e
      have HR2 := Yh_ hR2
      have HU2 := Yh_ hU2
      clear hR2 hU2
      go_wp2_with fail
      go_roundw
      case rel => exact ⟨q + 1, by omega, by omega, by go_num, by rw [← Mem.setTo_fresh _ _ _ _ hq0]; exact HR2.out, HU2.out⟩
      case measure => simp [intOf]; omega
  ·have e : q = p + k := by omega
   subst e
   have HR := Yh_ hR
   have HU := Yh_ hU
   clear hR hU
   go_wp2_with fail
   go_end0
   exact ⟨rfl, HR.out, HU.out⟩
theorem Yfq (M : Mem) (p k : Nat) (h : Yal p k = true) : M.all p k false = !M.anyR p (p + k) := by
 have e : p + k - p = k := by omega
 simp [Mem.all, h, Mem.anyR, Mem.odd, e]
 
theorem Yda (M : Mem) (p k : Nat) (h : Yal p k = true) : M.all p k true = M.allR p (p + k) := by
 have e : p + k - p = k := by omega
 rw [Mem.all, h, Bool.true_and, Mem.allR, e, Int.toNat_natCast, Int.toNat_natCast, List.all_eq_not_any_not]
 congr 2
 funext i
 simp only [Mem.odd]
 cases M.R (p + i) != 0 <;> rfl
theorem Yfx {M : Mem} {p n : Int} {b : Bool} (h : Yal p n = false) : M.all p n b = false := by rw [Mem.all, h, Bool.false_and]
def Mem.mapM (M : Mem) (p n r : Int) : Mem := if M.mapB p n r then M.mapN p.toNat n.toNat r else M
def Mem.unmapM (M : Mem) (p n : Int) : Mem := if M.unmapB p n then M.mapN p.toNat n.toNat 0 else M
def Mem.protM (M : Mem) (p n r : Int) : Mem := if M.protB p n r then M.protN p.toNat n.toNat r else M
theorem Ygj (M : Mem) (r : Nat) (p n v : Int) (w : World) (hM : Ym w r M) (hn : -9223372036854775808 ≤ n) (hn2 : n ≤ 9223372036854775807) :
  Calls Try.prog 11 #[.pointer (some ⟨r, 0, none⟩), .int .i64 p, .int .i64 n, .int .i64 v] w fun e w' => e = .returned (.int .i64 (Ybz (M.mapB p n v) 61)) ∧ Ym w' r (M.mapM p n v) ∧ Upd [r] w w' := by
 by_cases hrow : Yal p n = true
 ·obtain ⟨g1, g2, g3, g4⟩ := (Yac p n).1 hrow
  obtain ⟨p, rfl⟩ := Int.eq_ofNat_of_zero_le g1
  obtain ⟨k, rfl⟩ := Int.eq_ofNat_of_zero_le (show 0 ≤ n by omega)
  by_cases h1 : v < 1
  ·have HB := Yh_ (show M.mapB p k v = false by rw [Mem.mapB, show Yai v = false from by rw [← Bool.not_eq_true, Yag]; omega, Bool.false_and])
   have HW := Yh_ hrow
   have HM := Yh_ hM
   clear hrow hM
   go_enter Try.func11, Try.ntmps11
   go_wp2_with (go_at_call 29; refine (Yab p k _ hn hn2).mono ?_; rintro e w' ⟨rfl, rfl⟩; rw [HW.out])
   go_ret
   exact ⟨by rw [HB.out]; rfl, by rw [Mem.mapM, HB.out]; exact HM.out, Upd.refl _ _⟩
  ·by_cases h7 : 7 < v
   ·have HB := Yh_ (show M.mapB p k v = false by rw [Mem.mapB, show Yai v = false from by rw [← Bool.not_eq_true, Yag]; omega, Bool.false_and])
    have HW := Yh_ hrow
    have HM := Yh_ hM
    clear hrow hM
    go_enter Try.func11, Try.ntmps11
    go_wp2_with (go_at_call 29; refine (Yab p k _ hn hn2).mono ?_; rintro e w' ⟨rfl, rfl⟩; rw [HW.out])
    go_ret
    exact ⟨by rw [HB.out]; rfl, by rw [Mem.mapM, HB.out]; exact HM.out, Upd.refl _ _⟩
   ·have hall := Yfq M p k hrow
    have hr : Yai v = true := (Yag v).2 (by omega)
    have hv0 : 0 ≤ v := by omega
    have hv7 : v ≤ 7 := by omega
    cases ha : M.anyR p (p + k)
    ·have HB := Yh_ (show M.mapB p k v = true by rw [Mem.mapB, hr, hall, ha]; rfl)
     have HW := Yh_ hrow
     have HM := Yh_ hM
     have HA := Yh_ ha
     clear hrow hM hall hr ha
     go_enter Try.func11, Try.ntmps11
     go_wp2_with (first | (go_at_call 29; refine (Yab p k _ hn hn2).mono ?_; rintro e w' ⟨rfl, rfl⟩; rw [HW.out]) | (go_at_call 30; refine (Ybh M r p k _ HM.out (by omega)).mono ?_; rintro e w1 ⟨rfl, hU⟩; rw [HA.out]; have HM1 := Yh_ (HM.out.keep hU (by simp)); have HU := Yh_ hU; clear hU) | (go_at_call 31; refine (Ye5 M r p k v true _ HM1.out (by omega) hv0 hv7).mono ?_; rintro e w2 ⟨rfl, hM2, hU2⟩; have HM2 := Yh_ hM2; have HU2 := Yh_ hU2; clear hM2 hU2))
     go_ret
     exact ⟨by rw [HB.out]; rfl, by rw [Mem.mapM, HB.out, if_pos rfl, ← Mem.setTo_map]; exact HM2.out, (HU.out.mono (T := [r]) (by simp)).also HU2.out (fun _ h => .inl h)⟩
    ·have HB := Yh_ (show M.mapB p k v = false by rw [Mem.mapB, hr, hall, ha]; rfl)
     have HW := Yh_ hrow
     have HM := Yh_ hM
     have HA := Yh_ ha
     clear hrow hM hall hr ha
     go_enter Try.func11, Try.ntmps11
     go_wp2_with (first | (go_at_call 29; refine (Yab p k _ hn hn2).mono ?_; rintro e w' ⟨rfl, rfl⟩; rw [HW.out]) | (go_at_call 30; refine (Ybh M r p k _ HM.out (by omega)).mono ?_; rintro e w1 ⟨rfl, hU⟩; rw [HA.out]; have HM1 := Yh_ (HM.out.keep hU (by simp)); have HU := Yh_ hU; clear hU))
     go_ret
     exact ⟨by rw [HB.out]; rfl, by rw [Mem.mapM, HB.out]; exact HM1.out, HU.out.mono (by simp)⟩
 ·have hrow' : Yal p n = false := by simpa using hrow
  have HB := Yh_ (show M.mapB p n v = false by rw [Mem.mapB, Yfx hrow', Bool.and_false])
  have HW := Yh_ hrow'
  have HM := Yh_ hM
  clear hrow hM hrow'
  go_enter Try.func11, Try.ntmps11
  go_wp2_with (go_at_call 29; refine (Yab p n _ hn hn2).mono ?_; rintro e w' ⟨rfl, rfl⟩; rw [HW.out])
  go_ret
  exact ⟨by rw [HB.out]; rfl, by rw [Mem.mapM, HB.out]; exact HM.out, Upd.refl _ _⟩
theorem Yds (M : Mem) (r : Nat) (p n v : Int) (w : World) (hM : Ym w r M) (hn : -9223372036854775808 ≤ n) (hn2 : n ≤ 9223372036854775807) :
  Calls Try.prog 10 #[.pointer (some ⟨r, 0, none⟩), .int .i64 p, .int .i64 n, .int .i64 v] w fun e w' => e = .returned (.int .i64 (Ybz (M.protB p n v) 61)) ∧ Ym w' r (M.protM p n v) ∧ Upd [r] w w' := by
 by_cases hrow : Yal p n = true
 ·obtain ⟨g1, g2, g3, g4⟩ := (Yac p n).1 hrow
  obtain ⟨p, rfl⟩ := Int.eq_ofNat_of_zero_le g1
  obtain ⟨k, rfl⟩ := Int.eq_ofNat_of_zero_le (show 0 ≤ n by omega)
  by_cases h1 : v < 1
  ·have HB := Yh_ (show M.protB p k v = false by rw [Mem.protB, show Yai v = false from by rw [← Bool.not_eq_true, Yag]; omega, Bool.false_and])
   have HW := Yh_ hrow
   have HM := Yh_ hM
   clear hrow hM
   go_enter Try.func10, Try.ntmps10
   go_wp2_with (go_at_call 29; refine (Yab p k _ hn hn2).mono ?_; rintro e w' ⟨rfl, rfl⟩; rw [HW.out])
   go_ret
   exact ⟨by rw [HB.out]; rfl, by rw [Mem.protM, HB.out]; exact HM.out, Upd.refl _ _⟩
  ·by_cases h7 : 7 < v
   ·have HB := Yh_ (show M.protB p k v = false by rw [Mem.protB, show Yai v = false from by rw [← Bool.not_eq_true, Yag]; omega, Bool.false_and])
    have HW := Yh_ hrow
    have HM := Yh_ hM
    clear hrow hM
    go_enter Try.func10, Try.ntmps10
    go_wp2_with (go_at_call 29; refine (Yab p k _ hn hn2).mono ?_; rintro e w' ⟨rfl, rfl⟩; rw [HW.out])
    go_ret
    exact ⟨by rw [HB.out]; rfl, by rw [Mem.protM, HB.out]; exact HM.out, Upd.refl _ _⟩
   ·have hall := Yda M p k hrow
    have hr : Yai v = true := (Yag v).2 (by omega)
    have hv0 : 0 ≤ v := by omega
    have hv7 : v ≤ 7 := by omega
    cases ha : M.allR p (p + k)
    ·have HB := Yh_ (show M.protB p k v = false by rw [Mem.protB, hr, hall, ha]; rfl)
     have HW := Yh_ hrow
     have HM := Yh_ hM
     have HA := Yh_ ha
     clear hrow hM hall hr ha
     go_enter Try.func10, Try.ntmps10
     go_wp2_with (first | (go_at_call 29; refine (Yab p k _ hn hn2).mono ?_; rintro e w' ⟨rfl, rfl⟩; rw [HW.out]) | (go_at_call 30; refine (Ybh M r p k _ HM.out (by omega)).mono ?_; rintro e w1 ⟨rfl, hU⟩; rw [HA.out]; have HM1 := Yh_ (HM.out.keep hU (by simp)); have HU := Yh_ hU; clear hU))
     go_ret
     exact ⟨by rw [HB.out]; rfl, by rw [Mem.protM, HB.out]; exact HM1.out, HU.out.mono (by simp)⟩
    ·have HB := Yh_ (show M.protB p k v = true by rw [Mem.protB, hr, hall, ha]; rfl)
     have HW := Yh_ hrow
     have HM := Yh_ hM
     have HA := Yh_ ha
     clear hrow hM hall hr ha
     go_enter Try.func10, Try.ntmps10
     go_wp2_with (first | (go_at_call 29; refine (Yab p k _ hn hn2).mono ?_; rintro e w' ⟨rfl, rfl⟩; rw [HW.out]) | (go_at_call 30; refine (Ybh M r p k _ HM.out (by omega)).mono ?_; rintro e w1 ⟨rfl, hU⟩; rw [HA.out]; have HM1 := Yh_ (HM.out.keep hU (by simp)); have HU := Yh_ hU; clear hU) | (go_at_call 31; refine (Ye5 M r p k v false _ HM1.out (by omega) hv0 hv7).mono ?_; rintro e w2 ⟨rfl, hM2, hU2⟩; have HM2 := Yh_ hM2; have HU2 := Yh_ hU2; clear hM2 hU2))
     go_ret
     exact ⟨by rw [HB.out]; rfl, by rw [Mem.protM, HB.out, if_pos rfl, ← Mem.setTo_prot]; exact HM2.out, (HU.out.mono (T := [r]) (by simp)).also HU2.out (fun _ h => .inl h)⟩
 ·have hrow' : Yal p n = false := by simpa using hrow
  have HB := Yh_ (show M.protB p n v = false by rw [Mem.protB, Yfx hrow', Bool.and_false])
  have HW := Yh_ hrow'
  have HM := Yh_ hM
  clear hrow hM hrow'
  go_enter Try.func10, Try.ntmps10
  go_wp2_with (go_at_call 29; refine (Yab p n _ hn hn2).mono ?_; rintro e w' ⟨rfl, rfl⟩; rw [HW.out])
  go_ret
  exact ⟨by rw [HB.out]; rfl, by rw [Mem.protM, HB.out]; exact HM.out, Upd.refl _ _⟩
theorem Yfb (M : Mem) (r : Nat) (p n : Int) (w : World) (hM : Ym w r M) (hn : -9223372036854775808 ≤ n) (hn2 : n ≤ 9223372036854775807) :
  Calls Try.prog 9 #[.pointer (some ⟨r, 0, none⟩), .int .i64 p, .int .i64 n] w fun e w' => e = .returned (.int .i64 (Ybz (M.unmapB p n) 61)) ∧ Ym w' r (M.unmapM p n) ∧ Upd [r] w w' := by
 by_cases hrow : Yal p n = true
 ·obtain ⟨g1, g2, g3, g4⟩ := (Yac p n).1 hrow
  obtain ⟨p, rfl⟩ := Int.eq_ofNat_of_zero_le g1
  obtain ⟨k, rfl⟩ := Int.eq_ofNat_of_zero_le (show 0 ≤ n by omega)
  have hall := Yda M p k hrow
  cases ha : M.allR p (p + k)
  ·have HB := Yh_ (show M.unmapB p k = false by rw [Mem.unmapB, hall, ha])
   have HW := Yh_ hrow
   have HM := Yh_ hM
   have HA := Yh_ ha
   clear hrow hM hall ha
   go_enter Try.func9, Try.ntmps9
   go_wp2_with (first | (go_at_call 29; refine (Yab p k _ hn hn2).mono ?_; rintro e w' ⟨rfl, rfl⟩; rw [HW.out]) | (go_at_call 30; refine (Ybh M r p k _ HM.out (by omega)).mono ?_; rintro e w1 ⟨rfl, hU⟩; rw [HA.out]; have HM1 := Yh_ (HM.out.keep hU (by simp)); have HU := Yh_ hU; clear hU))
   go_ret
   exact ⟨by rw [HB.out]; rfl, by rw [Mem.unmapM, HB.out]; exact HM1.out, HU.out.mono (by simp)⟩
  ·have HB := Yh_ (show M.unmapB p k = true by rw [Mem.unmapB, hall, ha])
   have HW := Yh_ hrow
   have HM := Yh_ hM
   have HA := Yh_ ha
   clear hrow hM hall ha
   go_enter Try.func9, Try.ntmps9
   go_wp2_with (first | (go_at_call 29; refine (Yab p k _ hn hn2).mono ?_; rintro e w' ⟨rfl, rfl⟩; rw [HW.out]) | (go_at_call 30; refine (Ybh M r p k _ HM.out (by omega)).mono ?_; rintro e w1 ⟨rfl, hU⟩; rw [HA.out]; have HM1 := Yh_ (HM.out.keep hU (by simp)); have HU := Yh_ hU; clear hU) | (go_at_call 31; refine (Ye5 M r p k 0 true _ HM1.out (by omega) (by decide) (by decide)).mono ?_; rintro e w2 ⟨rfl, hM2, hU2⟩; have HM2 := Yh_ hM2; have HU2 := Yh_ hU2; clear hM2 hU2))
   go_ret
   exact ⟨by rw [HB.out]; rfl, by rw [Mem.unmapM, HB.out, if_pos rfl, ← Mem.setTo_map]; exact HM2.out, (HU.out.mono (T := [r]) (by simp)).also HU2.out (fun _ h => .inl h)⟩
 ·have hrow' : Yal p n = false := by simpa using hrow
  have HB := Yh_ (show M.unmapB p n = false by rw [Mem.unmapB, Yfx hrow'])
  have HW := Yh_ hrow'
  have HM := Yh_ hM
  clear hrow hM hrow'
  go_enter Try.func9, Try.ntmps9
  go_wp2_with (go_at_call 29; refine (Yab p n _ hn hn2).mono ?_; rintro e w' ⟨rfl, rfl⟩; rw [HW.out])
  go_ret
  exact ⟨by rw [HB.out]; rfl, by rw [Mem.unmapM, HB.out]; exact HM.out, Upd.refl _ _⟩
structure Yea (M : Mem) (a pb : Nat) (w : World) (w1 : World) : Prop where
 f : w1.heap[w.heap.size]? = some (.cells #[.int .i64 0, .int .u32 0, .int .u32 0, .int .i64 0] 112 (0, 0))
 k : w1.heap[w.heap.size + 1]? = some (.cells #[.bool false] 4 (0, 0))
 m : Yd w1 a pb M
 u : Upd [pb] w w1
 al : a < w.heap.size
 pl : pb < w.heap.size
structure Ydg (M : Mem) (a pb : Nat) (w : World) (g : Nat) (cur : Array Value) (w1 : World) : Prop where
 f : w1.heap[w.heap.size]? = some (.cells #[.int .i64 0, .int .u32 0, .int .u32 0, .int .i64 0] 112 (0, 0))
 k : w1.heap[w.heap.size + 1]? = some (.cells #[.bool false] 4 (0, 0))
 m : Yd w1 a pb M
 u : Upd [pb] w w1
 g : w1.heap[g]? = some (.cells cur 133 (0, 0))
theorem Ydg.store {M : Mem} {a pb : Nat} {w w1 : World} {g : Nat} {cur : Array Value} (h : Ydg M a pb w g cur w1) (ha : a < w.heap.size) (hp : pb < w.heap.size) (hg : w.heap.size ≤ g) {y : Int} (h0 : 0 ≤ y) (h1 : y < 16384) {b : Int} (hb0 : 0 ≤ b) (hb1 : b ≤ 255) :
  Ydg (M.setB y.toNat b) a pb w g cur (w1.setCell ⟨pb, Ya5 y, none⟩ (.int .u8 b)) :=
 ⟨Yc _ (by simp <;> omega) h.f, Yc _ (by simp <;> omega) h.k, h.m.store h0 h1 hb0 hb1, h.u.setCell (by simp) _, Yc _ (by simp <;> omega) h.g⟩
def Mem.putN (M : Mem) (x v : Int) : Nat → Mem
 |0 => M
 |j + 1 => (M.putN x v j).setB (Yf x j).toNat (v / 2 ^ (8 * j) % 256)
theorem Mem.putN_R (M : Mem) (x v : Int) : ∀ j, (M.putN x v j).R = M.R
 |0 => rfl
 |j + 1 => Mem.putN_R M x v j
def ptrs (pb : Nat) (x : Int) (j : Nat) : List Value := (List.range j).map fun t => .pointer (some ⟨pb, Ya5 (Yf x t), none⟩)
theorem Yhi (pb : Nat) (x : Int) (j : Nat) : ptrs pb x (j + 1) = ptrs pb x j ++ [.pointer (some ⟨pb, Ya5 (Yf x j), none⟩)] := by
 simp [ptrs, List.range_succ]
theorem ptrs_get (pb : Nat) (x : Int) (n j : Nat) (hj : j < n) : (ptrs pb x n)[j]? = some (.pointer (some ⟨pb, Ya5 (Yf x j), none⟩)) := by
 simp [ptrs, hj]
theorem info_pu8 : (Try.prog.info? 133).map (fun i => (i.zero, i.size, i.bytes)) = some (some (.pointer none), 1, 8) := by kernel_rfl
theorem Ycz (tmps : Array Value) (fb kb : Nat) (y0 y1 y2 y3 : Int) (k : Bool) (w : World) (h8 : tmps.getD 8 undef = .pointer (some ⟨fb, 0, none⟩)) (h9 : tmps.getD 9 undef = .pointer (some ⟨kb, 0, none⟩))
  (hf : w.heap[fb]? = some (.cells #[.int .i64 y0, .int .u32 y1, .int .u32 y2, .int .i64 y3] 112 (0, 0))) (hk : w.heap[kb]? = some (.cells #[.bool k] 4 (0, 0))) :
  (results Try.f49 tmps).run Try.prog w = .ok (.tuple #[.agg #[.int .i64 y0, .int .u32 y1, .int .u32 y2, .int .i64 y3], .bool k]) w := by
 have cf : ∀ o, w.cell? ⟨fb, o, none⟩ = #[.int .i64 y0, .int .u32 y1, .int .u32 y2, .int .i64 y3][o]? := Ya hf
 have ck : ∀ o, w.cell? ⟨kb, o, none⟩ = #[.bool k][o]? := Ya hk
 rw [Array.getD_eq_getD_getElem?] at h8 h9
 simp [results, Try.results49, go_sem, h8, h9, cf, ck]
def Ydy (w : World) : List Deferred :=
 [{ target := .fn (.func 66) #[], args := #[.pointer (some ⟨w.heap.size, 0, none⟩), .pointer (some ⟨w.heap.size + 1, 0, none⟩)] }]
theorem Yd1 (M : Mem) (a pb : Nat) (w w1 : World) (y r : Int) (tmps : Array Value) (R : Ending → World → Prop) (h8 : tmps.getD 8 undef = .pointer (some ⟨w.heap.size, 0, none⟩)) (h9 : tmps.getD 9 undef = .pointer (some ⟨w.heap.size + 1, 0, none⟩)) (hB : Yea M a pb w w1)
  (hR : ∀ w', Upd [pb] w w' → Yd w' a pb M → R (.returned (.tuple #[Yae y r, .bool false])) w') :
  Leaves Try.prog Try.f49 tmps R (Ydy w) (.panicking [{ v := .iface 112 (Yae y r), recovered := false }]) w1 := by
 have hal := hB.al
 have hpl := hB.pl
 refine leaves_cons (f := 66) (args := #[.pointer (some ⟨w.heap.size, 0, none⟩), .pointer (some ⟨w.heap.size + 1, 0, none⟩)]) (by simp) (by simp [go_sem]) ?_
 refine (Yce _ _ _ _ _ _ _ _ _ _ _ [] w1 hB.f hB.k (by omega)).mono ?_
 rintro e u' w2 ⟨rfl, rfl, hf, hk, hU⟩
 simp only [settle, List.dropWhile_nil]
 exact ⟨_, Ycz _ _ _ _ _ _ _ _ w2 h8 h9 hf hk, hR _ (hB.u.also hU (by simp <;> omega)) (hB.m.keep hU (by simp <;> omega) (by simp <;> omega))⟩
theorem Ye3 (w w1 : World) (tmps : Array Value) (R : Ending → World → Prop) (h8 : tmps.getD 8 undef = .pointer (some ⟨w.heap.size, 0, none⟩)) (h9 : tmps.getD 9 undef = .pointer (some ⟨w.heap.size + 1, 0, none⟩))
  (hf : w1.heap[w.heap.size]? = some (.cells #[.int .i64 0, .int .u32 0, .int .u32 0, .int .i64 0] 112 (0, 0)))
  (hk : w1.heap[w.heap.size + 1]? = some (.cells #[.bool true] 4 (0, 0)))
  (hR : R (.returned (.tuple #[.agg #[.int .i64 0, .int .u32 0, .int .u32 0, .int .i64 0], .bool true])) w1) :
  Leaves Try.prog Try.f49 tmps R (Ydy w) .returning w1 := by
 refine leaves_cons (f := 66) (args := #[.pointer (some ⟨w.heap.size, 0, none⟩), .pointer (some ⟨w.heap.size + 1, 0, none⟩)]) (by simp) (by simp [go_sem]) ?_
 refine (Ydu _ _ w1).mono ?_
 rintro e u' w2 ⟨rfl, rfl, rfl⟩
 simp only [settle]
 exact ⟨_, Ycz _ _ _ _ _ _ _ _ w1 h8 h9 hf hk, hR⟩
def Mem.writeF (M : Mem) (x bytes : Int) : Value :=
 match M.bad x 2 (Yt bytes).toNat with | none => .agg #[.int .i64 0, .int .u32 0, .int .u32 0, .int .i64 0] | some i => Yae (Yf x i) 2
def Mem.writeK (M : Mem) (x bytes : Int) : Bool := (M.bad x 2 (Yt bytes).toNat).isNone
def Mem.writeM (M : Mem) (x bytes v : Int) : Mem :=
 match M.bad x 2 (Yt bytes).toNat with | none => M.putN x v (Yt bytes).toNat | some _ => M
theorem Ydh (M : Mem) (a pb : Nat) (x bytes v : Int) (w : World) (hM : Yd w a pb M) (h0 : 0 ≤ x) (h1 : x < 4294967296) (hv0 : 0 ≤ v) (hv1 : v < 4294967296) :
  Calls Try.prog 49 #[.pointer (some ⟨a, 0, none⟩), .int .u32 x, .int .i64 bytes, .int .u32 v] w fun e w' =>
   e = .returned (.tuple #[M.writeF x bytes, .bool (M.writeK x bytes)]) ∧ Yd w' a pb (M.writeM x bytes v) ∧ Upd [pb] w w' := by
 have hal := hM.al
 have hpl := hM.pl
 have hw3 := Ydv bytes
 obtain ⟨n, hn⟩ : ∃ n : Nat, Yt bytes = n := ⟨(Yt bytes).toNat, by omega⟩
 have HN := Yh_ hn
 have hn4 : n ≤ 4 := by omega
 have hn0 : 0 < n := by omega
 clear hw3 hn
 obtain ⟨i0, hi, hz0, hz1, hz2⟩ := info_parts info_pu8
 have HI := Yh_ (And.intro hi (And.intro hz0 (And.intro hz1 hz2)))
 clear hi hz0 hz1 hz2
 have hfinP : ∀ (j : Nat) (w' : World), j < n → (∀ t, t < j → M.can (Yf x t) 2 = true) → M.can (Yf x j) 2 = false → Upd [pb] w w' → Yd w' a pb M →
   (fun e w' => e = Ending.returned (.tuple #[M.writeF x bytes, .bool (M.writeK x bytes)]) ∧ Yd w' a pb (M.writeM x bytes v) ∧ Upd [pb] w w') (.returned (.tuple #[Yae (Yf x j) 2, .bool false])) w' := by
  intro j w' hj hc hb hU hm
  have hbad := Yf3 M x 2 n j hj hc hb
  simp only [Mem.writeF, Mem.writeK, Mem.writeM, HN.out, Int.toNat_natCast, hbad]
  exact ⟨rfl, hm, hU⟩
 have HFP := Yh_ hfinP
 clear hfinP
 have hfinK : ∀ (w' : World), (∀ t, t < n → M.can (Yf x t) 2 = true) → Upd [pb] w w' → Yd w' a pb (M.putN x v n) →
   (fun e w' => e = Ending.returned (.tuple #[M.writeF x bytes, .bool (M.writeK x bytes)]) ∧ Yd w' a pb (M.writeM x bytes v) ∧ Upd [pb] w w') (.returned (.tuple #[.agg #[.int .i64 0, .int .u32 0, .int .u32 0, .int .i64 0], .bool true])) w' := by
  intro w' hc hU hm
  have hbad := Yf4 M x 2 n hc
  simp only [Mem.writeF, Mem.writeK, Mem.writeM, HN.out, Int.toNat_natCast, hbad]
  exact ⟨rfl, hm, hU⟩
 have HFK := Yh_ hfinK
 clear hfinK
 have hstart : Yea M a pb w ((w.alloc (Obj.cells #[Value.int IntKind.i64 0, Value.int IntKind.u32 0, Value.int IntKind.u32 0, Value.int IntKind.i64 0] 112)).alloc (Obj.cells #[Value.bool false] 4)) := by
  refine ⟨heap_alloc2_old _ _ _, heap_alloc2_new _ _ _, ?_, ?_, hal, hpl⟩
  ·exact hM.keep (S := []) (((Upd.refl _ _).alloc _).alloc _) (by simp) (by simp)
  ·exact ((Upd.refl _ _).alloc _).alloc _
 have HS := Yh_ hstart
 clear hstart hM
 go_enter_defers Try.func49, Try.ntmps49
 go_wp2_with (go_at_call 67; refine (Yck bytes _).mono ?_; rintro e w' ⟨rfl, rfl⟩; rw [HN.out])
 go_loopw [10, 11, 16] (fun s _ i wr => ∃ j : Nat, j ≤ n ∧ i = .int .i64 j ∧ (∀ t, t < j → M.can (Yf x t) 2 = true) ∧ Yea M a pb w wr ∧ wr.ownsRow (w.heap.size + 2) 133 1 s j (ptrs pb x j) ∧ w.heap.size + 2 ≤ wr.heap.size) (fun _ _ i _ => n - (intOf i).toNat)
 case atStart => exact ⟨0, Nat.zero_le _, rfl, by simp, HS.out, World.ownsRow_nil _ _ _ _, by simp⟩
 case round =>
  obtain ⟨j, hj, rfl, hcan, hB, hown, hsz⟩ := hrel
  have HC := Yh_ hcan
  have HB := Yh_ hB
  have HO := Yh_ hown
  clear hcan hB hown
  by_cases hlt : j < n
  ·cases hb : M.can (Yf x j) 2
   ·have HBad := Yh_ hb
    clear hb
    go_wp2_with (go_at_call 68; refine (Yee a pb (Yf x j) _ _ M HB.out.m (Yp x j) HBad.out).mono ?_; rintro e w2 ⟨rfl, rfl⟩)
    exact Yd1 M a pb w wr _ _ _ _ rfl rfl HB.out (fun w' hU hm => HFP.out j w' hlt HC.out HBad.out hU hm)
   ·have HGood := Yh_ hb
    clear hb
    go_wp2_with (first | (go_at_call 68; refine (at_ok a pb (Yf x j) _ _ M HB.out.m (Yp x j) HGood.out).mono ?_; rintro e w2 ⟨rfl, rfl⟩) | (at_builtin; refine wpList_append_own _ rfl _ _ 132 rfl (w.heap.size + 2) 133 i0 (.pointer none) 1 8 Try.underlying132 HI.out.1 HI.out.2.1 HI.out.2.2.1 HI.out.2.2.2 rfl (by decide) _ _ _ rfl (HO.out.alloc _) ⟨wr.heap.size, 0, none⟩ 1 1 [.pointer (some ⟨pb, Ya5 (Yf x j), none⟩)] rfl rfl ?_ ?_ ?_ ?_ ?_ ?_))
    ·intro t u hu
     rcases t with _ | t
     ·simp only [List.getElem?_cons_zero, Option.some.injEq] at hu
      subst hu
      rw [Addr.add_mid, Ya (heap_alloc_new _ _)]
      rfl
     ·simp at hu
    ·intro u hu
     simp only [List.mem_singleton] at hu
     subst hu; rfl
    ·unfold maxLen; omega
    ·omega
    ·simp; omega
    ·intro v' w1 hown' hgrow _
     have hU1 := Upd.of_grown hgrow
     have hB' : Yea M a pb w w1 := by
      have hlt' := HO.out.lt
      have hU2 : Upd u10.ownBlock.toList wr w1 := ((Upd.refl [] wr).alloc _).trans hU1 (by simp) (fun z hz => .inl hz)
      have hne : ∀ z, z ∈ u10.ownBlock.toList → w.heap.size + 2 ≤ z := fun z hz => (hlt' z (by simpa using hz)).1
      have hal := HB.out.al
      have hpl := HB.out.pl
      exact ⟨hU2.get HB.out.f (fun h => by have := hne _ h; omega), hU2.get HB.out.k (fun h => by have := hne _ h; omega), HB.out.m.keep hU2 (fun h => by have := hne _ h; omega) (fun h => by have := hne _ h; omega), HB.out.u.also hU2 (fun z hz => .inr (by have := hne z hz; omega)), hal, hpl⟩
     have hsz' := hgrow.size
     have HB' := Yh_ hB'
     have HO' := Yh_ hown'
     have HS' := Yh_ hsz'
     clear hB' hown' hgrow hU1 hsz'
     go_wp2_with fail
     go_roundw
     case rel => exact ⟨j + 1, by omega, by go_num, fun t ht => by
       by_cases e : t = j
       ·subst e; exact HGood.out
       ·exact HC.out t (by omega), HB'.out, by rw [Yhi]; exact HO'.out, by have := HS'.out; simp at this; omega⟩
     case measure => simp [intOf]; omega
  ·have e : j = n := by omega
   obtain ⟨hl, ⟨_, h⟩ | ⟨g, cap, cur, rfl, hg, hh, hc1, hc2, hc3, hc4⟩⟩ := HO.out
   ·omega
   ·subst e
    have hcell : ∀ t, t < j → cur[t]? = some (.pointer (some ⟨pb, Ya5 (Yf x t), none⟩)) := fun t ht => by
     have := ptrs_get pb x j t ht
     rw [← hc4, List.getElem?_take, if_pos (by omega), Array.getElem?_toList] at this
     exact this
    have HCell := Yh_ hcell
    have hstart2 : Ydg (M.putN x v 0) a pb w g cur wr := ⟨HB.out.f, HB.out.k, HB.out.m, HB.out.u, hh⟩
    have HS2 := Yh_ hstart2
    clear hh hcell hl hstart2 hc3 hc4 HO hsz
    go_wp2_with fail
    go_loopw [12, 13, 31] (fun _ _ i wr => ∃ t : Nat, t ≤ j ∧ i = .int .i64 t ∧ Ydg (M.putN x v t) a pb w g cur wr) (fun _ _ i _ => j - (intOf i).toNat)
    case atStart => exact ⟨0, Nat.zero_le _, rfl, HS2.out⟩
    case round =>
     obtain ⟨t, ht, rfl, hB2⟩ := hrel
     have HB2 := Yh_ hB2
     clear hB2
     by_cases hlt2 : t < j
     ·have cg : wr.cell? ⟨g, t, none⟩ = some (.pointer (some ⟨pb, Ya5 (Yf x t), none⟩)) := by rw [Ya HB2.out.g]; exact HCell.out t hlt2
      have hx := Yem (Yp x t) (HC.out t hlt2)
      have cb := HB2.out.m.cbyte _ (Yp x t) hx
      have fb : ∀ o, wr.frozen? ⟨pb, o, none⟩ = false := HB2.out.m.free
      go_wp2_with fail
      go_roundw
      case rel => exact ⟨t + 1, by omega, by go_num, HB2.out.store hal hpl (by omega) (Yp x t) hx (by omega) (by omega)⟩
      case measure => simp [intOf]; omega
     ·have e2 : t = j := by omega
      subst e2
      have cf : ∀ o, wr.cell? ⟨w.heap.size, o, none⟩ = #[.int .i64 0, .int .u32 0, .int .u32 0, .int .i64 0][o]? := Ya HB2.out.f
      have ff : ∀ o, wr.frozen? ⟨w.heap.size, o, none⟩ = false := Yg HB2.out.f
      have ck : ∀ o, wr.cell? ⟨w.heap.size + 1, o, none⟩ = #[.bool false][o]? := Ya HB2.out.k
      have fk : ∀ o, wr.frozen? ⟨w.heap.size + 1, o, none⟩ = false := Yg HB2.out.k
      go_wp2_with fail
      refine Ye3 w _ _ _ rfl rfl ?_ ?_ (HFK.out _ HC.out ?_ ?_)
      ·refine Yc _ (by simp) ?_
       have h := Ye (Ye (Ye (Ye HB2.out.f 0 (.int .i64 0)) 1 (.int .u32 0)) 2 (.int .u32 0)) 3 (.int .i64 0)
       exact h
      ·exact Ye (Yc _ (by simp) (Yc _ (by simp) (Yc _ (by simp) (Yc _ (by simp) HB2.out.k)))) 0 _
      ·exact ((((HB2.out.u.setCell (by simp) _).setCell (by simp) _).setCell (by simp) _).setCell (by simp) _).setCell (by simp) _
      ·exact HB2.out.m.keep (S := [w.heap.size, w.heap.size + 1]) (((((Upd.refl _ _).setCell (by simp) _).setCell (by simp) _).setCell (by simp) _).setCell (by simp) _ |>.setCell (by simp) _) (by simp <;> omega) (by simp <;> omega)
theorem Ygx : (Try.prog.info? 112).map (·.size) = some 4 := by kernel_rfl
structure Flt where
 k : Int
 pc : Int
 a : Int
 wt : Int
 deriving DecidableEq
def Flt.cells (f : Flt) : Array Value := #[.int .i64 f.k, .int .u32 f.pc, .int .u32 f.a, .int .i64 f.wt]
def Flt.val (f : Flt) : Value := .agg #[.int .i64 f.k, .int .u32 f.pc, .int .u32 f.a, .int .i64 f.wt]
def Flt.zero : Flt := ⟨0, 0, 0, 0⟩
def Mem.rdF (M : Mem) (x bytes right : Int) : Flt := match M.bad x (Yu right) (Yt bytes).toNat with | none => Flt.zero | some i => ⟨1, 0, Yf x i, Yu right⟩
def Mem.wrF (M : Mem) (x bytes : Int) : Flt := match M.bad x 2 (Yt bytes).toNat with | none => Flt.zero | some i => ⟨1, 0, Yf x i, 2⟩
theorem Mem.readF_val (M : Mem) (x bytes right : Int) : M.readF x bytes right = (M.rdF x bytes right).val := by
 unfold Mem.readF Mem.rdF; cases M.bad x (Yu right) (Yt bytes).toNat <;> rfl
theorem Mem.writeF_val (M : Mem) (x bytes : Int) : M.writeF x bytes = (M.wrF x bytes).val := by
 unfold Mem.writeF Mem.wrF; cases M.bad x 2 (Yt bytes).toNat <;> rfl
def Mem.rightAt (M : Mem) (x : Int) : Int := if x < 16384 then M.R (x / 256).toNat else 0
theorem Yfe (M : Mem) (r : Nat) (x : Int) (w : World) (hM : Ym w r M) (h0 : 0 ≤ x) :
  Calls Try.prog 54 #[.pointer (some ⟨r, 0, none⟩), .int .u32 x] w fun e w' => e = .returned (.int .i64 (M.rightAt x)) ∧ w = w' := by
 by_cases h : x < 16384
 ·have hc := hM.cR (x / 256).toNat (by omega)
  have HV := Yh_ (show M.rightAt x = M.R (x / 256).toNat by rw [Mem.rightAt, if_pos h])
  have HM := Yh_ hM
  have q1 : 0 ≤ x / 256 := by omega
  have q2 : x / 256 < 64 := by omega
  clear hM
  go_enter Try.func54, Try.ntmps54
  go_wp2_with fail
  go_ret
  exact ⟨by rw [HV.out]; rfl, rfl⟩
 ·have HV := Yh_ (show M.rightAt x = 0 by rw [Mem.rightAt, if_neg h])
  have HM := Yh_ hM
  clear hM
  go_enter Try.func54, Try.ntmps54
  go_wp2_with fail
  go_ret
  exact ⟨by rw [HV.out]; rfl, rfl⟩
end Go.Proofs.Ytdgclmibbmofcaa
