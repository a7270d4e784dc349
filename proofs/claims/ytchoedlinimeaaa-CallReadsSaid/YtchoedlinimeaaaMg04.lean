/-
  Parts of the proof (their names shortened by a program). No condition.
-/
import Derived.Test.YtchoedlinimeaaaMg01
import Derived.Test.YtchoedlinimeaaaMg03
import Derived.Maps.OwnSet
import Derived.Maps.OwnOps
import Derived.Deep.QuietTactic
import Derived.BigQuiet
import Derived.Laws.IdiomStrings
import Derived.Outline
import Derived.Test.YtchoedlinimeaaaMg02
import Derived.ChangeSlices
import Derived.Deep.CutRange
import Derived.Laws.IdiomCopy
import Derived.StillTailTactics
import Derived.Deep.Cut
namespace Go.Proofs.Ytchoedlinimeaaa
open Go Go.RowKit
set_option linter.unusedVariables false
set_option linter.unusedSimpArgs false
set_option maxRecDepth 100000
set_option maxHeartbeats 16000000
section
open Go.Maps
theorem Yx {S : List Nat} {a b : World} (h : Upd S a b) (n : Nat) : Upd S a (b.drewN n) := ⟨h.os, h.tape, h.output, h.size, h.block⟩
structure Ev where
 n : Int
 b : Int
 c : Int
 d : Int
 r : Int
 s : ByteArray
def Ev.cells (e : Ev) : Array Value := #[.int .u32 e.n, .int .u32 e.b, .int .u32 e.c, .int .u32 e.d, .int .u32 e.r, .string e.s]
def Ev.val (e : Ev) : Value := .agg e.cells
def evR (v : Value) : Option (DataW Value × List MemPlace) := some (.held v, [])
structure Yap (w : World) (c b g : Nat) (l : List Int) (inp : ByteArray) (k n : Nat) (D : DataW Value) : Prop where
 hd : ∃ v, w.heap[c]? = some (.cells #[v, .string inp, .map (some b), .int .i64 n] 82 (0, 0)) ∧ Rp w v l g
 mp : w.ownsMap Try.prog 3 evR b k D
 cb : c ≠ b
 cg : c ≠ g ∧ b ≠ g
section
variable {w w' : World} {c b g k n : Nat} {l : List Int} {inp : ByteArray} {D : DataW Value} {S : List Nat}
theorem Yao {H : Type} {P : Program} {kt : TypeId} {R : Value → Option (DataW H × List MemPlace)} {D : DataW H} (h : w.ownsMap P kt R b n D) (u : Upd S w w') (hb : b ∉ S) : w'.ownsMap P kt R b n D := by
 obtain ⟨es, clock, h1, h2⟩ := h
 exact ⟨es, clock, u.get h1 hb, h2⟩
theorem Yap.keep (h : Yap w c b g l inp k n D) (u : Upd S w w') (hc : c ∉ S) (hb : b ∉ S) (hg : g ∉ S) : Yap w' c b g l inp k n D := by
 obtain ⟨v, h1, h2⟩ := h.hd
 exact ⟨⟨v, u.get h1 hc, h2.keep u hg⟩, Yao h.mp u hb, h.cb, h.cg⟩
end
theorem Yai (n : Int) (hn : -2147483648 ≤ n ∧ n < 2147483648) (w : World) : Calls Try.prog 35 #[.int .i64 n] w fun e w' => e = .returned (.int .u32 (n % 4294967296)) ∧ Upd [] w w' := by
 have e1 : IntKind.i32.wrap n = n := by unfold IntKind.wrap; simp [IntKind.signed, IntKind.bits]; omega
 go_enter Try.func35, Try.ntmps35
 go_wp2_with fail
 go_ret
 exact ⟨by rfl, Upd.refl _ _⟩
theorem Ybd (w : World) : Calls Try.prog 30 #[] w fun e w' => e = .returned (.agg #[.int .u32 91, .int .u32 125, .int .u32 192]) ∧ Upd [] w w' := by
 go_enter Try.func30, Try.ntmps30
 go_wp2_with fail
 exact bodyPost_ret (Yfh rfl (Yf0 0 56 w.heap.size _ _ rfl (heap_alloc_new w _) Try.underlying56 rfl (by kernel_rfl))) rfl ⟨rfl, (Upd.refl [] w).alloc _⟩
theorem Yfk (l : List Int) (kb c : Nat) (C : Array Value) (x : Int) (w : World) (hb : w.heap[kb]? = some (.cells C 31 (0, 0)) ∨ w.heap[kb]? = some (.cells C 56 (0, 0))) (hC : ∀ i, i < l.length → C[i]? = some (.int .u32 (l.getD i 0))) (hl : l.length < 1000) :
  Calls Try.prog 57 #[.slice (some ⟨kb, 0, none⟩) l.length c, .int .u32 x] w fun e w' => ∃ k : Int, e = .returned (.int .i64 k) ∧ decide (0 ≤ k) = l.contains x ∧ Upd [] w w' := by
 have HC : ∀ i, i < l.length → w.cell? ⟨kb, i, none⟩ = some (.int .u32 (l.getD i 0)) := fun i hi => by
  rcases hb with hb | hb
  ·rw [Ya hb]; exact hC i hi
  ·rw [Ya hb]; exact hC i hi
 obtain ⟨n, hn⟩ : ∃ n, l.length = n := ⟨_, rfl⟩
 rw [hn] at hl HC ⊢
 have HX := Yh_ (And.intro HC hn)
 clear HC hC hb hn
 go_enter Try.func57, Try.ntmps57
 go_wp2_with fail
 go_loopw [5, 8] (fun _ i wr => ∃ k : Nat, k ≤ n ∧ i = .int .i64 k ∧ (Hid (∀ j, j < k → l.getD j 0 ≠ x)) ∧ wr = w) (fun _ i _ => n - (intOf i).toNat)
 case atStart => exact ⟨0, Nat.zero_le _, rfl, Yh_ (fun j hj => by omega), rfl⟩
 case round =>
  obtain ⟨k, hk, rfl, hno, rfl⟩ := hrel
  by_cases hlt : k < n
  ·have hc := HX.out.1 k hlt
   by_cases he : l.getD k 0 = x
   ·rw [he] at hc
    go_wp2_with fail
    go_ret
    refine ⟨k, rfl, ?_, Upd.refl _ _⟩
    rw [decide_eq_true (by omega)]
    symm
    rw [List.contains_iff_mem]
    rw [← he, List.getD_eq_getElem?_getD, List.getElem?_eq_getElem (by rw [HX.out.2]; exact hlt)]
    exact List.getElem_mem _
   ·obtain ⟨y, hy⟩ : ∃ y, l.getD k 0 = y := ⟨_, rfl⟩
    rw [hy] at hc he
    have q1 : (x == y) = false := by simp; exact fun e => he e.symm
    have HY := Yh_ (And.intro hy he)
    clear hy he
    go_wp2_with fail
    go_roundw
    case rel =>
     refine ⟨k + 1, by omega, by go_num, Yh_ fun j hj => ?_, trivial⟩
     by_cases e : j = k
     ·subst e; rw [HY.out.1]; exact HY.out.2
     ·exact hno.out j (by omega)
    case measure => simp [intOf]; omega
  ·have hkn : k = n := by omega
   subst hkn
   go_wp2_with fail
   go_ret
   refine ⟨-1, rfl, ?_, Upd.refl _ _⟩
   rw [decide_eq_false (by omega)]
   symm
   rw [← Bool.not_eq_true, List.contains_iff_mem]
   intro hm
   obtain ⟨j, hj, e⟩ := List.getElem_of_mem hm
   exact hno.out j (by rw [← HX.out.2]; exact hj) (by rw [List.getD_eq_getElem?_getD, List.getElem?_eq_getElem hj]; exact e)
theorem Ybm (l : List Int) (kb c : Nat) (C : Array Value) (x : Int) (w : World) (hb : w.heap[kb]? = some (.cells C 31 (0, 0)) ∨ w.heap[kb]? = some (.cells C 56 (0, 0))) (hC : ∀ i, i < l.length → C[i]? = some (.int .u32 (l.getD i 0))) (hl : l.length < 1000) :
  Calls Try.prog 33 #[.slice (some ⟨kb, 0, none⟩) l.length c, .int .u32 x] w fun e w' => e = .returned (.bool (l.contains x)) ∧ Upd [] w w' := by
 obtain ⟨bb, hbb⟩ : ∃ bb, l.contains x = bb := ⟨_, rfl⟩
 rw [hbb]
 have HB := Yh_ hbb
 clear hbb
 go_enter Try.func33, Try.ntmps33
 go_wp2_with (go_at_call 57; refine (Yfk l kb c C x _ hb hC hl).mono ?_; rintro e w1 ⟨k, rfl, hk, hu⟩; rw [HB.out] at hk)
 go_ret
 exact ⟨rfl, hu⟩
theorem Yed (e : Ev) (hd : 0 ≤ e.d ∧ e.d < 4294967296) (w : World) : Calls Try.prog 53 #[e.val] w fun x w' => x = .returned (.int .i64 (min e.d 64)) ∧ Upd [] w w' := by
 obtain ⟨n, b, c, d, r, s⟩ := e
 have hd : 0 ≤ d ∧ d < 4294967296 := hd
 show Calls Try.prog 53 #[.agg #[.int .u32 n, .int .u32 b, .int .u32 c, .int .u32 d, .int .u32 r, .string s]] w fun x w' => x = .returned (.int .i64 (min d 64)) ∧ Upd [] w w'
 obtain ⟨m, hm⟩ : ∃ m, min d 64 = m := ⟨_, rfl⟩
 have h64 : (if (64 : Int) < d then 64 else d) = m := by rw [← hm]; omega
 rw [hm]
 by_cases h : 64 < d
 ·rw [if_pos h] at h64
  subst h64
  clear hm
  go_enter Try.func53, Try.ntmps53
  go_wp2_with fail
  go_ret
  exact ⟨rfl, (Upd.refl [] w).alloc _⟩
 ·rw [if_neg h] at h64
  subst h64
  clear hm
  go_enter Try.func53, Try.ntmps53
  go_wp2_with fail
  go_ret
  exact ⟨rfl, (Upd.refl [] w).alloc _⟩
theorem Left_any (c b g k n : Nat) (l : List Int) (inp : ByteArray) (D : DataW Value) (w : World) (h : Yap w c b g l inp k n D) :
  Calls Try.prog 14 #[.pointer (some ⟨c, 0, none⟩)] w fun e w' => e = .returned (.tuple #[.int .i64 l.length, .int .i64 inp.size]) ∧ Upd [] w w' := by
 obtain ⟨v, h1, h2⟩ := h.hd
 obtain ⟨a, cp, rfl⟩ := h2.form
 have hc := Ya h1
 clear h h1 h2
 go_enter Try.func14, Try.ntmps14
 go_wp2_with fail
 go_quiet (fail)
 go_wp2_with fail
 go_ret2
 exact ⟨rfl, Yx (Upd.refl [] w) _⟩
end
structure Ybw where
 pg : Int
 ct : Int
 rt : Int
 by_ : ByteArray
 deriving Inhabited
def Ybw.ok (s : Ybw) : Prop := -9223372036854775808 ≤ s.ct ∧ s.ct ≤ 9223372036854775807
def Yc7 (w : World) (v : Value) (l : List Ybw) (g : Nat) : Prop :=
 (∃ a c, v = .slice a 0 c ∧ l = []) ∨
 ∃ o c, v = .slice (some ⟨g, o, none⟩) l.length c ∧ g < w.heap.size ∧ l.length ≤ 9223372036854775807 ∧ ∀ i s, l[i]? = some s → w.cell? ⟨g, o + i * 4, none⟩ = some (.int .i64 s.pg) ∧ w.cell? ⟨g, o + i * 4 + 1, none⟩ = some (.int .i64 s.ct) ∧ w.cell? ⟨g, o + i * 4 + 2, none⟩ = some (.int .i64 s.rt) ∧ w.cell? ⟨g, o + i * 4 + 3, none⟩ = some (.string s.by_)
theorem Yc7.keep {w w' : World} {v : Value} {l : List Ybw} {g : Nat} {S : List Nat} (h : Yc7 w v l g) (u : Upd S w w') (hg : g ∉ S) : Yc7 w' v l g := by
 rcases h with h | ⟨o, c, h1, h2, h4, h3⟩
 ·exact .inl h
 ·refine .inr ⟨o, c, h1, Nat.lt_of_lt_of_le h2 u.size, h4, fun i s hs => ?_⟩
  have e : ∀ k, w'.cell? ⟨g, k, none⟩ = w.cell? ⟨g, k, none⟩ := fun k => by
   simp only [World.cell?]; rw [u.block g h2 hg]
  rw [e, e, e, e]
  exact h3 i s hs
def Yh (s : ByteArray) : List Int := s.data.toList.map fun b => (b.toNat : Int)
theorem Yec (s : ByteArray) (i : Nat) : 0 ≤ (Yh s).getD i 0 ∧ (Yh s).getD i 0 ≤ 255 := by
 rw [List.getD_eq_getElem?_getD, Yh, List.getElem?_map]
 cases s.data.toList[i]? with
 |none => simp
 |some b =>
  have h := b.toNat_lt
  simp only [Option.map_some, Option.getD_some]
  exact ⟨by omega, by omega⟩
section
open Go.WideShapes Go.ChangeShapes
structure Ybw.Ok (s : Ybw) : Prop where
 pg : -9223372036854775808 ≤ s.pg ∧ s.pg ≤ 9223372036854775807
 ct : -9223372036854775808 ≤ s.ct ∧ s.ct ≤ 9223372036854775807
 rt : -9223372036854775808 ≤ s.rt ∧ s.rt ≤ 9223372036854775807
 by_ : s.by_.size ≤ maxLen
theorem wf_i64 {z : Int} (h : (Lit.int .i64 z).wf = true) : -9223372036854775808 ≤ z ∧ z ≤ 9223372036854775807 := by
 simp only [Lit.wf, Bool.and_eq_true, decide_eq_true_eq] at h
 have h1 : IntKind.i64.min = -9223372036854775808 := by decide
 have h2 : IntKind.i64.max = 9223372036854775807 := by decide
 omega
structure SArg (w : World) (v : Value) (L : List Ybw) (g : Nat) : Prop where
 sp : Yc7 w v L g
 ok : ∀ s ∈ L, s.Ok
 len : L.length ≤ maxLen
 lt : g ≤ w.heap.size
 form : ∀ b n c, v = .slice b n c → n = L.length
theorem SArg.keep {w w' : World} {v : Value} {L : List Ybw} {g : Nat} (h : SArg w v L g) (u : Upd [] w w') : SArg w' v L g :=
 ⟨h.sp.keep u (by simp), h.ok, h.len, Nat.le_trans h.lt u.size, h.form⟩
end
theorem wr_zero (M : Mem) (p k : Nat) (h : p + k ≤ 64) : wr M.cells (p * 257) (Builtin.zeroCells Yn k).toList = (M.mapN p k 0).cells := by
 have hl : (Builtin.zeroCells Yn k).toList.length = k * 257 := by simp [Builtin.zeroCells, Yv]
 apply Array.ext_getElem?
 intro i
 rw [Yc1 _ _ _ _ (by rw [hl, M.size_cells]; omega), hl]
 by_cases hk : i < 16448
 ·rw [Mem.getElem?_cells _ _ hk, Mem.getElem?_cells _ _ hk]
  by_cases e : p * 257 ≤ i ∧ i < p * 257 + k * 257
  ·rw [if_pos e]
   have h1 : i - p * 257 < k * 257 := by omega
   rw [Array.getElem?_toList, Builtin.zeroCells, Array.getElem?_map, Array.getElem?_range, Yv, if_pos h1]
   simp only [Option.map_some, Option.some.injEq]
   have hz := Yb5 (i - p * 257)
   rw [Yv] at hz
   rw [hz]
   have hm : (i - p * 257) % 257 = i % 257 := by omega
   have hp : p ≤ i / 257 ∧ i / 257 < p + k := by omega
   simp only [Mem.at_, hm, Mem.zero, Mem.mapN]
   by_cases e2 : i % 257 = 0
   ·simp [e2, hp]
   ·have hq := Nat.mod_lt i (show 257 > 0 by decide)
    have : (i / 257 * 256 + (i % 257 - 1)) / 256 = i / 257 := by omega
    simp [e2, this, hp]
  ·rw [if_neg e]
   have hp : ¬ (p ≤ i / 257 ∧ i / 257 < p + k) := by omega
   simp only [Mem.at_, Mem.mapN]
   by_cases e2 : i % 257 = 0
   ·simp [e2, hp]
   ·have hq := Nat.mod_lt i (show 257 > 0 by decide)
    have : (i / 257 * 256 + (i % 257 - 1)) / 256 = i / 257 := by omega
    simp [e2, this, hp]
 ·rw [if_neg (by omega), Array.getElem?_eq_none (by rw [Mem.size_cells]; omega), Array.getElem?_eq_none (by rw [Mem.size_cells]; omega)]
theorem zero_one (k : Nat) : (Builtin.zeroCells Yn k).all (·.oneCell') = true := by
 rw [Array.all_eq_true_iff_forall_mem]
 intro v hv
 simp only [Builtin.zeroCells, Array.mem_map] at hv
 obtain ⟨j, _, rfl⟩ := hv
 rw [Yb5]
 exact Mem.at_one _ _
theorem Ydt (M : Mem) (a pb p k c : Nat) (w : World) (hM : Yd w a pb M) (hk : 0 < k) (h : p + k ≤ 64) (ty : TypeId) (cs : Array Bool) :
  (builtin .clear #[76] ty cs #[.slice (some ⟨pb, p * 257, none⟩) k c]).run Try.prog w = .ok (.value (.tuple #[])) (w.setCells pb (p * 257) (Builtin.zeroCells Yn k).toList) := by
 rw [BigFrame.builtin_clear]
 have hz : (zeroValue 89).run Try.prog w = .ok (.agg Yn) w := by
  simp [zeroValue, Ybt]
 have hl : (Builtin.zeroCells Yn k).size = k * 257 := by simp [Builtin.zeroCells, Yv]
 have ht := hM.there (p * 257) (k * 257) (by omega)
 have hs := run_storeCells_cells (P := Try.prog) pb (p * 257) (Builtin.zeroCells Yn k).toList 0 w (fun j hj => by simpa using (ht j (by simpa [hl] using hj)).1) (fun j hj => by simpa using (ht j (by simpa [hl] using hj)).2)
  (fun v hv => (Array.all_eq_true_iff_forall_mem.1 (zero_one k)) v (by simpa using hv))
 obtain ⟨j, rfl⟩ : ∃ j, k = j + 1 := ⟨k - 1, by omega⟩
 unfold Builtin.clear_
 simp only [Nat.add_zero] at hs
 simp [Sem.run_bind, hz, Value.cells, hs]
theorem Unmap_no (M : Mem) (a pb : Nat) (at_ n : Int) (w : World) (hM : Yd w a pb M) (hn : -9223372036854775808 ≤ n) (h : M.unmapB at_ n = false) :
  Calls Try.prog 58 #[.pointer (some ⟨a, 0, none⟩), .int .i64 at_, .int .i64 n] w fun e w' => e = .returned (.int .i64 61) ∧ Upd [] w w' := by
 have HA := Yh_ h
 clear h
 go_enter Try.func58, Try.ntmps58
 go_wp2_with (first | (go_at_call 28; refine (Yb0 M a pb at_ n true _ hM hn).mono ?_; rintro e w' ⟨rfl, hU⟩; rw [show M.all at_ n true = false from HA.out]))
 go_ret
 exact ⟨rfl, hU⟩
theorem Ygl (M : Mem) (a pb : Nat) (at_ n : Int) (w : World) (hM : Yd w a pb M) (hn : -9223372036854775808 ≤ n) (h : M.unmapB at_ n = true) :
  Calls Try.prog 58 #[.pointer (some ⟨a, 0, none⟩), .int .i64 at_, .int .i64 n] w fun e w' => e = .returned (.int .i64 0) ∧ Yd w' a pb (M.mapN at_.toNat n.toNat 0) ∧ Upd [pb] w w' := by
 have ha : M.all at_ n true = true := h
 have hrow : rowB at_ n = true := by
  simp only [Mem.all, Bool.and_eq_true] at ha; exact ha.1
 obtain ⟨g1, g2, g3, g4⟩ := (Ybl at_ n).1 hrow
 have HA := Yh_ ha
 have HW := Yh_ hrow
 clear h ha hrow
 obtain ⟨p, rfl⟩ := Int.eq_ofNat_of_zero_le g1
 obtain ⟨k, rfl⟩ := Int.eq_ofNat_of_zero_le (show 0 ≤ n by omega)
 rw [Int.toNat_natCast, Int.toNat_natCast]
 go_enter Try.func58, Try.ntmps58
 go_wp2_with (first | (go_at_call 28; refine (Yb0 M a pb p k true _ hM hn).mono ?_; rintro e w1 ⟨rfl, hU⟩; rw [HA.out]; have hM1 := hM.keep hU (by simp) (by simp); have HU := Yh_ hU; have HM1 := Yh_ hM1; clear hU hM1) | (go_at_call 29; refine (Yc9 a pb p k _ M HM1.out HW.out).mono ?_; rintro e w2 ⟨cc, rfl, rfl⟩; rw [Int.toNat_natCast, Int.toNat_natCast]) | (refine Yd7 rfl .clear _ #[76] rfl (.slice (some ⟨pb, p * 257, none⟩) k cc) rfl (.tuple #[]) _ (Ydt M a pb p k cc _ HM1.out (by omega) (by omega) _) ?_))
 go_ret
 exact ⟨rfl, HM1.out.wr _ _ (by simp [Builtin.zeroCells, Yv]; omega) (wr_zero _ _ _ (by omega)) (HM1.out.ok.mapN_ok' _ _), (HU.out.mono (T := [pb]) (by simp)).setCells (by simp) _ _⟩
theorem Yf9 (M : Mem) (a pb : Nat) (at_ n r : Int) (w : World) (hM : Yd w a pb M) (hn : -9223372036854775808 ≤ n) (h : M.protB at_ n r = false) :
  Calls Try.prog 59 #[.pointer (some ⟨a, 0, none⟩), .int .i64 at_, .int .i64 n, .int .i64 r] w fun e w' => e = .returned (.int .i64 61) ∧ Upd [] w w' := by
 cases hr : Ybf r
 ·have HR := Yh_ hr
  clear hr h
  go_enter Try.func59, Try.ntmps59
  go_wp2_with (first | (go_at_call 27; refine (Yav r _).mono ?_; rintro e w' ⟨rfl, rfl⟩; rw [HR.out]))
  go_ret
  exact ⟨rfl, Upd.refl _ _⟩
 ·have ha : M.all at_ n true = false := by simpa [Mem.protB, hr] using h
  have HR := Yh_ hr
  have HA := Yh_ ha
  clear hr h ha
  go_enter Try.func59, Try.ntmps59
  go_wp2_with (first | (go_at_call 27; refine (Yav r _).mono ?_; rintro e w' ⟨rfl, rfl⟩; rw [HR.out]) | (go_at_call 28; refine (Yb0 M a pb at_ n true _ hM hn).mono ?_; rintro e w' ⟨rfl, hU⟩; rw [HA.out]))
  go_ret
  exact ⟨rfl, hU⟩
theorem Yfq (M : Mem) (a pb : Nat) (at_ n r : Int) (w : World) (hM : Yd w a pb M) (hn : -9223372036854775808 ≤ n) (h : M.protB at_ n r = true) :
  Calls Try.prog 59 #[.pointer (some ⟨a, 0, none⟩), .int .i64 at_, .int .i64 n, .int .i64 r] w fun e w' => e = .returned (.int .i64 0) ∧ Yd w' a pb (M.protN at_.toNat n.toNat r) ∧ Upd [pb] w w' := by
 simp only [Mem.protB, Bool.and_eq_true] at h
 obtain ⟨hr, ha⟩ := h
 have hrow : rowB at_ n = true := by
  simp only [Mem.all, Bool.and_eq_true] at ha; exact ha.1
 obtain ⟨g1, g2, g3, g4⟩ := (Ybl at_ n).1 hrow
 have HR := Yh_ hr
 have HA := Yh_ ha
 have HW := Yh_ hrow
 clear hr ha hrow
 obtain ⟨p, rfl⟩ := Int.eq_ofNat_of_zero_le g1
 obtain ⟨k, rfl⟩ := Int.eq_ofNat_of_zero_le (show 0 ≤ n by omega)
 rw [Int.toNat_natCast, Int.toNat_natCast]
 go_enter Try.func59, Try.ntmps59
 go_wp2_with (first | (go_at_call 27; refine (Yav r _).mono ?_; rintro e w' ⟨rfl, rfl⟩; rw [HR.out]) | (go_at_call 28; refine (Yb0 M a pb p k true _ hM hn).mono ?_; rintro e w1 ⟨rfl, hU⟩; rw [HA.out]; have hM1 := hM.keep hU (by simp) (by simp); have HU := Yh_ hU; have HM1 := Yh_ hM1; clear hU hM1) | (go_at_call 29; refine (Yc9 a pb p k _ M HM1.out HW.out).mono ?_; rintro e w2 ⟨cc, rfl, rfl⟩; rw [Int.toNat_natCast, Int.toNat_natCast]))
 go_loopw [11, 31] (fun _ i wr => ∃ j : Nat, j ≤ k ∧ i = .int .i64 j ∧ Yd wr a pb (M.protN p j r) ∧ Upd [pb] w wr) (fun _ i _ => k - (intOf i).toNat)
 case atStart => exact ⟨0, Nat.zero_le _, rfl, by rw [Mem.protN_zero]; exact HM1.out, HU.out.mono (by simp)⟩
 case round =>
  obtain ⟨j, hj, rfl, hMj, hUj⟩ := hrel
  have hc : p + j < 64 → wr.cell? ⟨pb, p * 257 + j * 257, none⟩ = some (.int .i64 ((M.protN p j r).R (p + j))) := fun h => by
   rw [← hMj.cR _ h, Nat.add_mul]
  have hf : wr.frozen? ⟨pb, p * 257 + j * 257, none⟩ = false := hMj.free _
  have HMj := Yh_ hMj
  have HUj := Yh_ hUj
  clear hMj hUj
  by_cases hlt : j < k
  ·have hc := hc (by omega)
   go_wp2
   go_roundw
   case rel =>
    refine ⟨j + 1, by omega, by go_num, ?_, HUj.out.setCell (by simp) _⟩
    have h := HMj.out.set ((p + j) * 257) (.int .i64 r) (by omega) (Mem.cells_setR _ _ _ (by omega)) (by rw [Mem.protN_succ]; exact Mem.protN_ok HM1.out.ok _ _ (by have := (Ycb r).1 HR.out; omega) ((Ycb r).1 HR.out).2)
    rw [Mem.protN_succ, Nat.add_mul] at h
    exact h
   case measure => simp [intOf]; omega
  ·clear hc
   go_wp2
   go_ret
   have e : j = k := by omega
   subst e
   exact ⟨rfl, HMj.out, HUj.out⟩
theorem Upd.drewN {S : List Nat} {a b : World} (h : Upd S a b) (n : Nat) : Upd S a (b.drewN n) := ⟨h.os, h.tape, h.output, h.size, h.block⟩
def Mem.rat (M : Mem) (k : Nat) : Value := if k < 64 then .int .i64 (M.R k) else .int .u8 (M.B (k - 64))
structure Ydx (C : Array Value) (M : Mem) : Prop where
 size : C.size = 16448
 get : ∀ k, k < 16448 → C[k]? = some (M.rat k)
structure Yad (w : World) (r : Nat) (M : Mem) : Prop where
 ex : ∃ C, Ydx C M ∧ w.heap[r]? = some (.cells C 55 (0, 0))
 ok : M.Ok
theorem Yad.lt {w : World} {r : Nat} {M : Mem} (h : Yad w r M) : r < w.heap.size := by
 obtain ⟨C, _, h1⟩ := h.ex; exact Yk h1
theorem Yad.keep {w w' : World} {r : Nat} {M : Mem} {S : List Nat} (h : Yad w r M) (u : Upd S w w') (hr : r ∉ S) : Yad w' r M := by
 obtain ⟨C, h1, h2⟩ := h.ex
 exact ⟨⟨C, h1, u.get h2 hr⟩, h.ok⟩
theorem Yad.cR {w : World} {r : Nat} {M : Mem} (h : Yad w r M) (p : Nat) (hp : p < 64) : w.cell? ⟨r, p, none⟩ = some (.int .i64 (M.R p)) := by
 obtain ⟨C, h1, h2⟩ := h.ex
 rw [Ya h2, h1.get p (by omega), Mem.rat, if_pos hp]
theorem Yad.cB {w : World} {r : Nat} {M : Mem} (h : Yad w r M) (a : Nat) (ha : a < 16384) : w.cell? ⟨r, 64 + a, none⟩ = some (.int .u8 (M.B a)) := by
 obtain ⟨C, h1, h2⟩ := h.ex
 rw [Ya h2, h1.get _ (by omega), Mem.rat, if_neg (by omega), Nat.add_sub_cancel_left]
theorem Yad.free {w : World} {r : Nat} {M : Mem} (h : Yad w r M) (o : Nat) : w.frozen? ⟨r, o, none⟩ = false := by
 obtain ⟨C, h1, h2⟩ := h.ex
 exact Yg h2 o
theorem Yad.setR {w : World} {r : Nat} {M : Mem} (h : Yad w r M) (p : Nat) (v : Int) (hp : p < 64) (h0 : 0 ≤ v) (h7 : v ≤ 7) : Yad (w.setCell ⟨r, p, none⟩ (.int .i64 v)) r (M.setR p v) := by
 obtain ⟨C, h1, h2⟩ := h.ex
 refine ⟨⟨_, ⟨by rw [Array.size_setIfInBounds]; exact h1.size, fun k hk => ?_⟩, Ye h2 p _⟩, Mem.setR_ok h.ok p h0 h7⟩
 rw [Array.getElem?_setIfInBounds, h1.get k hk, h1.size]
 by_cases e : p = k
 ·subst e
  rw [if_pos rfl, if_pos (by omega), Mem.rat, if_pos hp]
  simp [Mem.setR]
 ·rw [if_neg e]
  simp only [Mem.rat, Mem.setR]
  by_cases hk2 : k < 64
  ·rw [if_pos hk2, if_pos hk2, if_neg (fun h => e h.symm)]
  ·rw [if_neg hk2, if_neg hk2]
theorem Yad.setB {w : World} {r : Nat} {M : Mem} (h : Yad w r M) (a : Nat) (v : Int) (ha : a < 16384) (h0 : 0 ≤ v) (h7 : v ≤ 255) : Yad (w.setCell ⟨r, 64 + a, none⟩ (.int .u8 v)) r (M.setB a v) := by
 obtain ⟨C, h1, h2⟩ := h.ex
 refine ⟨⟨_, ⟨by rw [Array.size_setIfInBounds]; exact h1.size, fun k hk => ?_⟩, Ye h2 _ _⟩, Mem.setB_ok h.ok a h0 h7⟩
 rw [Array.getElem?_setIfInBounds, h1.get k hk, h1.size]
 by_cases e : 64 + a = k
 ·subst e
  rw [if_pos rfl, if_pos (by omega), Mem.rat, if_neg (by omega), Nat.add_sub_cancel_left]
  simp [Mem.setB]
 ·rw [if_neg e]
  simp only [Mem.rat, Mem.setB]
  by_cases hk2 : k < 64
  ·rw [if_pos hk2, if_pos hk2]
  ·rw [if_neg hk2, if_neg hk2, if_neg (by omega)]
def Mem.mapM (M : Mem) (p n r : Int) : Mem := if M.mapB p n r then M.mapN p.toNat n.toNat r else M
def Mem.unmapM (M : Mem) (p n : Int) : Mem := if M.unmapB p n then M.mapN p.toNat n.toNat 0 else M
def Mem.protM (M : Mem) (p n r : Int) : Mem := if M.protB p n r then M.protN p.toNat n.toNat r else M
structure Yd5 (M : Mem) (a pb : Nat) (w : World) (w1 : World) : Prop where
 f : w1.heap[w.heap.size]? = some (.cells #[.int .i64 0, .int .u32 0, .int .u32 0, .int .i64 0] 119 (0, 0))
 k : w1.heap[w.heap.size + 1]? = some (.cells #[.bool false] 4 (0, 0))
 m : Yd w1 a pb M
 u : Upd [pb] w w1
 al : a < w.heap.size
 pl : pb < w.heap.size
structure Ycq (M : Mem) (a pb : Nat) (w : World) (g : Nat) (cur : Array Value) (w1 : World) : Prop where
 f : w1.heap[w.heap.size]? = some (.cells #[.int .i64 0, .int .u32 0, .int .u32 0, .int .i64 0] 119 (0, 0))
 k : w1.heap[w.heap.size + 1]? = some (.cells #[.bool false] 4 (0, 0))
 m : Yd w1 a pb M
 u : Upd [pb] w w1
 g : w1.heap[g]? = some (.cells cur 138 (0, 0))
theorem Ycq.store {M : Mem} {a pb : Nat} {w w1 : World} {g : Nat} {cur : Array Value} (h : Ycq M a pb w g cur w1) (ha : a < w.heap.size) (hp : pb < w.heap.size) (hg : w.heap.size ≤ g) {y : Int} (h0 : 0 ≤ y) (h1 : y < 16384) {b : Int} (hb0 : 0 ≤ b) (hb1 : b ≤ 255) :
  Ycq (M.setB y.toNat b) a pb w g cur (w1.setCell ⟨pb, Yaz y, none⟩ (.int .u8 b)) :=
 ⟨Yc _ (by simp <;> omega) h.f, Yc _ (by simp <;> omega) h.k, h.m.store h0 h1 hb0 hb1, h.u.setCell (by simp) _, Yc _ (by simp <;> omega) h.g⟩
def Mem.putN (M : Mem) (x v : Int) : Nat → Mem
 |0 => M
 |j + 1 => (M.putN x v j).setB (Yf x j).toNat (v / 2 ^ (8 * j) % 256)
theorem Mem.putN_R (M : Mem) (x v : Int) : ∀ j, (M.putN x v j).R = M.R
 |0 => rfl
 |j + 1 => Mem.putN_R M x v j
def ptrs (pb : Nat) (x : Int) (j : Nat) : List Value := (List.range j).map fun t => .pointer (some ⟨pb, Yaz (Yf x t), none⟩)
theorem Ygr (pb : Nat) (x : Int) (j : Nat) : ptrs pb x (j + 1) = ptrs pb x j ++ [.pointer (some ⟨pb, Yaz (Yf x j), none⟩)] := by
 simp [ptrs, List.range_succ]
theorem ptrs_get (pb : Nat) (x : Int) (n j : Nat) (hj : j < n) : (ptrs pb x n)[j]? = some (.pointer (some ⟨pb, Yaz (Yf x j), none⟩)) := by
 simp [ptrs, hj]
theorem info_pu8 : (Try.prog.info? 138).map (fun i => (i.zero, i.size, i.bytes)) = some (some (.pointer none), 1, 8) := by kernel_rfl
theorem Ycn (tmps : Array Value) (fb kb : Nat) (y0 y1 y2 y3 : Int) (k : Bool) (w : World) (h8 : tmps.getD 8 undef = .pointer (some ⟨fb, 0, none⟩)) (h9 : tmps.getD 9 undef = .pointer (some ⟨kb, 0, none⟩))
  (hf : w.heap[fb]? = some (.cells #[.int .i64 y0, .int .u32 y1, .int .u32 y2, .int .i64 y3] 119 (0, 0))) (hk : w.heap[kb]? = some (.cells #[.bool k] 4 (0, 0))) :
  (results Try.f55 tmps).run Try.prog w = .ok (.tuple #[.agg #[.int .i64 y0, .int .u32 y1, .int .u32 y2, .int .i64 y3], .bool k]) w := by
 have cf : ∀ o, w.cell? ⟨fb, o, none⟩ = #[.int .i64 y0, .int .u32 y1, .int .u32 y2, .int .i64 y3][o]? := Ya hf
 have ck : ∀ o, w.cell? ⟨kb, o, none⟩ = #[.bool k][o]? := Ya hk
 rw [Array.getD_eq_getD_getElem?] at h8 h9
 simp [results, Try.results55, go_sem, h8, h9, cf, ck]
def Ydb (w : World) : List Deferred :=
 [{ target := .fn (.func 70) #[], args := #[.pointer (some ⟨w.heap.size, 0, none⟩), .pointer (some ⟨w.heap.size + 1, 0, none⟩)] }]
theorem Ydm (M : Mem) (a pb : Nat) (w w1 : World) (y r : Int) (tmps : Array Value) (R : Ending → World → Prop) (h8 : tmps.getD 8 undef = .pointer (some ⟨w.heap.size, 0, none⟩)) (h9 : tmps.getD 9 undef = .pointer (some ⟨w.heap.size + 1, 0, none⟩)) (hB : Yd5 M a pb w w1)
  (hR : ∀ w', Upd [pb] w w' → Yd w' a pb M → R (.returned (.tuple #[Yac y r, .bool false])) w') :
  Leaves Try.prog Try.f55 tmps R (Ydb w) (.panicking [{ v := .iface 119 (Yac y r), recovered := false }]) w1 := by
 have hal := hB.al
 have hpl := hB.pl
 refine leaves_cons (f := 70) (args := #[.pointer (some ⟨w.heap.size, 0, none⟩), .pointer (some ⟨w.heap.size + 1, 0, none⟩)]) (by simp) (by simp [go_sem]) ?_
 refine (Yb2 _ _ _ _ _ _ _ _ _ _ _ [] w1 hB.f hB.k (by omega)).mono ?_
 rintro e u' w2 ⟨rfl, rfl, hf, hk, hU⟩
 simp only [settle, List.dropWhile_nil]
 exact ⟨_, Ycn _ _ _ _ _ _ _ _ w2 h8 h9 hf hk, hR _ (hB.u.also hU (by simp <;> omega)) (hB.m.keep hU (by simp <;> omega) (by simp <;> omega))⟩
theorem Yem (w w1 : World) (tmps : Array Value) (R : Ending → World → Prop) (h8 : tmps.getD 8 undef = .pointer (some ⟨w.heap.size, 0, none⟩)) (h9 : tmps.getD 9 undef = .pointer (some ⟨w.heap.size + 1, 0, none⟩))
  (hf : w1.heap[w.heap.size]? = some (.cells #[.int .i64 0, .int .u32 0, .int .u32 0, .int .i64 0] 119 (0, 0)))
  (hk : w1.heap[w.heap.size + 1]? = some (.cells #[.bool true] 4 (0, 0)))
  (hR : R (.returned (.tuple #[.agg #[.int .i64 0, .int .u32 0, .int .u32 0, .int .i64 0], .bool true])) w1) :
  Leaves Try.prog Try.f55 tmps R (Ydb w) .returning w1 := by
 refine leaves_cons (f := 70) (args := #[.pointer (some ⟨w.heap.size, 0, none⟩), .pointer (some ⟨w.heap.size + 1, 0, none⟩)]) (by simp) (by simp [go_sem]) ?_
 refine (Ydd _ _ w1).mono ?_
 rintro e u' w2 ⟨rfl, rfl, rfl⟩
 simp only [settle]
 exact ⟨_, Ycn _ _ _ _ _ _ _ _ w1 h8 h9 hf hk, hR⟩
def Mem.writeF (M : Mem) (x bytes : Int) : Value :=
 match M.bad x 2 (Yp bytes).toNat with | none => .agg #[.int .i64 0, .int .u32 0, .int .u32 0, .int .i64 0] | some i => Yac (Yf x i) 2
def Mem.writeK (M : Mem) (x bytes : Int) : Bool := (M.bad x 2 (Yp bytes).toNat).isNone
def Mem.writeM (M : Mem) (x bytes v : Int) : Mem :=
 match M.bad x 2 (Yp bytes).toNat with | none => M.putN x v (Yp bytes).toNat | some _ => M
theorem Yc2 (M : Mem) (a pb : Nat) (x bytes v : Int) (w : World) (hM : Yd w a pb M) (h0 : 0 ≤ x) (h1 : x < 4294967296) (hv0 : 0 ≤ v) (hv1 : v < 4294967296) :
  Calls Try.prog 55 #[.pointer (some ⟨a, 0, none⟩), .int .u32 x, .int .i64 bytes, .int .u32 v] w fun e w' =>
   e = .returned (.tuple #[M.writeF x bytes, .bool (M.writeK x bytes)]) ∧ Yd w' a pb (M.writeM x bytes v) ∧ Upd [pb] w w' := by
 have hal := hM.al
 have hpl := hM.pl
 have hw3 := Ydf bytes
 obtain ⟨n, hn⟩ : ∃ n : Nat, Yp bytes = n := ⟨(Yp bytes).toNat, by omega⟩
 have HN := Yh_ hn
 have hn4 : n ≤ 4 := by omega
 have hn0 : 0 < n := by omega
 clear hw3 hn
 obtain ⟨i0, hi, hz0, hz1, hz2⟩ := info_parts info_pu8
 have HI := Yh_ (And.intro hi (And.intro hz0 (And.intro hz1 hz2)))
 clear hi hz0 hz1 hz2
 have hfinP : ∀ (j : Nat) (w' : World), j < n → (∀ t, t < j → M.can (Yf x t) 2 = true) → M.can (Yf x j) 2 = false → Upd [pb] w w' → Yd w' a pb M →
   (fun e w' => e = Ending.returned (.tuple #[M.writeF x bytes, .bool (M.writeK x bytes)]) ∧ Yd w' a pb (M.writeM x bytes v) ∧ Upd [pb] w w') (.returned (.tuple #[Yac (Yf x j) 2, .bool false])) w' := by
  intro j w' hj hc hb hU hm
  have hbad := Yfd M x 2 n j hj hc hb
  simp only [Mem.writeF, Mem.writeK, Mem.writeM, HN.out, Int.toNat_natCast, hbad]
  exact ⟨rfl, hm, hU⟩
 have HFP := Yh_ hfinP
 clear hfinP
 have hfinK : ∀ (w' : World), (∀ t, t < n → M.can (Yf x t) 2 = true) → Upd [pb] w w' → Yd w' a pb (M.putN x v n) →
   (fun e w' => e = Ending.returned (.tuple #[M.writeF x bytes, .bool (M.writeK x bytes)]) ∧ Yd w' a pb (M.writeM x bytes v) ∧ Upd [pb] w w') (.returned (.tuple #[.agg #[.int .i64 0, .int .u32 0, .int .u32 0, .int .i64 0], .bool true])) w' := by
  intro w' hc hU hm
  have hbad := Ye9 M x 2 n hc
  simp only [Mem.writeF, Mem.writeK, Mem.writeM, HN.out, Int.toNat_natCast, hbad]
  exact ⟨rfl, hm, hU⟩
 have HFK := Yh_ hfinK
 clear hfinK
 have hstart : Yd5 M a pb w ((w.alloc (Obj.cells #[Value.int IntKind.i64 0, Value.int IntKind.u32 0, Value.int IntKind.u32 0, Value.int IntKind.i64 0] 119)).alloc (Obj.cells #[Value.bool false] 4)) := by
  refine ⟨heap_alloc2_old _ _ _, heap_alloc2_new _ _ _, ?_, ?_, hal, hpl⟩
  ·exact hM.keep (S := []) (((Upd.refl _ _).alloc _).alloc _) (by simp) (by simp)
  ·exact ((Upd.refl _ _).alloc _).alloc _
 have HS := Yh_ hstart
 clear hstart hM
 go_enter_defers Try.func55, Try.ntmps55
 go_wp2_with (go_at_call 71; refine (Yca bytes _).mono ?_; rintro e w' ⟨rfl, rfl⟩; rw [HN.out])
 go_loopw [10, 11, 16] (fun s _ i wr => ∃ j : Nat, j ≤ n ∧ i = .int .i64 j ∧ (∀ t, t < j → M.can (Yf x t) 2 = true) ∧ Yd5 M a pb w wr ∧ wr.ownsRow (w.heap.size + 2) 138 1 s j (ptrs pb x j) ∧ w.heap.size + 2 ≤ wr.heap.size) (fun _ _ i _ => n - (intOf i).toNat)
 case atStart => exact ⟨0, Nat.zero_le _, rfl, by simp, HS.out, World.ownsRow_nil _ _ _ _, by simp⟩
 case round =>
  obtain ⟨j, hj, rfl, hcan, hB, hown, hsz⟩ := hrel
  have HC := Yh_ hcan
  have HB := Yh_ hB
  have HO := Yh_ hown
  clear hcan hB hown
  by_cases hlt : j < n
  ·cases hb : M.can (Yf x j) 2
   ·have HBad := Yh_ hb
    clear hb
    go_wp2_with (go_at_call 72; refine (Yd2 a pb (Yf x j) _ _ M HB.out.m (Yr x j) HBad.out).mono ?_; rintro e w2 ⟨rfl, rfl⟩)
    exact Ydm M a pb w wr _ _ _ _ rfl rfl HB.out (fun w' hU hm => HFP.out j w' hlt HC.out HBad.out hU hm)
   ·have HGood := Yh_ hb
    clear hb
    go_wp2_with (first | (go_at_call 72; refine (at_ok a pb (Yf x j) _ _ M HB.out.m (Yr x j) HGood.out).mono ?_; rintro e w2 ⟨rfl, rfl⟩) | (at_builtin; refine wpList_append_own _ rfl _ _ 137 rfl (w.heap.size + 2) 138 i0 (.pointer none) 1 8 Try.underlying137 HI.out.1 HI.out.2.1 HI.out.2.2.1 HI.out.2.2.2 rfl (by decide) _ _ _ rfl (HO.out.alloc _) ⟨wr.heap.size, 0, none⟩ 1 1 [.pointer (some ⟨pb, Yaz (Yf x j), none⟩)] rfl rfl ?_ ?_ ?_ ?_ ?_ ?_))
    ·intro t u hu
     rcases t with _ | t
     ·simp only [List.getElem?_cons_zero, Option.some.injEq] at hu
      subst hu
      rw [Addr.add_mid, Ya (heap_alloc_new _ _)]
      rfl
     ·simp at hu
    ·intro u hu
     simp only [List.mem_singleton] at hu
     subst hu; rfl
    ·unfold maxLen; omega
    ·omega
    ·simp; omega
    ·intro v' w1 hown' hgrow _
     have hU1 := Upd.of_grown hgrow
     have hB' : Yd5 M a pb w w1 := by
      have hlt' := HO.out.lt
      have hU2 : Upd u10.ownBlock.toList wr w1 := ((Upd.refl [] wr).alloc _).trans hU1 (by simp) (fun z hz => .inl hz)
      have hne : ∀ z, z ∈ u10.ownBlock.toList → w.heap.size + 2 ≤ z := fun z hz => (hlt' z (by simpa using hz)).1
      have hal := HB.out.al
      have hpl := HB.out.pl
      exact ⟨hU2.get HB.out.f (fun h => by have := hne _ h; omega), hU2.get HB.out.k (fun h => by have := hne _ h; omega), HB.out.m.keep hU2 (fun h => by have := hne _ h; omega) (fun h => by have := hne _ h; omega), HB.out.u.also hU2 (fun z hz => .inr (by have := hne z hz; omega)), hal, hpl⟩
     have hsz' := hgrow.size
     have HB' := Yh_ hB'
     have HO' := Yh_ hown'
     have HS' := Yh_ hsz'
     clear hB' hown' hgrow hU1 hsz'
     go_wp2_with fail
     go_roundw
     case rel => exact ⟨j + 1, by omega, by go_num, fun t ht => by
       by_cases e : t = j
       ·subst e; exact HGood.out
       ·exact HC.out t (by omega), HB'.out, by rw [Ygr]; exact HO'.out, by have := HS'.out; simp at this; omega⟩
     case measure => simp [intOf]; omega
  ·have e : j = n := by omega
   obtain ⟨hl, ⟨_, h⟩ | ⟨g, cap, cur, rfl, hg, hh, hc1, hc2, hc3, hc4⟩⟩ := HO.out
   ·omega
   ·subst e
    have hcell : ∀ t, t < j → cur[t]? = some (.pointer (some ⟨pb, Yaz (Yf x t), none⟩)) := fun t ht => by
     have := ptrs_get pb x j t ht
     rw [← hc4, List.getElem?_take, if_pos (by omega), Array.getElem?_toList] at this
     exact this
    have HCell := Yh_ hcell
    have hstart2 : Ycq (M.putN x v 0) a pb w g cur wr := ⟨HB.out.f, HB.out.k, HB.out.m, HB.out.u, hh⟩
    have HS2 := Yh_ hstart2
    clear hh hcell hl hstart2 hc3 hc4 HO hsz
    go_wp2_with fail
    go_loopw [12, 13, 31] (fun _ _ i wr => ∃ t : Nat, t ≤ j ∧ i = .int .i64 t ∧ Ycq (M.putN x v t) a pb w g cur wr) (fun _ _ i _ => j - (intOf i).toNat)
    case atStart => exact ⟨0, Nat.zero_le _, rfl, HS2.out⟩
    case round =>
     obtain ⟨t, ht, rfl, hB2⟩ := hrel
     have HB2 := Yh_ hB2
     clear hB2
     by_cases hlt2 : t < j
     ·have cg : wr.cell? ⟨g, t, none⟩ = some (.pointer (some ⟨pb, Yaz (Yf x t), none⟩)) := by rw [Ya HB2.out.g]; exact HCell.out t hlt2
      have hx := Yef (Yr x t) (HC.out t hlt2)
      have cb := HB2.out.m.cbyte _ (Yr x t) hx
      have fb : ∀ o, wr.frozen? ⟨pb, o, none⟩ = false := HB2.out.m.free
      go_wp2_with fail
      go_roundw
      case rel => exact ⟨t + 1, by omega, by go_num, HB2.out.store hal hpl (by omega) (Yr x t) hx (by omega) (by omega)⟩
      case measure => simp [intOf]; omega
     ·have e2 : t = j := by omega
      subst e2
      have cf : ∀ o, wr.cell? ⟨w.heap.size, o, none⟩ = #[.int .i64 0, .int .u32 0, .int .u32 0, .int .i64 0][o]? := Ya HB2.out.f
      have ff : ∀ o, wr.frozen? ⟨w.heap.size, o, none⟩ = false := Yg HB2.out.f
      have ck : ∀ o, wr.cell? ⟨w.heap.size + 1, o, none⟩ = #[.bool false][o]? := Ya HB2.out.k
      have fk : ∀ o, wr.frozen? ⟨w.heap.size + 1, o, none⟩ = false := Yg HB2.out.k
      go_wp2_with fail
      refine Yem w _ _ _ rfl rfl ?_ ?_ (HFK.out _ HC.out ?_ ?_)
      ·refine Yc _ (by simp) ?_
       have h := Ye (Ye (Ye (Ye HB2.out.f 0 (.int .i64 0)) 1 (.int .u32 0)) 2 (.int .u32 0)) 3 (.int .i64 0)
       exact h
      ·exact Ye (Yc _ (by simp) (Yc _ (by simp) (Yc _ (by simp) (Yc _ (by simp) HB2.out.k)))) 0 _
      ·exact ((((HB2.out.u.setCell (by simp) _).setCell (by simp) _).setCell (by simp) _).setCell (by simp) _).setCell (by simp) _
      ·exact HB2.out.m.keep (S := [w.heap.size, w.heap.size + 1]) (((((Upd.refl _ _).setCell (by simp) _).setCell (by simp) _).setCell (by simp) _).setCell (by simp) _ |>.setCell (by simp) _) (by simp <;> omega) (by simp <;> omega)
theorem Yf2 : (Try.prog.info? 119).map (·.size) = some 4 := by kernel_rfl
structure Flt where
 k : Int
 pc : Int
 a : Int
 wt : Int
 deriving DecidableEq
def Flt.cells (f : Flt) : Array Value := #[.int .i64 f.k, .int .u32 f.pc, .int .u32 f.a, .int .i64 f.wt]
def Flt.val (f : Flt) : Value := .agg #[.int .i64 f.k, .int .u32 f.pc, .int .u32 f.a, .int .i64 f.wt]
def Flt.zero : Flt := ⟨0, 0, 0, 0⟩
def Mem.rdF (M : Mem) (x bytes right : Int) : Flt := match M.bad x (Yt right) (Yp bytes).toNat with | none => Flt.zero | some i => ⟨1, 0, Yf x i, Yt right⟩
def Mem.wrF (M : Mem) (x bytes : Int) : Flt := match M.bad x 2 (Yp bytes).toNat with | none => Flt.zero | some i => ⟨1, 0, Yf x i, 2⟩
theorem Mem.readF_val (M : Mem) (x bytes right : Int) : M.readF x bytes right = (M.rdF x bytes right).val := by
 unfold Mem.readF Mem.rdF; cases M.bad x (Yt right) (Yp bytes).toNat <;> rfl
theorem Mem.writeF_val (M : Mem) (x bytes : Int) : M.writeF x bytes = (M.wrF x bytes).val := by
 unfold Mem.writeF Mem.wrF; cases M.bad x 2 (Yp bytes).toNat <;> rfl
theorem Yad.drew {w : World} {r : Nat} {M : Mem} (h : Yad w r M) : Yad w.drew r M := ⟨h.ex, h.ok⟩
structure Rep (v : Value) (l : List Value) (n : Nat) : Prop where
 eq : l = List.replicate n v
theorem Rep.append {v : Value} {l m : List Value} {a b : Nat} (h : Rep v l a) (k : Rep v m b) : Rep v (l.append m) (a + b) :=
 ⟨by rw [h.eq, k.eq]; exact List.replicate_append_replicate⟩
structure Rep2 (v u : Value) (l : List Value) (n m : Nat) : Prop where
 eq : l = List.replicate n v ++ List.replicate m u
theorem Rep2.append {v u : Value} {l l' : List Value} {n m m' : Nat} (h : Rep2 v u l n m) (k : Rep u l' m') : Rep2 v u (l.append l') n (m + m') :=
 ⟨by rw [h.eq, k.eq]; show (List.replicate n v ++ List.replicate m u) ++ List.replicate m' u = _; rw [List.append_assoc, List.replicate_append_replicate]⟩
theorem rat_one (M : Mem) (k : Nat) : (M.rat k).oneCell' = true := by
 unfold Mem.rat; split <;> rfl
theorem Ydx.one {C : Array Value} {M : Mem} (h : Ydx C M) : C.all (·.oneCell') = true := by
 rw [Array.all_eq_true]
 intro i hi
 have hi' : i < 16448 := by rw [← h.size]; exact hi
 have e := h.get i hi'
 rw [Array.getElem?_eq_getElem hi] at e
 injection e with e
 rw [e]
 exact rat_one M i
theorem Yad.new {w : World} {C : Array Value} {M : Mem} (h : Ydx C M) (hok : M.Ok) : Yad (w.alloc (.cells C 55 (0, 0))) w.heap.size M := ⟨⟨C, h, heap_alloc_new _ _⟩, hok⟩
section
open Go.WideShapes Go.ChangeShapes
def ByS0 (w : World) (v : Value) (l : List Int) (g : Nat) : Prop := (∃ a c, v = .slice a 0 c ∧ l = []) ∨ (l ≠ [] ∧ g < w.heap.size ∧ Ybj w v l g)
theorem ByS0.keep {w w' : World} {v : Value} {l : List Int} {g : Nat} (h : ByS0 w v l g) (u : Upd [] w w') : ByS0 w' v l g := by
 rcases h with h | ⟨h0, h1, h2⟩
 ·exact .inl h
 ·exact .inr ⟨h0, Nat.lt_of_lt_of_le h1 u.size, h2.keep u (by simp)⟩
structure Yc5 where
 wt : Int
 pg : Int
 ct : Int
 rt : Int
 nb : Int
 at_ : Int
 v : Int
 vb : Value
 vs : Value
 B : List Int
 S : List Ybw
 gb : Nat
 gs : Nat
def Yc5.cells (s : Yc5) : Array Value := #[.int .i64 s.wt, .int .i64 s.pg, .int .i64 s.ct, .int .i64 s.rt, .int .i64 s.nb, .int .u32 s.at_, .int .u32 s.v, s.vb, s.vs]
structure Yc5.Good (q : Yc5) (w : World) : Prop where
 pg : -9223372036854775808 ≤ q.pg ∧ q.pg ≤ 9223372036854775807
 ct : -9223372036854775808 ≤ q.ct ∧ q.ct ≤ 9223372036854775807
 nb : -9223372036854775808 ≤ q.nb ∧ q.nb ≤ 9223372036854775807
 at_ : 0 ≤ q.at_ ∧ q.at_ < 4294967296
 v : 0 ≤ q.v ∧ q.v < 4294967296
 b : ByS0 w q.vb q.B q.gb
 bl : ∀ i, 0 ≤ q.B.getD i 0 ∧ q.B.getD i 0 ≤ 255
 bn : q.B.length ≤ maxLen
 bf : ∃ b c, q.vb = .slice b q.B.length c
 sa : SArg w q.vs q.S q.gs
 sf : ∃ b c, q.vs = .slice b q.S.length c
theorem Yc5.Good.keep {s : Yc5} {w w' : World} (h : s.Good w) (u : Upd [] w w') : s.Good w' := ⟨h.pg, h.ct, h.nb, h.at_, h.v, h.b.keep u, h.bl, h.bn, h.bf, h.sa.keep u, h.sf⟩
end
theorem Yc8 (M : Mem) (a pb : Nat) (p n r : Int) (w : World) (hM : Yd w a pb M) (hn : -9223372036854775808 ≤ n) :
  Calls Try.prog 11 #[.pointer (some ⟨a, 0, none⟩), .int .i64 p, .int .i64 n, .int .i64 r] w fun e w' => e = .returned (.int .i64 (errI (M.mapB p n r) 61)) ∧ Yd w' a pb (M.mapM p n r) ∧ Upd [pb] w w' := by
 cases h : M.mapB p n r
 ·refine (Map_no M a pb p n r w hM hn h).mono ?_
  rintro e w' ⟨h1, h2⟩
  exact ⟨h1, by rw [Mem.mapM, h]; exact hM.keep h2 (by simp) (by simp), h2.mono (by simp)⟩
 ·refine (Map_yes M a pb p n r w hM hn h).mono ?_
  rintro e w' ⟨h1, h2, h3⟩
  exact ⟨h1, by rw [Mem.mapM, h]; exact h2, h3⟩
theorem Yew (M : Mem) (a pb : Nat) (p n : Int) (w : World) (hM : Yd w a pb M) (hn : -9223372036854775808 ≤ n) :
  Calls Try.prog 58 #[.pointer (some ⟨a, 0, none⟩), .int .i64 p, .int .i64 n] w fun e w' => e = .returned (.int .i64 (errI (M.unmapB p n) 61)) ∧ Yd w' a pb (M.unmapM p n) ∧ Upd [pb] w w' := by
 cases h : M.unmapB p n
 ·refine (Unmap_no M a pb p n w hM hn h).mono ?_
  rintro e w' ⟨h1, h2⟩
  exact ⟨h1, by rw [Mem.unmapM, h]; exact hM.keep h2 (by simp) (by simp), h2.mono (by simp)⟩
 ·refine (Ygl M a pb p n w hM hn h).mono ?_
  rintro e w' ⟨h1, h2, h3⟩
  exact ⟨h1, by rw [Mem.unmapM, h]; exact h2, h3⟩
theorem Ydh (M : Mem) (a pb : Nat) (p n r : Int) (w : World) (hM : Yd w a pb M) (hn : -9223372036854775808 ≤ n) :
  Calls Try.prog 59 #[.pointer (some ⟨a, 0, none⟩), .int .i64 p, .int .i64 n, .int .i64 r] w fun e w' => e = .returned (.int .i64 (errI (M.protB p n r) 61)) ∧ Yd w' a pb (M.protM p n r) ∧ Upd [pb] w w' := by
 cases h : M.protB p n r
 ·refine (Yf9 M a pb p n r w hM hn h).mono ?_
  rintro e w' ⟨h1, h2⟩
  exact ⟨h1, by rw [Mem.protM, h]; exact hM.keep h2 (by simp) (by simp), h2.mono (by simp)⟩
 ·refine (Yfq M a pb p n r w hM hn h).mono ?_
  rintro e w' ⟨h1, h2, h3⟩
  exact ⟨h1, by rw [Mem.protM, h]; exact h2, h3⟩
section
structure Ev.Ok (e : Ev) : Prop where
 n : 0 ≤ e.n ∧ e.n < 4294967296
 b : 0 ≤ e.b ∧ e.b < 4294967296
 c : 0 ≤ e.c ∧ e.c < 4294967296
 d : 0 ≤ e.d ∧ e.d < 4294967296
def Yb4 (n b c d : Int) : Bool := decide (b % 256 = 0) && decide (c ≤ 64) && (decide (n = 91) || decide (d ≤ 7))
def chB (M : Mem) (n b c d : Int) : Bool := Yb4 n b c d && (if n = 91 then M.unmapB (b / 256) c else if n = 125 then M.protB (b / 256) c d else M.mapB (b / 256) c d)
def chM (M : Mem) (n b c d : Int) : Mem := if Yb4 n b c d = true then (if n = 91 then M.unmapM (b / 256) c else if n = 125 then M.protM (b / 256) c d else M.mapM (b / 256) c d) else M
def chR (M : Mem) (n b c d : Int) : Int := if chB M n b c d = true then 0 else 4294967274
section
variable (M : Mem) (a pb : Nat) (n b c d r : Int) (s : ByteArray) (w : World)
theorem ch_bad (hM : Yd w a pb M) (hb : 0 ≤ b) (h : Yb4 n b c d = false) :
  Calls Try.prog 34 #[.pointer (some ⟨a, 0, none⟩), .agg #[.int .u32 n, .int .u32 b, .int .u32 c, .int .u32 d, .int .u32 r, .string s]] w fun x w' => x = .returned (.int .u32 4294967274) ∧ Yd w' a pb M ∧ Upd [pb] w w' := by
 have HM := Yh_ hM
 obtain ⟨q, hq⟩ : ∃ q, b % 256 = q := ⟨_, rfl⟩
 have e1 : b.tmod 256 = q := by rw [Int.tmod_eq_emod_of_nonneg hb]; exact hq
 unfold Yb4 at h
 rw [hq] at h
 clear hM hb hq
 by_cases h1 : q = 0
 ·subst h1
  by_cases h2 : c ≤ 64
  ·have h3 : ¬ n = 91 ∧ ¬ d ≤ 7 := by simpa [h2] using h
   have d1 : decide (64 < c) = false := by simp; omega
   have d2 : decide (7 < d) = true := by simp; omega
   have d3 : (n == 91) = false := by simp [h3.1]
   have d4 : (n != 91) = true := by simp [h3.1]
   clear h h2 h3
   go_enter Try.func34, Try.ntmps34
   go_wp2_with (go_at_call 35; refine (Yai (-22) (by decide) _).mono ?_; rintro e w1 ⟨rfl, hu⟩; have HU := Yh_ ((((Upd.refl [] w).alloc _).also hu (by simp))); clear hu)
   go_ret
   exact ⟨rfl, HM.out.keep HU.out (by simp) (by simp), HU.out.mono (by simp)⟩
  ·have d1 : decide (64 < c) = true := by simp; omega
   clear h h2
   go_enter Try.func34, Try.ntmps34
   go_wp2_with (go_at_call 35; refine (Yai (-22) (by decide) _).mono ?_; rintro e w1 ⟨rfl, hu⟩; have HU := Yh_ ((((Upd.refl [] w).alloc _).also hu (by simp))); clear hu)
   go_ret
   exact ⟨rfl, HM.out.keep HU.out (by simp) (by simp), HU.out.mono (by simp)⟩
 ·have d1 : (q == 0) = false := by simp [h1]
  have d2 : (q != 0) = true := by simp [h1]
  clear h h1
  go_enter Try.func34, Try.ntmps34
  go_wp2_with (go_at_call 35; refine (Yai (-22) (by decide) _).mono ?_; rintro e w1 ⟨rfl, hu⟩; have HU := Yh_ ((((Upd.refl [] w).alloc _).also hu (by simp))); clear hu)
  go_ret
  exact ⟨rfl, HM.out.keep HU.out (by simp) (by simp), HU.out.mono (by simp)⟩
theorem ch_91 (hM : Yd w a pb M) (hb : 0 ≤ b ∧ b < 4294967296) (hc : 0 ≤ c ∧ c < 4294967296) (hd : 0 ≤ d ∧ d < 4294967296) (h : Yb4 n b c d = true) (hn : n = 91) :
  Calls Try.prog 34 #[.pointer (some ⟨a, 0, none⟩), .agg #[.int .u32 n, .int .u32 b, .int .u32 c, .int .u32 d, .int .u32 r, .string s]] w fun x w' => x = .returned (.int .u32 (chR M n b c d)) ∧ Yd w' a pb (chM M n b c d) ∧ Upd [pb] w w' := by
 have HM := Yh_ hM
 have hbl : w.heap.size ≤ w.heap.size := Nat.le_refl _
 have hB : chR M n b c d = if M.unmapB (b / 256) c = true then 0 else 4294967274 := by unfold chR chB; rw [h, Bool.true_and, if_pos hn]
 have hMM : chM M n b c d = M.unmapM (b / 256) c := by unfold chM; rw [if_pos h, if_pos hn]
 rw [hB, hMM]
 unfold Yb4 at h
 simp only [Bool.and_eq_true, Bool.or_eq_true, decide_eq_true_eq] at h
 obtain ⟨⟨h1, h2⟩, h3⟩ := h
 have e1 : b.tmod 256 = 0 := by rw [Int.tmod_eq_emod_of_nonneg hb.1]; exact h1
 have d1 : decide (64 < c) = false := by simp; omega
 subst hn
 obtain ⟨y, hy⟩ : ∃ y, b / 256 = y := ⟨_, rfl⟩
 have e2 : b.tdiv 256 = y := by rw [Int.tdiv_eq_ediv_of_nonneg hb.1]; exact hy
 have e3 : wrap64 y = y := by unfold wrap64; omega
 have e6 : y % 4294967296 = y := by omega
 have e4 : wrap64 c = c := by unfold wrap64; omega
 have e5 : wrap64 d = d := by unfold wrap64; omega
 have HC := Yh_ hc.1
 rw [hy]
 clear hM hb hc hd h1 h2 h3 hy hB hMM
 generalize hk : M.unmapB y c = k
 have HK := Yh_ hk
 clear hk
 cases k
 ·go_enter Try.func34, Try.ntmps34
  go_upto_region 3 with fail
  go_quiet (fail)
  simp only [e4, e5, e6]
  go_wp2_with (first | (go_at_call 58; refine (Yew M a pb y c _ (HM.out.keep (Yx ((Upd.refl [] w).alloc _) _) (by simp) (by simp)) (by have := HC.out; omega)).mono ?_; rintro e w1 ⟨rfl, hm, hu⟩; rw [HK.out]; unfold errI; simp only [Bool.false_eq_true, if_false, if_true]; have HU := Yh_ (And.intro hm (((Yx ((Upd.refl [pb] w).alloc _) _).also hu (by simp)))); clear hm hu) | (go_at_call 35; refine (Yai (-22) (by decide) _).mono ?_; rintro e w2 ⟨rfl, hu2⟩; have HU2 := Yh_ hu2; clear hu2))
  go_ret
  exact ⟨rfl, HU.out.1.keep HU2.out (by simp) (by simp), HU.out.2.also HU2.out (by simp)⟩
 ·go_enter Try.func34, Try.ntmps34
  go_upto_region 3 with fail
  go_quiet (fail)
  simp only [e4, e5, e6]
  go_wp2_with (go_at_call 58; refine (Yew M a pb y c _ (HM.out.keep (Yx ((Upd.refl [] w).alloc _) _) (by simp) (by simp)) (by have := HC.out; omega)).mono ?_; rintro e w1 ⟨rfl, hm, hu⟩; rw [HK.out]; unfold errI; simp only [Bool.false_eq_true, if_false, if_true]; have HU := Yh_ (And.intro hm (((Yx ((Upd.refl [pb] w).alloc _) _).also hu (by simp)))); clear hm hu)
  go_ret
  exact ⟨rfl, HU.out.1, HU.out.2⟩
theorem ch_125 (hM : Yd w a pb M) (hb : 0 ≤ b ∧ b < 4294967296) (hc : 0 ≤ c ∧ c < 4294967296) (hd : 0 ≤ d ∧ d < 4294967296) (h : Yb4 n b c d = true) (hn : n = 125) :
  Calls Try.prog 34 #[.pointer (some ⟨a, 0, none⟩), .agg #[.int .u32 n, .int .u32 b, .int .u32 c, .int .u32 d, .int .u32 r, .string s]] w fun x w' => x = .returned (.int .u32 (chR M n b c d)) ∧ Yd w' a pb (chM M n b c d) ∧ Upd [pb] w w' := by
 have HM := Yh_ hM
 have hbl : w.heap.size ≤ w.heap.size := Nat.le_refl _
 have hB : chR M n b c d = if M.protB (b / 256) c d = true then 0 else 4294967274 := by unfold chR chB; rw [h, Bool.true_and, if_neg (show ¬ n = 91 by omega), if_pos hn]
 have hMM : chM M n b c d = M.protM (b / 256) c d := by unfold chM; rw [if_pos h, if_neg (show ¬ n = 91 by omega), if_pos hn]
 rw [hB, hMM]
 unfold Yb4 at h
 simp only [Bool.and_eq_true, Bool.or_eq_true, decide_eq_true_eq] at h
 obtain ⟨⟨h1, h2⟩, h3⟩ := h
 have e1 : b.tmod 256 = 0 := by rw [Int.tmod_eq_emod_of_nonneg hb.1]; exact h1
 have d1 : decide (64 < c) = false := by simp; omega
 have d2 : decide (7 < d) = false := by simp; omega
 subst hn
 obtain ⟨y, hy⟩ : ∃ y, b / 256 = y := ⟨_, rfl⟩
 have e2 : b.tdiv 256 = y := by rw [Int.tdiv_eq_ediv_of_nonneg hb.1]; exact hy
 have e3 : wrap64 y = y := by unfold wrap64; omega
 have e6 : y % 4294967296 = y := by omega
 have e4 : wrap64 c = c := by unfold wrap64; omega
 have e5 : wrap64 d = d := by unfold wrap64; omega
 have HC := Yh_ hc.1
 rw [hy]
 clear hM hb hc hd h1 h2 h3 hy hB hMM
 generalize hk : M.protB y c d = k
 have HK := Yh_ hk
 clear hk
 cases k
 ·go_enter Try.func34, Try.ntmps34
  go_upto_region 3 with fail
  go_quiet (fail)
  simp only [e4, e5, e6]
  go_wp2_with (first | (go_at_call 59; refine (Ydh M a pb y c d _ (HM.out.keep (Yx ((Upd.refl [] w).alloc _) _) (by simp) (by simp)) (by have := HC.out; omega)).mono ?_; rintro e w1 ⟨rfl, hm, hu⟩; rw [HK.out]; unfold errI; simp only [Bool.false_eq_true, if_false, if_true]; have HU := Yh_ (And.intro hm (((Yx ((Upd.refl [pb] w).alloc _) _).also hu (by simp)))); clear hm hu) | (go_at_call 35; refine (Yai (-22) (by decide) _).mono ?_; rintro e w2 ⟨rfl, hu2⟩; have HU2 := Yh_ hu2; clear hu2))
  go_ret
  exact ⟨rfl, HU.out.1.keep HU2.out (by simp) (by simp), HU.out.2.also HU2.out (by simp)⟩
 ·go_enter Try.func34, Try.ntmps34
  go_upto_region 3 with fail
  go_quiet (fail)
  simp only [e4, e5, e6]
  go_wp2_with (go_at_call 59; refine (Ydh M a pb y c d _ (HM.out.keep (Yx ((Upd.refl [] w).alloc _) _) (by simp) (by simp)) (by have := HC.out; omega)).mono ?_; rintro e w1 ⟨rfl, hm, hu⟩; rw [HK.out]; unfold errI; simp only [Bool.false_eq_true, if_false, if_true]; have HU := Yh_ (And.intro hm (((Yx ((Upd.refl [pb] w).alloc _) _).also hu (by simp)))); clear hm hu)
  go_ret
  exact ⟨rfl, HU.out.1, HU.out.2⟩
theorem ch_map (hM : Yd w a pb M) (hb : 0 ≤ b ∧ b < 4294967296) (hc : 0 ≤ c ∧ c < 4294967296) (hd : 0 ≤ d ∧ d < 4294967296) (h : Yb4 n b c d = true) (hn : n ≠ 91 ∧ n ≠ 125) :
  Calls Try.prog 34 #[.pointer (some ⟨a, 0, none⟩), .agg #[.int .u32 n, .int .u32 b, .int .u32 c, .int .u32 d, .int .u32 r, .string s]] w fun x w' => x = .returned (.int .u32 (chR M n b c d)) ∧ Yd w' a pb (chM M n b c d) ∧ Upd [pb] w w' := by
 have HM := Yh_ hM
 have hbl : w.heap.size ≤ w.heap.size := Nat.le_refl _
 have hB : chR M n b c d = if M.mapB (b / 256) c d = true then 0 else 4294967274 := by unfold chR chB; rw [h, Bool.true_and, if_neg hn.1, if_neg hn.2]
 have hMM : chM M n b c d = M.mapM (b / 256) c d := by unfold chM; rw [if_pos h, if_neg hn.1, if_neg hn.2]
 rw [hB, hMM]
 unfold Yb4 at h
 simp only [Bool.and_eq_true, Bool.or_eq_true, decide_eq_true_eq] at h
 obtain ⟨⟨h1, h2⟩, h3⟩ := h
 have e1 : b.tmod 256 = 0 := by rw [Int.tmod_eq_emod_of_nonneg hb.1]; exact h1
 have d1 : decide (64 < c) = false := by simp; omega
 have d2 : decide (7 < d) = false := by simp; omega
 have d3 : (n == 91) = false := by simp [hn.1]
 have d4 : (n != 91) = true := by simp [hn.1]
 have d5 : (n == 125) = false := by simp [hn.2]
 obtain ⟨y, hy⟩ : ∃ y, b / 256 = y := ⟨_, rfl⟩
 have e2 : b.tdiv 256 = y := by rw [Int.tdiv_eq_ediv_of_nonneg hb.1]; exact hy
 have e3 : wrap64 y = y := by unfold wrap64; omega
 have e6 : y % 4294967296 = y := by omega
 have e4 : wrap64 c = c := by unfold wrap64; omega
 have e5 : wrap64 d = d := by unfold wrap64; omega
 have HC := Yh_ hc.1
 rw [hy]
 clear hM hb hc hd h1 h2 h3 hy hB hMM
 generalize hk : M.mapB y c d = k
 have HK := Yh_ hk
 clear hk
 cases k
 ·go_enter Try.func34, Try.ntmps34
  go_upto_region 3 with fail
  go_quiet (fail)
  simp only [e4, e5, e6]
  go_wp2_with (first | (go_at_call 11; refine (Yc8 M a pb y c d _ (HM.out.keep (Yx ((Upd.refl [] w).alloc _) _) (by simp) (by simp)) (by have := HC.out; omega)).mono ?_; rintro e w1 ⟨rfl, hm, hu⟩; rw [HK.out]; unfold errI; simp only [Bool.false_eq_true, if_false, if_true]; have HU := Yh_ (And.intro hm (((Yx ((Upd.refl [pb] w).alloc _) _).also hu (by simp)))); clear hm hu) | (go_at_call 35; refine (Yai (-22) (by decide) _).mono ?_; rintro e w2 ⟨rfl, hu2⟩; have HU2 := Yh_ hu2; clear hu2))
  go_ret
  exact ⟨rfl, HU.out.1.keep HU2.out (by simp) (by simp), HU.out.2.also HU2.out (by simp)⟩
 ·go_enter Try.func34, Try.ntmps34
  go_upto_region 3 with fail
  go_quiet (fail)
  simp only [e4, e5, e6]
  go_wp2_with (go_at_call 11; refine (Yc8 M a pb y c d _ (HM.out.keep (Yx ((Upd.refl [] w).alloc _) _) (by simp) (by simp)) (by have := HC.out; omega)).mono ?_; rintro e w1 ⟨rfl, hm, hu⟩; rw [HK.out]; unfold errI; simp only [Bool.false_eq_true, if_false, if_true]; have HU := Yh_ (And.intro hm (((Yx ((Upd.refl [pb] w).alloc _) _).also hu (by simp)))); clear hm hu)
  go_ret
  exact ⟨rfl, HU.out.1, HU.out.2⟩
theorem Yfm (hM : Yd w a pb M) (hb : 0 ≤ b ∧ b < 4294967296) (hc : 0 ≤ c ∧ c < 4294967296) (hd : 0 ≤ d ∧ d < 4294967296) :
  Calls Try.prog 34 #[.pointer (some ⟨a, 0, none⟩), .agg #[.int .u32 n, .int .u32 b, .int .u32 c, .int .u32 d, .int .u32 r, .string s]] w fun x w' => x = .returned (.int .u32 (chR M n b c d)) ∧ Yd w' a pb (chM M n b c d) ∧ Upd [pb] w w' := by
 cases h : Yb4 n b c d
 ·have h1 : chR M n b c d = 4294967274 := by unfold chR chB; rw [h, Bool.false_and]; rfl
  have h2 : chM M n b c d = M := by unfold chM; rw [h]; rfl
  rw [h1, h2]
  exact ch_bad M a pb n b c d r s w hM hb.1 h
 ·by_cases h1 : n = 91
  ·exact ch_91 M a pb n b c d r s w hM hb hc hd h h1
  ·by_cases h2 : n = 125
   ·exact ch_125 M a pb n b c d r s w hM hb hc hd h h2
   ·exact ch_map M a pb n b c d r s w hM hb hc hd h ⟨h1, h2⟩
end
end
inductive DR (α : Type) where
 |ok (v : α) (k : Nat)
 |err (c : Int)
def DR.bind {α β : Type} (r : DR α) (f : α → Nat → DR β) : DR β :=
 match r with
 |.ok v k => f v k
 |.err c => .err c
structure Mrm where
 mod : Int
 reg : Int
 rm : Int
def Mrm.cells (m : Mrm) : Array Value := #[.int .i64 m.mod, .int .i64 m.reg, .int .i64 m.rm]
def BOk (L : List Int) : Prop := ∀ i, 0 ≤ L.getD i 0 ∧ L.getD i 0 ≤ 255
def Opd.cells (o : Opd) : Array Value := #[.int .i64 o.k, .int .i64 o.r, .int .u32 o.imm, .int .i64 o.b, .int .i64 o.x, .int .u32 o.sc]
theorem Opd.size (o : Opd) : o.cells.size = 6 := rfl
theorem Opd.one (o : Opd) : o.cells.all (·.oneCell') = true := by simp [Opd.cells, Value.oneCell']
def Ins.val (i : Ins) : Value := .agg i.cells
theorem Mrm.one (m : Mrm) : m.cells.all (·.oneCell') = true := by simp [Mrm.cells, Value.oneCell']
section
structure Mrm.Ok (m : Mrm) : Prop where
 mod : 0 ≤ m.mod ∧ m.mod ≤ 3
 reg : 0 ≤ m.reg ∧ m.reg < 8
 rm : 0 ≤ m.rm ∧ m.rm < 8
section
variable {w w2 w3 : World} {d : Nat} {v : Value} {L : List Int} {g k k' : Nat} {m : Mrm} {o o' : Opd}
end
end
section
def Ys (d : Nat → Bool) (i : Nat) : Nat → Bool := fun j => if j = i then true else d j
def Ybh (listed : Array Bool) : Nat → Bool := fun j => listed.getD j false
theorem Yev {listed : Array Bool} {i : Nat} (h : i < listed.size) : Ybh (listed.setIfInBounds i true) = Ys (Ybh listed) i := by
 funext j
 simp only [Ybh, Ys]
 by_cases e : j = i
 ·subst e; simp [h]
 ·rw [if_neg e, getD_set_ne false (fun h => e h.symm)]
theorem Yf7 (n : Nat) : Ybh (Array.replicate n false) = fun _ => false := by
 funext j; exact getD_replicate_false _ _
section
variable {P : Program} {ops : Array Oper} {B : (Nat → Bool) → World → Prop} {X : List PanicEntry → World → Prop} {fin : List Nat → Act → Prop} {dead : List Nat} {i : Nat} {o : Oper} {rest : List Oper} {a : Act}
end
end
end Go.Proofs.Ytchoedlinimeaaa
