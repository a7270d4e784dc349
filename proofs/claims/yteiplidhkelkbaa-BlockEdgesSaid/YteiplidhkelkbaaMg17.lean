/-
  Package page: Load, by its contract.
-/
import Derived.Test.YteiplidhkelkbaaMg16
import Derived.Laws.IdiomStrings
import Derived.Outline
import Derived.Laws.BytesArg
import Derived.Test.YteiplidhkelkbaaMg03
import Derived.Test.YteiplidhkelkbaaMg01
import Derived.Test.YteiplidhkelkbaaMg02
import Derived.Deep.QuietTactic
import Derived.BigQuiet
import Derived.Test.YteiplidhkelkbaaMg04
import Derived.ChangeSlices
namespace Go.Proofs.Yteiplidhkelkbaa
open Go Go.RowKit
set_option linter.unusedVariables false
set_option linter.unusedSimpArgs false

/-- A span of pages, with the bytes at its beginning. -/
structure SpanV where
  pg : Int
  ct : Int
  rt : Int
  by_ : ByteArray
  deriving Inhabited

def SpanV.ok (s : SpanV) : Prop := -9223372036854775808 ≤ s.ct ∧ s.ct ≤ 9223372036854775807

/-- Spans in memory: a slice. -/
def SpansIn (w : World) (v : Value) (l : List SpanV) (g : Nat) : Prop :=
  (∃ a c, v = .slice a 0 c ∧ l = []) ∨
  ∃ o c, v = .slice (some ⟨g, o, none⟩) l.length c ∧ g < w.heap.size ∧ l.length ≤ 9223372036854775807 ∧ ∀ i s, l[i]? = some s → w.cell? ⟨g, o + i * 4, none⟩ = some (.int .i64 s.pg) ∧ w.cell? ⟨g, o + i * 4 + 1, none⟩ = some (.int .i64 s.ct) ∧ w.cell? ⟨g, o + i * 4 + 2, none⟩ = some (.int .i64 s.rt) ∧ w.cell? ⟨g, o + i * 4 + 3, none⟩ = some (.string s.by_)

theorem SpansIn.keep {w w' : World} {v : Value} {l : List SpanV} {g : Nat} {S : List Nat} (h : SpansIn w v l g) (u : Upd S w w') (hg : g ∉ S) : SpansIn w' v l g := by
  rcases h with h | ⟨o, c, h1, h2, h4, h3⟩
  · exact .inl h
  · refine .inr ⟨o, c, h1, Nat.lt_of_lt_of_le h2 u.size, h4, fun i s hs => ?_⟩
    have e : ∀ k, w'.cell? ⟨g, k, none⟩ = w.cell? ⟨g, k, none⟩ := fun k => by
      simp only [World.cell?]; rw [u.block g h2 hg]
    rw [e, e, e, e]
    exact h3 i s hs

end Go.Proofs.Yteiplidhkelkbaa

/-
  Slices of bytes as strings. No condition.
-/
namespace Go.Proofs.Yteiplidhkelkbaa
open Go Go.RowKit
set_option linter.unusedVariables false
set_option linter.unusedSimpArgs false

/-- A slice of bytes of one's own, as a string. -/
theorem own_string {w : World} {base : Nat} {l : List Int} {v : Value} (h : w.ownsRow base 5 1 v l.length (l.map (Value.int .u8))) :
    (convert 28 9 v).run Try.prog w = .ok (.string (strOfNums l)) w := by
  have hk := h
  obtain ⟨_, ⟨h1, h2⟩ | ⟨g, cap, cur, h1, _⟩⟩ := h
  · have : l = [] := List.length_eq_zero_iff.1 h2
    subst this
    rw [h1]
    exact run_convert_bytes_nil w 28 5 (by kernel_rfl) (by kernel_rfl) _ _ _ (by kernel_rfl)
  · rw [h1]
    refine run_convert_bytes_arg w 28 5 (by kernel_rfl) (by kernel_rfl) g 0 _ cap l rfl (fun i hi => ?_) _ (by kernel_rfl)
    have := hk.cells (g := g) (by rw [h1]; rfl) i (.int .u8 (l.getD i 0)) (by rw [List.getElem?_map, List.getD_eq_getElem?_getD, List.getElem?_eq_getElem hi]; rfl)
    rw [Nat.zero_add]
    rcases i with _ | i <;> simpa [Addr.add] using this

/-- A slice of one's own reads as its bytes. -/
theorem own_bysl {w : World} {base : Nat} {l : List Int} {v : Value} (h : w.ownsRow base 5 1 v l.length (l.map (Value.int .u8))) : ∃ g, BySl w v l g := by
  rcases h.2 with ⟨h1, h0⟩ | ⟨g, cap, cur, h1, hb, hg, hnc, hcm, hs, ht⟩
  · exact ⟨0, .inl ⟨h1, List.length_eq_zero_iff.1 h0⟩⟩
  · refine ⟨g, .inr ⟨0, cap, cur, _, _, h1, hg, fun i hi => ?_⟩⟩
    have e : (cur.toList.take (l.length * 1))[i]? = some (.int .u8 (l.getD i 0)) := by
      rw [ht, List.getElem?_map, List.getD_eq_getElem?_getD, List.getElem?_eq_getElem hi]; rfl
    rw [Nat.mul_one, List.getElem?_take, if_pos hi, Array.getElem?_toList] at e
    rw [Nat.zero_add]; exact e

end Go.Proofs.Yteiplidhkelkbaa

/-
  Package block: block.Bytes, block.Places: each by its contract. No condition.
-/
namespace Go.Proofs.Yteiplidhkelkbaa
open Go Go.RowKit
set_option linter.unusedVariables false
set_option linter.unusedSimpArgs false

theorem sizeN_bnd (l : List Ins) (n : Nat) : 0 ≤ sizeN l n ∧ sizeN l n < 4294967296 := by
  cases n with
  | zero => simp [sizeN]
  | succ n => unfold sizeN; omega

set_option maxRecDepth 100000 in
set_option maxHeartbeats 2000000 in
theorem Bytes_any (M : Mem) (a pb : Nat) (pc : Int) (v : Value) (l : List Ins) (g : Nat) (w : World) (hM : IsMem w a pb M) (h0 : 0 ≤ pc ∧ pc < 4294967296) (hv : ISl w v l g) (hn : l.length ≤ 100) :
    Calls Try.prog 11 #[.pointer (some ⟨a, 0, none⟩), .int .u32 pc, v] w fun e w' => e = .returned (.string (strOfNums (M.peek pc (sizeN l l.length)))) ∧ Upd [] w w' := by
  have hb := sizeN_bnd l l.length
  obtain ⟨z, hz⟩ : ∃ z, sizeN l l.length = z := ⟨_, rfl⟩
  rw [hz] at hb
  have HM := Lib.hid (And.intro hM (And.intro h0 (And.intro hv (And.intro hn hz))))
  rw [hz]
  have tok : True := trivial
  obtain ⟨b, c, rfl⟩ := hv.form
  clear hM h0 hv hn hz
  go_enter Try.func11, Try.ntmps11
  go_wp2_with (first | (have _t := tok; clear _t; go_at_call 9; refine (Size_any _ l g _ HM.out.2.2.1 HM.out.2.2.2.1).mono ?_; rintro e w1 ⟨rfl, hu⟩; rw [HM.out.2.2.2.2]; have U1 := Lib.hid hu; clear hu tok) | (have _t := U1; clear _t; go_at_call 19; refine (Peek_any M a pb pc z _ (HM.out.1.keep U1.out (by simp) (by simp)) HM.out.2.1.1 HM.out.2.1.2 (by omega) (by omega)).mono ?_; rintro e w2 ⟨v2, rfl, hown, hu⟩; have hcv := own_string hown; have U2 := Lib.hid (U1.out.also hu (by simp)); clear hu U1 hown))
  go_ret
  exact ⟨rfl, U2.out⟩

/-- Where the n-th instruction of a row lies. -/
def placeN (pc : Int) (l : List Ins) : Nat → Int
  | 0 => pc
  | k + 1 => (placeN pc l k + (l.getD k Ins.zero).len % 4294967296) % 4294967296
def placesN (pc : Int) (l : List Ins) (k : Nat) : List Value := (List.range k).map fun j => .int .u32 (placeN pc l j)
theorem placesN_succ (pc : Int) (l : List Ins) (k : Nat) : placesN pc l (k + 1) = placesN pc l k ++ [.int .u32 (placeN pc l k)] := by simp [placesN, List.range_succ]
theorem info_u32 : (Try.prog.info? 27).map (fun i => (i.zero, i.size, i.bytes)) = some (some (.int .u32 0), 1, 4) := by kernel_rfl

/-- Along block.Places: the row so far, the instruction's variable. -/
structure PcS (w : World) (r : Value) (n : Nat) (xs : List Value) (x : Ins) (b : Nat) (w1 : World) : Prop where
  o : w1.ownsRow w.heap.size 27 1 r n xs
  h : w1.heap[b]? = some (.cells x.cells 38 (0, 0))
  u : Upd [] w w1
  l : w.heap.size ≤ b
  q : ∀ z, r.ownBlock = some z → z ≠ b
theorem pcStart {w wr w3 : World} {r : Value} {n : Nat} {xs : List Value} {x : Ins} (hu : Upd [] w wr) (ho : wr.ownsRow w.heap.size 27 1 r n xs) (h : w3.heap[wr.heap.size]? = some (.cells x.cells 38 (0, 0))) (u : Upd [] wr w3) : PcS w r n xs x wr.heap.size w3 := by
  refine ⟨ho.kept (row := none) ⟨u.os, u.tape, u.output, u.size, fun k hk _ => u.block k hk (by simp)⟩ ?_, h, hu.also u (by simp), hu.size, fun z hz e => ?_⟩
  · cases r.ownBlock <;> simp
  · have := (ho.lt z hz).2
    omega
theorem PcS.grow {w w3 w4 : World} {r v : Value} {n m b : Nat} {xs ys : List Value} {x : Ins} {t : TypeId} {y : Value} (h : PcS w r n xs x b w3) (ho : w4.ownsRow w.heap.size 27 1 v m ys) (hg : (w3.alloc (.cells #[y] t)).grownBy w4 r.ownBlock) : w4.ownsRow w.heap.size 27 1 v m ys ∧ w4.heap[b]? = some (.cells x.cells 38 (0, 0)) ∧ Upd [] w w4 := by
  have ua := (Upd.refl [] w3).alloc (.cells #[y] t)
  have uu : Upd r.ownBlock.toList w3 w4 := ua.trans (Upd.of_grown hg) (by simp) (fun z hz => .inl hz)
  have hne : ∀ z, z ∈ r.ownBlock.toList → w.heap.size ≤ z := fun z hz => (h.o.lt z (by simpa using hz)).1
  exact ⟨ho, uu.get h.h (fun hb => h.q b (by simpa using hb) rfl), h.u.new uu hne⟩

set_option maxRecDepth 100000 in
set_option maxHeartbeats 2000000 in
theorem Places_any (pc : Int) (v : Value) (l : List Ins) (g : Nat) (w : World) (hv : ISl w v l g) (hn : l.length ≤ 100) :
    Calls Try.prog 10 #[.int .u32 pc, v] w fun e w' => ∃ v', e = .returned v' ∧ w'.ownsRow w.heap.size 27 1 v' l.length (placesN pc l l.length) ∧ Upd [] w w' := by
  obtain ⟨b, c, rfl⟩ := hv.form
  obtain ⟨i0, hi, hz0, hz1, hz2⟩ := info_parts info_u32
  have HI := Lib.hid (And.intro hi (And.intro hz0 (And.intro hz1 hz2)))
  have HV := Lib.hid hv
  clear hv hi hz0 hz1 hz2
  go_enter Try.func10, Try.ntmps10
  go_wp2_with fail
  go_loopw [0, 5, 10] (fun t r i wr => ∃ k : Nat, k ≤ l.length ∧ t = .int .u32 (placeN pc l k) ∧ i = .int .i64 k ∧ wr.ownsRow w.heap.size 27 1 r k (placesN pc l k) ∧ Upd [] w wr) (fun _ _ i _ => l.length - (intOf i).toNat)
  case atStart => exact ⟨0, Nat.zero_le _, rfl, rfl, World.ownsRow_nil _ _ _ _, Upd.refl _ _⟩
  case round =>
    obtain ⟨k, hk, rfl, rfl, ho, hu⟩ := hrel
    have HU := Lib.hid hu
    have HO := Lib.hid ho
    clear hu ho
    by_cases hlt : k < l.length
    · have d1 : decide ((k : Int) < l.length) = true := by simp; omega
      obtain ⟨x, hx⟩ : ∃ x, l[k]? = some x := ⟨l[k], List.getElem?_eq_getElem hlt⟩
      obtain ⟨o, rfl⟩ : ∃ o, b = some ⟨g, o, none⟩ := by
        rcases HV.out with ⟨h1, h2⟩ | ⟨o, _, _, _, h1, _⟩
        · rw [h2] at hlt; simp at hlt
        · injection h1 with h1; exact ⟨o, h1⟩
      have HR := Lib.hid ((HV.out.keep HU.out (by simp)).at hx)
      have HX := Lib.hid hx
      clear hx
      have tok : True := trivial
      go_wp2_with (first | (refine at_load 38 rfl ?_; refine wpList_load_arr rfl 38 _ rfl g (o + k * 16) rfl x.cells _ HR.out Try.underlying38 rfl (by rw [Ins.size]; exact ins_info) ?_) | (have _t := tok; clear _t; refine at_store 38 rfl ?_; refine wpList_store_ins x wr.heap.size rfl _ _ rfl rfl rfl (heap_alloc_new wr (.cells Ins.zero.cells 38)) rfl ?_; intro w3 hw; have h3 := ins_new (S := []) (w0 := wr) hw (heap_alloc_new wr (.cells Ins.zero.cells 38)) rfl ((Upd.refl [] wr).alloc _) (.inr (Nat.le_refl _)); have P3 := Lib.hid (pcStart HU.out HO.out h3.1 h3.2); have c3 := cells_of h3.1 15; rw [show (x.cells)[15]? = some (.int .i64 x.len) from rfl] at c3; clear hw h3 tok) | (have _t := P3; clear _t; at_builtin; refine wpList_append_own _ rfl _ _ 41 rfl w.heap.size 27 i0 (.int .u32 0) 1 4 Try.underlying41 HI.out.1 HI.out.2.1 HI.out.2.2.1 HI.out.2.2.2 rfl (by decide) _ k _ rfl (P3.out.o.alloc _) ⟨w3.heap.size, 0, none⟩ 1 1 [.int .u32 (placeN pc l k)] rfl rfl (one_new _ _ _) (one_oneCell _ _) (by unfold maxLen; omega) (by omega) (by have := P3.out.u.size; simp; omega) ?_; intro v' w4 hv' hg _; have P4 := Lib.hid (P3.out.grow hv' hg); have c4 := cells_of P4.out.2.1 15; rw [show (x.cells)[15]? = some (.int .i64 x.len) from rfl] at c4; clear hv' hg P3 c3))
      go_roundw
      case rel => exact ⟨k + 1, by omega, by rw [placeN, List.getD_eq_getElem?_getD, HX.out]; first | rfl | go_num, by go_num, by rw [placesN_succ]; exact P4.out.1, P4.out.2.2⟩
      case measure => simp [intOf]; omega
    · obtain rfl : k = l.length := by omega
      have d1 : decide ((l.length : Int) < l.length) = false := by simp
      go_wp2_with fail
      go_ret
      exact ⟨_, rfl, HO.out, HU.out⟩
end Go.Proofs.Yteiplidhkelkbaa

/-
  Spans of pages as an argument of a law, opened. No condition.
-/
namespace Go.Proofs.Yteiplidhkelkbaa
open Go Go.RowKit Go.WideShapes Go.ChangeShapes
set_option linter.unusedVariables false
set_option linter.unusedSimpArgs false

structure SpanV.Ok (s : SpanV) : Prop where
  pg : -9223372036854775808 ≤ s.pg ∧ s.pg ≤ 9223372036854775807
  ct : -9223372036854775808 ≤ s.ct ∧ s.ct ≤ 9223372036854775807
  rt : -9223372036854775808 ≤ s.rt ∧ s.rt ≤ 9223372036854775807
  by_ : s.by_.size ≤ maxLen

/-- Spans as a law's argument. -/
structure SArg (w : World) (v : Value) (L : List SpanV) (g : Nat) : Prop where
  sp : SpansIn w v L g
  ok : ∀ s ∈ L, s.Ok
  len : L.length ≤ maxLen
  lt : g ≤ w.heap.size
  form : ∀ b n c, v = .slice b n c → n = L.length

theorem SArg.keep {w w' : World} {v : Value} {L : List SpanV} {g : Nat} (h : SArg w v L g) (u : Upd [] w w') : SArg w' v L g :=
  ⟨h.sp.keep u (by simp), h.ok, h.len, Nat.le_trans h.lt u.size, h.form⟩

end Go.Proofs.Yteiplidhkelkbaa

/-
  The reference's memory (ferrymanref6): how it lies in cells; there, mapped, set, Map, Unmap, Protect: each by its contract.
-/
namespace Go.Proofs.Yteiplidhkelkbaa
open Go Go.RowKit
set_option linter.unusedVariables false
set_option linter.unusedSimpArgs false

/-- The cell at place k of the reference's memory: 64 rights, 16384 bytes. -/
def Mem.rat (M : Mem) (k : Nat) : Value := if k < 64 then .int .i64 (M.R k) else .int .u8 (M.B (k - 64))

structure HoldsR (C : Array Value) (M : Mem) : Prop where
  size : C.size = 16448
  get : ∀ k, k < 16448 → C[k]? = some (M.rat k)

end Go.Proofs.Yteiplidhkelkbaa

/-
  The reference's memory: set, Map, Unmap, Protect: each by its contract. No condition.
-/
namespace Go.Proofs.Yteiplidhkelkbaa
open Go Go.RowKit
set_option linter.unusedVariables false
set_option linter.unusedSimpArgs false

/-- What Map, Unmap, Protect leave. -/
def Mem.mapM (M : Mem) (p n r : Int) : Mem := if M.mapB p n r then M.mapN p.toNat n.toNat r else M
end Go.Proofs.Yteiplidhkelkbaa

/-
  The reference's memory: its zero value. No condition.
-/
namespace Go.Proofs.Yteiplidhkelkbaa
open Go Go.RowKit
set_option linter.unusedVariables false
set_option linter.unusedSimpArgs false

structure Rep (v : Value) (l : List Value) (n : Nat) : Prop where
  eq : l = List.replicate n v

theorem Rep.append {v : Value} {l m : List Value} {a b : Nat} (h : Rep v l a) (k : Rep v m b) : Rep v (l.append m) (a + b) :=
  ⟨by rw [h.eq, k.eq]; exact List.replicate_append_replicate⟩

structure Rep2 (v u : Value) (l : List Value) (n m : Nat) : Prop where
  eq : l = List.replicate n v ++ List.replicate m u

theorem Rep2.append {v u : Value} {l l' : List Value} {n m m' : Nat} (h : Rep2 v u l n m) (k : Rep u l' m') : Rep2 v u (l.append l') n (m + m') :=
  ⟨by rw [h.eq, k.eq]; show (List.replicate n v ++ List.replicate m u) ++ List.replicate m' u = _; rw [List.append_assoc, List.replicate_append_replicate]⟩

theorem rat_one (M : Mem) (k : Nat) : (M.rat k).oneCell' = true := by
  unfold Mem.rat; split <;> rfl

theorem HoldsR.one {C : Array Value} {M : Mem} (h : HoldsR C M) : C.all (·.oneCell') = true := by
  rw [Array.all_eq_true]
  intro i hi
  have hi' : i < 16448 := by rw [← h.size]; exact hi
  have e := h.get i hi'
  rw [Array.getElem?_eq_getElem hi] at e
  injection e with e
  rw [e]
  exact rat_one M i

end Go.Proofs.Yteiplidhkelkbaa

/-
  The law PagePlays: its steps as an argument, opened. No condition.
-/
namespace Go.Proofs.Yteiplidhkelkbaa
open Go Go.RowKit Go.WideShapes Go.ChangeShapes
set_option linter.unusedVariables false
set_option linter.unusedSimpArgs false

/-- A slice of bytes that reads as l; one without bytes may be any. -/
def ByS0 (w : World) (v : Value) (l : List Int) (g : Nat) : Prop := (∃ a c, v = .slice a 0 c ∧ l = []) ∨ (l ≠ [] ∧ g < w.heap.size ∧ BySl w v l g)

theorem ByS0.keep {w w' : World} {v : Value} {l : List Int} {g : Nat} (h : ByS0 w v l g) (u : Upd [] w w') : ByS0 w' v l g := by
  rcases h with h | ⟨h0, h1, h2⟩
  · exact .inl h
  · exact .inr ⟨h0, Nat.lt_of_lt_of_le h1 u.size, h2.keep u (by simp)⟩

/-- A step of the law PagePlays. -/
structure StepV where
  wt : Int
  pg : Int
  ct : Int
  rt : Int
  nb : Int
  at_ : Int
  v : Int
  vb : Value
  vs : Value
  B : List Int
  S : List SpanV
  gb : Nat
  gs : Nat

def StepV.cells (s : StepV) : Array Value := #[.int .i64 s.wt, .int .i64 s.pg, .int .i64 s.ct, .int .i64 s.rt, .int .i64 s.nb, .int .u32 s.at_, .int .u32 s.v, s.vb, s.vs]

structure StepV.Good (q : StepV) (w : World) : Prop where
  pg : -9223372036854775808 ≤ q.pg ∧ q.pg ≤ 9223372036854775807
  ct : -9223372036854775808 ≤ q.ct ∧ q.ct ≤ 9223372036854775807
  nb : -9223372036854775808 ≤ q.nb ∧ q.nb ≤ 9223372036854775807
  at_ : 0 ≤ q.at_ ∧ q.at_ < 4294967296
  v : 0 ≤ q.v ∧ q.v < 4294967296
  b : ByS0 w q.vb q.B q.gb
  bl : ∀ i, 0 ≤ q.B.getD i 0 ∧ q.B.getD i 0 ≤ 255
  bn : q.B.length ≤ maxLen
  bf : ∃ b c, q.vb = .slice b q.B.length c
  sa : SArg w q.vs q.S q.gs
  sf : ∃ b c, q.vs = .slice b q.S.length c

theorem StepV.Good.keep {s : StepV} {w w' : World} (h : s.Good w) (u : Upd [] w w') : s.Good w' := ⟨h.pg, h.ct, h.nb, h.at_, h.v, h.b.keep u, h.bl, h.bn, h.bf, h.sa.keep u, h.sf⟩

end Go.Proofs.Yteiplidhkelkbaa

/-
  Package page and the reference: what a step of the law PagePlays calls, each as one contract. No condition.
-/
namespace Go.Proofs.Yteiplidhkelkbaa
open Go Go.RowKit
set_option linter.unusedVariables false
set_option linter.unusedSimpArgs false

theorem Map_any (M : Mem) (a pb : Nat) (p n r : Int) (w : World) (hM : IsMem w a pb M) (hn : -9223372036854775808 ≤ n) :
    Calls Try.prog 6 #[.pointer (some ⟨a, 0, none⟩), .int .i64 p, .int .i64 n, .int .i64 r] w fun e w' => e = .returned (.int .i64 (errI (M.mapB p n r) 61)) ∧ IsMem w' a pb (M.mapM p n r) ∧ Upd [pb] w w' := by
  cases h : M.mapB p n r
  · refine (Map_no M a pb p n r w hM hn h).mono ?_
    rintro e w' ⟨h1, h2⟩
    exact ⟨h1, by rw [Mem.mapM, h]; exact hM.keep h2 (by simp) (by simp), h2.mono (by simp)⟩
  · refine (Map_yes M a pb p n r w hM hn h).mono ?_
    rintro e w' ⟨h1, h2, h3⟩
    exact ⟨h1, by rw [Mem.mapM, h]; exact h2, h3⟩

end Go.Proofs.Yteiplidhkelkbaa

/-
  Package block: the memory of the law's known answers, as data. No condition.
-/
namespace Go.Proofs.Yteiplidhkelkbaa
open Go Go.RowKit
set_option linter.unusedVariables false
set_option linter.unusedSimpArgs false

def bkMap : Mem := Mem.zero.mapM 0 1 7
def bkMem : Mem := bkMap.poke 0 [64, 235, 254, 64]
theorem bk_map : Mem.zero.mapB 0 1 7 = true := by decide +kernel
theorem bk_poke : bkMap.pokeB 0 [64, 235, 254, 64] = true := by decide +kernel
theorem bk_peek : bkMem.peek 0 3 = [64, 235, 254] := by decide +kernel
theorem bk_no : findK bkMem 300 = false ∧ (findF bkMem 300).a = 300 ∧ (findF bkMem 300).pc = 300 := by decide +kernel
theorem bk_yes : findK bkMem 0 = true := by decide +kernel
theorem bk_len : (findL bkMem 0).length = 2 := by decide +kernel
theorem bk_size : sizeN (findL bkMem 0) 2 = 3 := by decide +kernel
theorem bk_place : placeN 0 (findL bkMem 0) 1 = 1 := by decide +kernel

/-- The memories of the law BlockEdges. -/
def beMap : Mem := Mem.zero.mapM 0 2 5
def beB (k : Nat) : List Int := List.replicate k 144 ++ [184, 1, 2, 3, 4, 195]
def beMem (k : Nat) : Mem := beMap.poke (253 - k) (beB k)
theorem be_map : Mem.zero.mapB 0 2 5 = true := by decide +kernel
theorem be_poke : ∀ k : Nat, k < 8 → beMap.pokeB (253 - k) (beB k) = true := by decide +kernel
theorem be_ok : ∀ k : Nat, k < 8 → findK (beMem k) (253 - k) = true := by decide +kernel
theorem be_len : ∀ k : Nat, k < 8 → 1 ≤ k → (findL (beMem k) (253 - k)).length = k ∧ sizeN (findL (beMem k) (253 - k)) k = k := by decide +kernel
end Go.Proofs.Yteiplidhkelkbaa

/-
  The block law's check of known answers, by its contract. No condition.
-/
namespace Go.Proofs.Yteiplidhkelkbaa
open Go Go.RowKit
set_option linter.unusedVariables false
set_option linter.unusedSimpArgs false

theorem bk_fno : ∃ k t, findF bkMem 300 = ⟨k, 300, 300, t⟩ := by
  have h := bk_no.2
  cases hF : findF bkMem 300 with
  | mk k p x t => rw [hF] at h; simp only at h; rw [h.1, h.2]; exact ⟨_, _, rfl⟩
theorem bk_fyes : findF bkMem 0 = Flt.zero := by unfold findF; exact if_pos bk_yes

theorem getD_ok {l : List Int} (h : l.all (fun x => decide (0 ≤ x) && decide (x ≤ 255)) = true) (i : Nat) : 0 ≤ l.getD i 0 ∧ l.getD i 0 ≤ 255 := by
  rw [List.getD_eq_getElem?_getD]
  cases hx : l[i]? with
  | none => simp
  | some x =>
    have := List.all_eq_true.1 h x (List.mem_of_getElem? hx)
    simpa using this
theorem pl_form {w : World} {b : Nat} {v : Value} (h : w.ownsRow b 27 1 v (findL bkMem 0).length (placesN 0 (findL bkMem 0) (findL bkMem 0).length)) : ∃ g c C, v = .slice (some ⟨g, 0, none⟩) 2 c ∧ w.heap[g]? = some (.cells C 27 (0, 0)) ∧ C[1]? = some (.int .u32 1) := by
  rw [bk_len] at h
  rcases h.2 with ⟨_, h0⟩ | ⟨g, cap, cur, rfl, hg, hb, _, _, hs, ht⟩
  · omega
  · refine ⟨g, cap, cur, rfl, hb, ?_⟩
    have e : (cur.toList.take (2 * 1))[1]? = some (.int .u32 1) := by rw [ht]; simp [placesN, List.range_succ, bk_place]
    rw [List.getElem?_take_of_lt (by omega), Array.getElem?_toList] at e
    exact e
theorem bk_str : (strOfNums [64, 235, 254]).toList = [64, 235, 254] := by decide +kernel
theorem errI_yes (n : Int) : errI true n = 0 := rfl
/-- Behind the first search: memory, row. -/
structure BkS (w : World) (a pb g : Nat) (v : Value) (w1 : World) : Prop where
  m : IsMem w1 a pb bkMem
  s : ISl w1 v (findL bkMem 0) g
  u : Upd [] w w1
theorem BkS.step {w w1 w2 : World} {a pb g : Nat} {v : Value} (h : BkS w a pb g v w1) (u : Upd [] w1 w2) : BkS w a pb g v w2 := ⟨h.m.keep u (by simp) (by simp), h.s.keep u (by simp), h.u.also u (by simp)⟩

set_option maxRecDepth 100000 in
set_option maxHeartbeats 4000000 in
theorem known16_any (w : World) : Calls Try.prog 4 #[] w fun e w' => e = .returned (.bool true) ∧ Upd [] w w' := by
  obtain ⟨nk, nt, hno⟩ := bk_fno
  have HNO := Lib.hid hno
  clear hno
  go_enter Try.func4, Try.ntmps4
  have hstr := bk_str
  have tok : True := trivial
  go_wp2_with (first | (have _t := tok; clear _t; go_at_call 5; refine (New_any _).mono ?_; rintro e w1 ⟨a, pb, rfl, ha, hp, hM1, hu1⟩; clear tok) | (have _t := hM1; clear _t; go_at_call 6; refine (Map_any Mem.zero a pb 0 1 7 _ hM1 (by decide)).mono ?_; rintro e w2 ⟨rfl, hM2, hu2⟩; rw [bk_map, errI_yes]; clear hM1) | (have _t := hM2; clear _t; go_at_call 7; refine (Poke_any bkMap a pb 0 _ [64, 235, 254, 64] w2.heap.size _ (hM2.keep ((Upd.refl [] w2).alloc _) (by simp) (by simp)) (by decide) (by decide) (byl_lit w2 [64, 235, 254, 64] _ _ rfl) (by obtain ⟨C, _, hc⟩ := hM2.pg; have := lt_of_heap hc; omega) (getD_ok (by decide)) (by simp [maxLen])).mono ?_; rintro e w3 ⟨rfl, hM3, hu3⟩; rw [bk_poke, errI_yes]; have hS : ∀ x, x ∈ [pb] → x ∈ ([] : List Nat) ∨ w.heap.size ≤ x := (by intro x hx; simp only [List.mem_singleton] at hx; omega); have U3 := Lib.hid (((hu1.also hu2 hS).alloc (.cells #[.int .u8 64, .int .u8 235, .int .u8 254, .int .u8 64] 5)).also hu3 hS); clear hM2 hu1 hu2 hu3 hS) | (have _t := hM3; clear _t; go_at_call 8; refine (Find_any bkMem a pb 0 _ hM3 (by decide)).mono ?_; rintro e w4 ⟨v, g, rfl, hI, hg, hu4⟩; have k4 := BkS.mk (g := g) (v := v) (hM3.keep hu4 (by simp) (by simp)) hI (U3.out.also hu4 (by simp)); obtain ⟨sb, sc, rfl⟩ := hI.form; rw [bk_len] at k4; have K4 := Lib.hid k4; clear k4; rw [bk_fyes, bk_yes, bk_len]; simp only [Flt.val, Flt.zero]; clear hM3 U3 hu4 hI) | (have _t := K4; clear _t; go_at_call 8; refine (Find_any bkMem a pb 300 _ (K4.out.m.keep ((Upd.refl [] w4).alloc _) (by simp) (by simp)) (by decide)).mono ?_; rintro e w5 ⟨v2, g2, rfl, hI2, _, hu5⟩; rw [HNO.out, bk_no.1]; simp only [Flt.val]; have K5 := Lib.hid (K4.out.step (((Upd.refl [] w4).alloc _).also hu5 (by simp))); clear hu5 hI2 K4) | (have _t := K5; clear _t; go_at_call 10; refine (Places_any 0 _ (findL bkMem 0) g _ (K5.out.s.keep ((Upd.refl [] w5).alloc _) (by simp)) (by rw [bk_len]; decide)).mono ?_; rintro e w6 ⟨v6, rfl, ho6, hu6⟩; obtain ⟨g6, p6, C6, rfl, hg6, hc6⟩ := pl_form ho6; have F6 := Lib.hid (hu6.get (heap_alloc_new w5 (.cells #[.int .i64 nk, .int .u32 300, .int .u32 300, .int .i64 nt] 32)) (by simp)); have G6 := Lib.hid hg6; have K6 := Lib.hid (K5.out.step (((Upd.refl [] w5).alloc _).also hu6 (by simp))); clear hu6 ho6 hg6 K5) | (have _t := K6; clear _t; go_at_call 9; refine (Size_any _ (findL bkMem 0) g _ K6.out.s (by rw [bk_len]; decide)).mono ?_; rintro e w7 ⟨rfl, hu7⟩; rw [bk_len, bk_size]; have K7 := Lib.hid (K6.out.step hu7); have F7 := Lib.hid (hu7.get F6.out (by simp)); have G7 := Lib.hid (hu7.get G6.out (by simp)); clear hu7 K6 F6 G6) | (have _t := K7; clear _t; go_at_call 11; refine (Bytes_any bkMem a pb 0 _ (findL bkMem 0) g _ K7.out.m (by decide) K7.out.s (by rw [bk_len]; decide)).mono ?_; rintro e w8 ⟨rfl, hu8⟩; rw [bk_len, bk_size, bk_peek]; have K8 := Lib.hid (K7.out.step hu8); have F8 := Lib.hid (hu8.get F7.out (by simp)); have c8 := cells_of F8.out; have c9 : w8.cell? ⟨g6, 1, none⟩ = some (.int .u32 1) := (by rw [cells_of (hu8.get G7.out (by simp))]; exact hc6); clear hu8 K7 F7 G7))
  go_ret
  exact ⟨rfl, K8.out.u⟩
end Go.Proofs.Yteiplidhkelkbaa

/-
  The law BlockEdges: its walk. No condition.
-/
namespace Go.Proofs.Yteiplidhkelkbaa
open Go Go.RowKit
set_option linter.unusedVariables false
set_option linter.unusedSimpArgs false

/-- Along the loop that lays the bytes. -/
structure BeS (w : World) (a pb base : Nat) (r : Value) (L : List Int) (w1 : World) : Prop where
  m : IsMem w1 a pb beMap
  o : Own w1 base r L
  l : a < base ∧ pb < base ∧ base ≤ w1.heap.size
  u : Upd [] w w1
  q : w.heap.size ≤ pb
theorem BeS.grow {w w1 w2 : World} {a pb base : Nat} {r v : Value} {L N : List Int} {O : Obj} (h : BeS w a pb base r L w1) (g : Grew (w1.alloc O) base r N v w2) : BeS w a pb base v N w2 := by
  have ua : Upd r.ownBlock.toList w1 w2 := ((Upd.refl [] w1).alloc O).trans g.u (by simp) (fun z hz => .inl hz)
  have hne : ∀ z, z ∈ r.ownBlock.toList → base ≤ z := fun z hz => (h.o.block z (by simpa using hz)).1
  exact ⟨h.m.keep ua (fun hz => by have := hne _ hz; have := h.l; omega) (fun hz => by have := hne _ hz; have := h.l; omega), g.o, ⟨h.l.1, h.l.2.1, Nat.le_trans h.l.2.2 ua.size⟩, h.u.also ua (fun z hz => by have := hne _ hz; have := h.l; have := h.q; omega), h.q⟩

theorem be_arg {w w1 : World} {a pb base j : Nat} {r : Value} (h : BeS w a pb base r (beB j) w1) : ∃ g, BySl w1 r (beB j) g ∧ g ≠ pb := by
  obtain ⟨g, hb⟩ := own_bysl h.o
  rcases hb with ⟨h1, h2⟩ | ⟨o, c, C, T, f, h1, hr⟩
  · simp [beB] at h2
  · refine ⟨g, .inr ⟨o, c, C, T, f, h1, hr⟩, ?_⟩
    have := h.o.block g (by rw [h1]; rfl)
    have := h.l
    omega
theorem be_zero : ∀ j : Nat, j < 1 → (findL (beMem j) (253 - j)).length = 1 ∧ sizeN (findL (beMem j) (253 - j)) 1 = 5 ∧ ((findL (beMem j) (253 - j)).getD 0 Ins.zero).op = 1 := by decide +kernel
theorem be_some {w : World} {L : List Ins} {g c : Nat} {sb : Option Addr} (h : ISl w (.slice sb 1 c) L g) (hl : L.length = 1) : ∃ o, sb = some ⟨g, o, none⟩ := by
  rcases h with ⟨h1, h2⟩ | ⟨o, _, _, _, h1, _⟩
  · rw [h2] at hl; simp at hl
  · injection h1 with h1; exact ⟨o, h1⟩
theorem be_cell {w : World} {L : List Ins} {g o c : Nat} (h : ISl w (.slice (some ⟨g, o, none⟩) 1 c) L g) (hl : L.length = 1) (hop : (L.getD 0 Ins.zero).op = 1) : w.cell? ⟨g, o, none⟩ = some (.int .i64 1) := by
  obtain ⟨x, hx⟩ : ∃ x, L[0]? = some x := ⟨L[0]'(by omega), List.getElem?_eq_getElem (by omega)⟩
  rw [List.getD_eq_getElem?_getD, hx] at hop
  have hop : x.op = 1 := hop
  have := h.at hx 0 (.int .i64 x.op) rfl
  rw [hop] at this
  simpa using this
theorem be_fyes (j : Nat) (h : j < 8) : findF (beMem j) (253 - j) = Flt.zero := by
  unfold findF
  exact if_pos (be_ok j h)
theorem be_bytes : ∀ j : Nat, j < 8 → (beB j).all (fun x => decide (0 ≤ x) && decide (x ≤ 255)) = true := by decide +kernel

set_option maxRecDepth 100000 in
set_option maxHeartbeats 4000000 in
theorem BlockEdges_walk (n : Int) (w : World) (h0 : 0 ≤ n ∧ n ≤ 255) : Calls Try.prog 3 #[.int .u8 n] w fun e w' => e = .returned (.bool true) ∧ Upd [] w w' := by
  obtain ⟨k, hk, hk8⟩ : ∃ k : Nat, n % 8 = k ∧ k < 8 := ⟨(n % 8).toNat, by omega, by omega⟩
  have hnt : n.tmod 8 = n % 8 := Int.tmod_eq_emod_of_nonneg h0.1
  go_enter Try.func3, Try.ntmps3
  have tok : True := trivial
  go_wp2_with (first | (have _t := tok; clear _t; go_at_call 4; refine (known16_any _).mono ?_; rintro e w0 ⟨rfl, hu0⟩; clear tok) | (have _t := hu0; clear _t; go_at_call 5; refine (New_any _).mono ?_; rintro e w1 ⟨a, pb, rfl, ha, hp, hM1, hu1⟩; have U1 := Lib.hid (hu0.also hu1 (by simp)); have pU := Nat.le_trans hu0.size hp; clear hu0 hu1) | (have _t := hM1; clear _t; go_at_call 6; refine (Map_any Mem.zero a pb 0 2 5 _ hM1 (by decide)).mono ?_; rintro e w2 ⟨rfl, hM2, hu2⟩; rw [be_map, errI_yes]; clear hM1))
  have hS : BeS w a pb w2.heap.size (.slice none 0 0) [] w2 := by
    refine ⟨hM2, own_nil _ _, ⟨?_, ?_, Nat.le_refl _⟩, U1.out.also hu2 (by simp; omega), pU⟩
    · obtain ⟨c, _, hc⟩ := hM2.hd; exact lt_of_heap hc
    · obtain ⟨C, _, hc⟩ := hM2.pg; exact lt_of_heap hc
  have HS := Lib.hid hS
  clear hS hM2 hu2 U1
  go_loopw [6, 7] (fun r i wr => ∃ j : Nat, j ≤ k ∧ i = .int .u32 j ∧ BeS w a pb w2.heap.size r (List.replicate j 144) wr) (fun _ i _ => k - (intOf i).toNat)
  case atStart => exact ⟨0, Nat.zero_le _, rfl, HS.out⟩
  case round =>
    obtain ⟨j, hj, rfl, hb⟩ := hrel
    have HB := Lib.hid hb
    clear hb HS
    by_cases hlt : j < k
    · have d1 : decide ((j : Int) < k) = true := by simp; omega
      go_wp2_with (have _t := HB; clear _t; at_builtin; refine wpList_append_by rfl _ _ rfl w2.heap.size _ (List.replicate j 144) rfl (HB.out.o.keep ((Upd.refl [] wr).alloc _) (by simp)) (.slice (some ⟨wr.heap.size, 0, none⟩) 1 1) [144] wr.heap.size rfl (byl_lit wr [144] #[.int .u8 144] _ rfl) (by simp; omega) (by have := HB.out.l; simp; omega) ?_; intro v' w3 hg; have H3 := Lib.hid (HB.out.grow hg); clear hg HB)
      go_roundw
      case rel => exact ⟨j + 1, by omega, by go_num, by rw [List.replicate_succ']; exact H3.out⟩
      case measure => simp [intOf]; omega
    · obtain rfl : j = k := by omega
      have d1 : decide ((j : Int) < j) = false := by simp
      rcases Nat.eq_zero_or_pos j with hj0 | hj1
      · obtain ⟨hlen, hsize, hop⟩ := be_zero j (by omega)
        have HOP := Lib.hid hop
        clear hop
        have d3 : ((j : Int) == 0) = true := by simp; omega
        clear hj0
        go_wp2_with (first | (have _t := HB; clear _t; at_builtin; refine wpList_append_by rfl _ _ rfl w2.heap.size _ (List.replicate j 144) rfl (HB.out.o.keep ((Upd.refl [] wr).alloc _) (by simp)) (.slice (some ⟨wr.heap.size, 0, none⟩) 6 6) [184, 1, 2, 3, 4, 195] wr.heap.size rfl (byl_lit wr [184, 1, 2, 3, 4, 195] #[.int .u8 184, .int .u8 1, .int .u8 2, .int .u8 3, .int .u8 4, .int .u8 195] _ rfl) (by simp; omega) (by have := HB.out.l; simp; omega) ?_; intro v' w3 hg; have H3 := Lib.hid (HB.out.grow hg); clear hg HB) | (have _t := H3; clear _t; go_at_call 7; obtain ⟨g, hv, hgp⟩ := be_arg (j := j) (w := w) (w1 := w3) ⟨H3.out.m, H3.out.o, H3.out.l, H3.out.u, H3.out.q⟩; refine (Poke_any beMap a pb (253 - j) _ (beB j) g _ H3.out.m (by omega) (by omega) hv hgp (getD_ok (be_bytes j hk8)) (by simp [beB, maxLen]; omega)).mono ?_; rintro e w4 ⟨rfl, hM4, hu4⟩; rw [be_poke j hk8, errI_yes]; have U4 := Lib.hid (H3.out.u.also hu4 (by have := H3.out.q; simp; omega)); clear H3 hu4 hv) | (have _t := hM4; clear _t; go_at_call 8; refine (Find_any (beMem j) a pb (253 - j) _ hM4 (by omega)).mono ?_; rintro e w5 ⟨v5, g5, rfl, hI, _, hu5⟩; rw [be_fyes j hk8, be_ok j hk8]; simp only [Flt.val, Flt.zero]; obtain ⟨sb, sc, rfl⟩ := hI.form; rw [hlen] at hI; rw [hlen]; obtain ⟨o5, rfl⟩ := be_some hI hlen; have c5 := fun O => be_cell (hI.keep ((Upd.refl [] w5).alloc O) (by simp)) hlen HOP.out; have HI5 := Lib.hid hI; have U5 := Lib.hid (U4.out.also hu5 (by simp)); clear hM4 hu5 hI U4) | (have _t := HI5; clear _t; go_at_call 9; refine (Size_any _ (findL (beMem j) (253 - j)) g5 _ (HI5.out.keep ((Upd.refl [] w5).alloc _) (by simp)) (by rw [hlen]; omega)).mono ?_; rintro e w6 ⟨rfl, hu6⟩; rw [hlen, hsize]; have U6 := Lib.hid ((U5.out.alloc _).also hu6 (by simp)); clear HI5 hu6 U5))
        go_ret
        exact ⟨rfl, U6.out⟩
      · obtain ⟨hlen, hsize⟩ := be_len j hk8 hj1
        have d3 : ((j : Int) == 0) = false := by simp; omega
        go_wp2_with (first | (have _t := HB; clear _t; at_builtin; refine wpList_append_by rfl _ _ rfl w2.heap.size _ (List.replicate j 144) rfl (HB.out.o.keep ((Upd.refl [] wr).alloc _) (by simp)) (.slice (some ⟨wr.heap.size, 0, none⟩) 6 6) [184, 1, 2, 3, 4, 195] wr.heap.size rfl (byl_lit wr [184, 1, 2, 3, 4, 195] #[.int .u8 184, .int .u8 1, .int .u8 2, .int .u8 3, .int .u8 4, .int .u8 195] _ rfl) (by simp; omega) (by have := HB.out.l; simp; omega) ?_; intro v' w3 hg; have H3 := Lib.hid (HB.out.grow hg); clear hg HB) | (have _t := H3; clear _t; go_at_call 7; obtain ⟨g, hv, hgp⟩ := be_arg (j := j) (w := w) (w1 := w3) ⟨H3.out.m, H3.out.o, H3.out.l, H3.out.u, H3.out.q⟩; refine (Poke_any beMap a pb (253 - j) _ (beB j) g _ H3.out.m (by omega) (by omega) hv hgp (getD_ok (be_bytes j hk8)) (by simp [beB, maxLen]; omega)).mono ?_; rintro e w4 ⟨rfl, hM4, hu4⟩; rw [be_poke j hk8, errI_yes]; have U4 := Lib.hid (H3.out.u.also hu4 (by have := H3.out.q; simp; omega)); clear H3 hu4 hv) | (have _t := hM4; clear _t; go_at_call 8; refine (Find_any (beMem j) a pb (253 - j) _ hM4 (by omega)).mono ?_; rintro e w5 ⟨v5, g5, rfl, hI, _, hu5⟩; rw [be_fyes j hk8, be_ok j hk8]; simp only [Flt.val, Flt.zero]; obtain ⟨sb, sc, rfl⟩ := hI.form; rw [hlen] at hI; rw [hlen]; have HI5 := Lib.hid hI; have U5 := Lib.hid (U4.out.also hu5 (by simp)); clear hM4 hu5 hI U4) | (have _t := HI5; clear _t; go_at_call 9; refine (Size_any _ (findL (beMem j) (253 - j)) g5 _ (HI5.out.keep ((Upd.refl [] w5).alloc _) (by simp)) (by rw [hlen]; omega)).mono ?_; rintro e w6 ⟨rfl, hu6⟩; rw [hlen, hsize]; have U6 := Lib.hid ((U5.out.alloc _).also hu6 (by simp)); clear HI5 hu6 U5))
        go_ret
        exact ⟨rfl, U6.out⟩
end Go.Proofs.Yteiplidhkelkbaa
