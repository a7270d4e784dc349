/-
  Parts of the proof (their names shortened by a program). No condition.
-/
import Derived.Test.YteiplidhkelkbaaGreatMg01
import Derived.Test.YteiplidhkelkbaaGreatMg29
import Derived.Test.YteiplidhkelkbaaGreatMg03
import Derived.Test.YteiplidhkelkbaaGreatMg28
import Derived.ChangeSlices
import Derived.Test.YteiplidhkelkbaaGreatMg27
import Derived.Test.YteiplidhkelkbaaGreatMg04
import Derived.Test.YteiplidhkelkbaaGreatMg06
namespace Go.Proofs.YteiplidhkelkbaaGreat
open Go Go.RowKit
set_option linter.unusedVariables false
set_option linter.unusedSimpArgs false
set_option maxRecDepth 100000
set_option maxHeartbeats 16000000
theorem Yl2 (l : List Ins) (n : Nat) : 0 ≤ Ycq l n ∧ Ycq l n < 4294967296 := by
 cases n with
 |zero => simp [Ycq]
 |succ n => unfold Ycq; omega
theorem Yt6 (M : Mem) (a pb : Nat) (pc : Int) (v : Value) (l : List Ins) (g : Nat) (w : World) (hM : Yan w a pb M) (h0 : 0 ≤ pc ∧ pc < 4294967296) (hv : ISl w v l g) (hn : l.length ≤ 100) :
  Calls Tryz.prog 13 #[.pointer (some ⟨a, 0, none⟩), .int .u32 pc, v] w fun e w' => e = .returned (.string (strOfNums (M.peek pc (Ycq l l.length)))) ∧ Upd [] w w' := by
 have hb := Yl2 l l.length
 obtain ⟨z, hz⟩ : ∃ z, Ycq l l.length = z := ⟨_, rfl⟩
 rw [hz] at hb
 have HM := Yh_ (And.intro hM (And.intro h0 (And.intro hv (And.intro hn hz))))
 rw [hz]
 have tok : True := trivial
 obtain ⟨b, c, rfl⟩ := hv.form
 clear hM h0 hv hn hz
 go_enter Tryz.func13, Tryz.ntmps13
 go_wp2_with (first | (have _t := tok; clear _t; go_at_call 12; refine (Yef _ l g _ HM.out.2.2.1 HM.out.2.2.2.1).mono ?_; rintro e w1 ⟨rfl, hu⟩; rw [HM.out.2.2.2.2]; have U1 := Yh_ hu; clear hu tok) | (have _t := U1; clear _t; go_at_call 25; refine (Peek_any M a pb pc z _ (HM.out.1.keep U1.out (by simp) (by simp)) HM.out.2.1.1 HM.out.2.1.2 (by omega) (by omega)).mono ?_; rintro e w2 ⟨v2, rfl, hown, hu⟩; have hcv := Ysh hown; have U2 := Yh_ (U1.out.also hu (by simp)); clear hu U1 hown))
 go_ret
 exact ⟨rfl, U2.out⟩
def Yhw (pc : Int) (l : List Ins) : Nat → Int
 |0 => pc
 |k + 1 => (Yhw pc l k + (l.getD k Ins.zero).len % 4294967296) % 4294967296
def Ygq (pc : Int) (l : List Ins) (k : Nat) : List Value := (List.range k).map fun j => .int .u32 (Yhw pc l j)
theorem Yom (pc : Int) (l : List Ins) (k : Nat) : Ygq pc l (k + 1) = Ygq pc l k ++ [.int .u32 (Yhw pc l k)] := by simp [Ygq, List.range_succ]
theorem info_u32 : (Tryz.prog.info? 23).map (fun i => (i.zero, i.size, i.bytes)) = some (some (.int .u32 0), 1, 4) := by kernel_rfl
structure PcS (w : World) (r : Value) (n : Nat) (xs : List Value) (x : Ins) (b : Nat) (w1 : World) : Prop where
 o : w1.ownsRow w.heap.size 23 1 r n xs
 h : w1.heap[b]? = some (.cells x.cells 42 (0, 0))
 u : Upd [] w w1
 l : w.heap.size ≤ b
 q : ∀ z, r.ownBlock = some z → z ≠ b
theorem pcStart {w wr w3 : World} {r : Value} {n : Nat} {xs : List Value} {x : Ins} (hu : Upd [] w wr) (ho : wr.ownsRow w.heap.size 23 1 r n xs) (h : w3.heap[wr.heap.size]? = some (.cells x.cells 42 (0, 0))) (u : Upd [] wr w3) : PcS w r n xs x wr.heap.size w3 := by
 refine ⟨ho.kept (row := none) ⟨u.os, u.tape, u.output, u.size, fun k hk _ => u.block k hk (by simp)⟩ ?_, h, hu.also u (by simp), hu.size, fun z hz e => ?_⟩
 ·cases r.ownBlock <;> simp
 ·have := (ho.lt z hz).2
  omega
theorem PcS.grow {w w3 w4 : World} {r v : Value} {n m b : Nat} {xs ys : List Value} {x : Ins} {t : TypeId} {y : Value} (h : PcS w r n xs x b w3) (ho : w4.ownsRow w.heap.size 23 1 v m ys) (hg : (w3.alloc (.cells #[y] t)).grownBy w4 r.ownBlock) : w4.ownsRow w.heap.size 23 1 v m ys ∧ w4.heap[b]? = some (.cells x.cells 42 (0, 0)) ∧ Upd [] w w4 := by
 have ua := (Upd.refl [] w3).alloc (.cells #[y] t)
 have uu : Upd r.ownBlock.toList w3 w4 := ua.trans (Upd.of_grown hg) (by simp) (fun z hz => .inl hz)
 have hne : ∀ z, z ∈ r.ownBlock.toList → w.heap.size ≤ z := fun z hz => (h.o.lt z (by simpa using hz)).1
 exact ⟨ho, uu.get h.h (fun hb => h.q b (by simpa using hb) rfl), h.u.new uu hne⟩
theorem Ysm (pc : Int) (v : Value) (l : List Ins) (g : Nat) (w : World) (hv : ISl w v l g) (hn : l.length ≤ 100) :
  Calls Tryz.prog 11 #[.int .u32 pc, v] w fun e w' => ∃ v', e = .returned v' ∧ w'.ownsRow w.heap.size 23 1 v' l.length (Ygq pc l l.length) ∧ Upd [] w w' := by
 obtain ⟨b, c, rfl⟩ := hv.form
 obtain ⟨i0, hi, hz0, hz1, hz2⟩ := info_parts info_u32
 have HI := Yh_ (And.intro hi (And.intro hz0 (And.intro hz1 hz2)))
 have HV := Yh_ hv
 clear hv hi hz0 hz1 hz2
 go_enter Tryz.func11, Tryz.ntmps11
 go_wp2_with fail
 go_loopw [0, 5, 10] (fun t r i wr => ∃ k : Nat, k ≤ l.length ∧ t = .int .u32 (Yhw pc l k) ∧ i = .int .i64 k ∧ wr.ownsRow w.heap.size 23 1 r k (Ygq pc l k) ∧ Upd [] w wr) (fun _ _ i _ => l.length - (intOf i).toNat)
 case atStart => exact ⟨0, Nat.zero_le _, rfl, rfl, World.ownsRow_nil _ _ _ _, Upd.refl _ _⟩
 case round =>
  obtain ⟨k, hk, rfl, rfl, ho, hu⟩ := hrel
  have HU := Yh_ hu
  have HO := Yh_ ho
  clear hu ho
  by_cases hlt : k < l.length
  ·have d1 : decide ((k : Int) < l.length) = true := by simp; omega
   obtain ⟨x, hx⟩ : ∃ x, l[k]? = some x := ⟨l[k], List.getElem?_eq_getElem hlt⟩
   obtain ⟨o, rfl⟩ : ∃ o, b = some ⟨g, o, none⟩ := by
    rcases HV.out with ⟨h1, h2⟩ | ⟨o, _, _, _, h1, _⟩
    ·rw [h2] at hlt; simp at hlt
    ·injection h1 with h1; exact ⟨o, h1⟩
   have HR := Yh_ ((HV.out.keep HU.out (by simp)).at hx)
   have HX := Yh_ hx
   clear hx
   have tok : True := trivial
   go_wp2_with (first | (refine Yb9 42 rfl ?_; refine Ydo rfl 42 _ rfl g (o + k * 16) rfl x.cells _ HR.out Tryz.underlying42 rfl (by rw [Ins.size]; exact Yer) ?_) | (have _t := tok; clear _t; refine Ye 42 rfl ?_; refine Yb x wr.heap.size rfl _ _ rfl rfl rfl (heap_alloc_new wr (.cells Ins.zero.cells 42)) rfl ?_; intro w3 hw; have h3 := Yau (S := []) (w0 := wr) hw (heap_alloc_new wr (.cells Ins.zero.cells 42)) rfl ((Upd.refl [] wr).alloc _) (.inr (Nat.le_refl _)); have P3 := Yh_ (pcStart HU.out HO.out h3.1 h3.2); have c3 := Ya h3.1 15; rw [show (x.cells)[15]? = some (.int .i64 x.len) from rfl] at c3; clear hw h3 tok) | (have _t := P3; clear _t; at_builtin; refine wpList_append_own _ rfl _ _ 37 rfl w.heap.size 23 i0 (.int .u32 0) 1 4 Tryz.underlying37 HI.out.1 HI.out.2.1 HI.out.2.2.1 HI.out.2.2.2 rfl (by decide) _ k _ rfl (P3.out.o.alloc _) ⟨w3.heap.size, 0, none⟩ 1 1 [.int .u32 (Yhw pc l k)] rfl rfl (Ylm _ _ _) (Yij _ _) (by unfold maxLen; omega) (by omega) (by have := P3.out.u.size; simp; omega) ?_; intro v' w4 hv' hg _; have P4 := Yh_ (P3.out.grow hv' hg); have c4 := Ya P4.out.2.1 15; rw [show (x.cells)[15]? = some (.int .i64 x.len) from rfl] at c4; clear hv' hg P3 c3))
   go_roundw
   case rel => exact ⟨k + 1, by omega, by rw [Yhw, List.getD_eq_getElem?_getD, HX.out]; first | rfl | go_num, by go_num, by rw [Yom]; exact P4.out.1, P4.out.2.2⟩
   case measure => simp [intOf]; omega
  ·obtain rfl : k = l.length := by omega
   have d1 : decide ((l.length : Int) < l.length) = false := by simp
   go_wp2_with fail
   go_ret
   exact ⟨_, rfl, HO.out, HU.out⟩
section
open Go.WideShapes Go.ChangeShapes
def Yoa : Option Value → Int
 |some (.int _ z) => z
 |_ => 0
def strOfV : Option Value → ByteArray
 |some (.string s) => s
 |_ => ByteArray.empty
def Yed (w : World) (g o : Nat) : Ycf := ⟨Yoa (w.cell? ⟨g, o, none⟩), Yoa (w.cell? ⟨g, o + 1, none⟩), Yoa (w.cell? ⟨g, o + 2, none⟩), strOfV (w.cell? ⟨g, o + 3, none⟩)⟩
structure Ycf.Ok (s : Ycf) : Prop where
 pg : -9223372036854775808 ≤ s.pg ∧ s.pg ≤ 9223372036854775807
 ct : -9223372036854775808 ≤ s.ct ∧ s.ct ≤ 9223372036854775807
 rt : -9223372036854775808 ≤ s.rt ∧ s.rt ≤ 9223372036854775807
 by_ : s.by_.size ≤ maxLen
theorem Ynw {z : Int} (h : (Lit.int .i64 z).wf = true) : -9223372036854775808 ≤ z ∧ z ≤ 9223372036854775807 := by
 simp only [Lit.wf, Bool.and_eq_true, decide_eq_true_eq] at h
 have h1 : IntKind.i64.min = -9223372036854775808 := by decide
 have h2 : IntKind.i64.max = 9223372036854775807 := by decide
 omega
theorem Yse {H : Type} {enc : TypeId × Value → H} {w : World} {base : Nat} {spare : Nat → Bool} {held : Bool} {n : Nat} {g o : Nat} {y : DataW H × List MemPlace}
  (h : (w.cells? base ⟨g, o, none⟩ (Tryz.prog.cellsOf 62)).bind (DataW.trod enc Tryz.prog w base spare held n 62) = some y) :
  w.cell? ⟨g, o, none⟩ = some (.int .i64 (Yed w g o).pg) ∧ w.cell? ⟨g, o + 1, none⟩ = some (.int .i64 (Yed w g o).ct) ∧ w.cell? ⟨g, o + 2, none⟩ = some (.int .i64 (Yed w g o).rt) ∧ w.cell? ⟨g, o + 3, none⟩ = some (.string (Yed w g o).by_) ∧ (Yed w g o).Ok ∧ g < w.heap.size := by
 rw [show Tryz.prog.cellsOf 62 = 4 by kernel_rfl, Option.bind_eq_some_iff] at h
 obtain ⟨cs, hcs, hy⟩ := h
 have hb := World.cells?_block hcs (by decide)
 obtain ⟨_, hl, hc⟩ := World.cells?_some hcs
 have c : ∀ j, j < 4 → ∀ lf, Yjq Tryz.prog 8 62 j = some lf → ∃ x, w.cell? ⟨g, o + j, none⟩ = some x ∧ LeafOk lf x := by
  intro j hj lf hlf
  obtain ⟨x, hx, hok⟩ := Yji 8 _ _ _ _ j lf hy hlf
  refine ⟨x, ?_, hok⟩
  have := hc j hj
  rw [Addr.add_lit] at this
  rw [this, hx]
 obtain ⟨x0, h0, z0, rfl, w0⟩ := c 0 (by decide) (.int .i64) (by kernel_rfl)
 obtain ⟨x1, h1, z1, rfl, w1⟩ := c 1 (by decide) (.int .i64) (by kernel_rfl)
 obtain ⟨x2, h2, z2, rfl, w2⟩ := c 2 (by decide) (.int .i64) (by kernel_rfl)
 obtain ⟨x3, h3, s, rfl, w3⟩ := c 3 (by decide) .string (by kernel_rfl)
 have e : Yed w g o = ⟨z0, z1, z2, s⟩ := by
  have h0' : w.cell? ⟨g, o, none⟩ = _ := h0
  simp only [Yed, h0', h1, h2, h3]
  rfl
 rw [e]
 exact ⟨h0, h1, h2, h3, ⟨Ynw w0, Ynw w1, Ynw w2, w3⟩, hb⟩
structure Ygu (w : World) (v : Value) (L : List Ycf) (g : Nat) : Prop where
 sp : Yht w v L g
 ok : ∀ s ∈ L, s.Ok
 len : L.length ≤ maxLen
 lt : g ≤ w.heap.size
 form : ∀ b n c, v = .slice b n c → n = L.length
theorem Ygu.keep {w w' : World} {v : Value} {L : List Ycf} {g : Nat} (h : Ygu w v L g) (u : Upd [] w w') : Ygu w' v L g :=
 ⟨h.sp.keep u (by simp), h.ok, h.len, Nat.le_trans h.lt u.size, h.form⟩
theorem Ynx {H : Type} {enc : TypeId × Value → H} {w : World} {t : TypeId} (ht : Tryz.prog.underlying t = some (.slice 62)) {base b0 fuel : Nat} {spare : Nat → Bool} {held : Bool} {r : Reach} {v : Value} {x : DataW H × List MemPlace}
  (hval : Value.okWide Tryz.prog w r b0 t v) (hf : DataW.trod enc Tryz.prog w base spare held fuel t v.cells.toList = some x) : ∃ L g, Ygu w v L g := by
 obtain ⟨a1, len, cap, rfl⟩ := okWide_slice ht hval
 rcases DataW.trod_slice ht hf with ⟨hcs, hx⟩ | ⟨a, len', cap', elems, rest, n, _, hcs, _, _, hl, hm, hel, he, _, _⟩
 ·simp [Value.cells] at hcs
  obtain ⟨rfl, rfl, rfl⟩ := hcs
  exact ⟨[], 0, .inl ⟨_, _, rfl, rfl⟩, by simp, by simp, Nat.zero_le _, fun b n c e => by injection e with _ e _; exact e.symm⟩
 ·simp [Value.cells] at hcs
  obtain ⟨rfl, rfl, rfl⟩ := hcs
  simp only [Value.okWide, ht, Cell.okWide, Cell.ok, World.has] at hval
  obtain ⟨_, _, _, hsp, row, cells, hsh, _⟩ := hval
  obtain ⟨ab, ao, spot⟩ := a
  simp only at hsp
  subst hsp
  have hlt : ab < w.heap.size := by
   unfold World.shape? at hsh
   split at hsh
   ·rename_i c e f hh
    exact Yv hh
   ·cases hsh
  have hc4 : Tryz.prog.cellsOf 62 = 4 := by kernel_rfl
  have each : ∀ i, i < len → w.cell? ⟨ab, ao + i * 4, none⟩ = some (.int .i64 (Yed w ab (ao + i * 4)).pg) ∧ w.cell? ⟨ab, ao + i * 4 + 1, none⟩ = some (.int .i64 (Yed w ab (ao + i * 4)).ct) ∧ w.cell? ⟨ab, ao + i * 4 + 2, none⟩ = some (.int .i64 (Yed w ab (ao + i * 4)).rt) ∧ w.cell? ⟨ab, ao + i * 4 + 3, none⟩ = some (.string (Yed w ab (ao + i * 4)).by_) ∧ (Yed w ab (ao + i * 4)).Ok ∧ ab < w.heap.size := fun i hi => by
   have h := he i hi
   obtain ⟨y, hy⟩ : ∃ y, elems[i]? = some y := ⟨_, List.getElem?_eq_getElem (by omega)⟩
   rw [hy, Addr.add_lit] at h
   have h2 := Yse h
   rw [hc4] at h2
   exact h2
  have hl2 : ((List.range len).map fun i => Yed w ab (ao + i * 4)).length = len := by simp
  refine ⟨(List.range len).map fun i => Yed w ab (ao + i * 4), ab, .inr ⟨ao, cap, by rw [hl2], hlt, by rw [hl2]; unfold maxLen at hm; omega, fun i s hs => ?_⟩, fun s hs => ?_, by rw [hl2]; omega, Nat.le_of_lt hlt, fun b n c e => by injection e with _ e _; rw [hl2]; exact e.symm⟩
  ·have hi : i < len := by
    have := (List.getElem?_eq_some_iff.1 hs).1
    rwa [hl2] at this
   rw [List.getElem?_map, List.getElem?_range hi] at hs
   simp only [Option.map_some, Option.some.injEq] at hs
   subst hs
   have h := each i hi
   exact ⟨h.1, h.2.1, h.2.2.1, h.2.2.2.1⟩
  ·obtain ⟨i, hi, rfl⟩ := List.mem_map.1 hs
   have h := each i (List.mem_range.1 hi)
   exact h.2.2.2.2.1
theorem Ys6 {H : Type} {enc : TypeId × Value → H} {w : World} {t : TypeId} (ht : Tryz.prog.underlying t = some (.slice 62)) {b0 : Nat} {v : Value} {d : DataW H} {p : List MemPlace}
  (hval : Value.okWide Tryz.prog w .any b0 t v) (h : DataW.Trod enc Tryz.prog w 0 (fun _ => true) true t v d p) : ∃ L g, Ygu w v L g := by
 obtain ⟨fuel, hf⟩ := h
 exact Ynx ht hval hf
end
theorem Ybh.drew {w : World} {r : Nat} {M : Mem} (h : Ybh w r M) : Ybh w.drew r M := ⟨h.ex, h.ok⟩
structure Rep (v : Value) (l : List Value) (n : Nat) : Prop where
 eq : l = List.replicate n v
theorem Rep.append {v : Value} {l m : List Value} {a b : Nat} (h : Rep v l a) (k : Rep v m b) : Rep v (l.append m) (a + b) :=
 ⟨by rw [h.eq, k.eq]; exact List.replicate_append_replicate⟩
structure Rep2 (v u : Value) (l : List Value) (n m : Nat) : Prop where
 eq : l = List.replicate n v ++ List.replicate m u
theorem Rep2.append {v u : Value} {l l' : List Value} {n m m' : Nat} (h : Rep2 v u l n m) (k : Rep u l' m') : Rep2 v u (l.append l') n (m + m') :=
 ⟨by rw [h.eq, k.eq]; show (List.replicate n v ++ List.replicate m u) ++ List.replicate m' u = _; rw [List.append_assoc, List.replicate_append_replicate]⟩
theorem Rep.leaf {v : Value} {l : List Value} (h : l = List.replicate l.length v) : Rep v l l.length := ⟨h⟩
theorem Rep2.leaf {v u : Value} {l : List Value} (h : l = List.replicate l.length v) : Rep2 v u l l.length 0 := ⟨by rw [List.replicate_zero, List.append_nil]; exact h⟩
theorem Yln : ∃ l n m, Tryz.t58.zero = some (.agg l.toArray) ∧ Rep2 (.int .i64 0) (.int .u8 0) l n m ∧ n = 64 ∧ m = 16384 := by
 apply Exists.intro
 apply Exists.intro
 apply Exists.intro
 apply And.intro
 ·unfold Tryz.t58; exact rfl
 apply And.intro
 ·repeat (first | (with_reducible apply Rep2.append) | (with_reducible apply Rep.append) | exact Rep.leaf (by kernel_rfl) | exact Rep2.leaf (by kernel_rfl))
 ·exact ⟨by kernel_rfl, by kernel_rfl⟩
theorem zero_ref : ∃ Z : Array Value, Tryz.t58.zero = some (.agg Z) ∧ Yhy Z Mem.zero := by
 obtain ⟨l, n, m, h, k, hn, hm⟩ := Yln
 have hk := k.eq
 clear k
 refine ⟨l.toArray, h, ?_, fun i hi => ?_⟩
 ·clear h
  rw [List.size_toArray, hk, List.length_append, List.length_replicate, List.length_replicate, hn, hm]
 ·clear h
  rw [hk, List.getElem?_toArray]
  by_cases h64 : i < 64
  ·rw [List.getElem?_append_left (by rw [List.length_replicate]; omega), List.getElem?_replicate, if_pos (by omega), Mem.rat, if_pos h64]
   rfl
  ·rw [List.getElem?_append_right (by rw [List.length_replicate]; omega), List.length_replicate, List.getElem?_replicate, if_pos (by omega), Mem.rat, if_neg h64]
   rfl
theorem info_ref : Tryz.prog.info? 58 = some Tryz.t58 := by kernel_rfl
theorem Yjd : ∃ Z : Array Value, Yhy Z Mem.zero ∧ ∀ w, (Instr.build 58 #[]).run Tryz.prog w = .ok (.agg Z) w := by
 obtain ⟨Z, hz, hZ⟩ := zero_ref
 refine ⟨Z, hZ, fun w => ?_⟩
 have hz' : (zeroValue 58).run Tryz.prog w = .ok (.agg Z) w := by
  generalize hT : Tryz.t58 = T at hz
  have hi := info_ref
  rw [hT] at hi
  clear hT
  simp [zeroValue, typeInfo, hi, hz]
 clear hz
 unfold Instr.build
 simp only [Sem.run_bind, hz', Result.andThen_ok, Tryz.runUnderlying58]
 simp only [Array.mapM_eq_mapM_toList, List.mapM_cons, List.mapM_nil, Sem.run_bind, Sem.run_pure, Result.andThen_ok, Sem.run_map]
 have h49 : ∀ w, (sizeOf 55).run Tryz.prog w = .ok 64 w := Tryz.sizeOf55
 have h50 : ∀ w, (sizeOf 56).run Tryz.prog w = .ok 16384 w := Tryz.sizeOf56
 simp only [h49, h50, Result.andThen_ok]
 rfl
theorem Yis : (Tryz.prog.info? 58).map (·.size) = some 16448 := by kernel_rfl
theorem rat_one (M : Mem) (k : Nat) : (M.rat k).oneCell' = true := by
 unfold Mem.rat; split <;> rfl
theorem Yhy.one {C : Array Value} {M : Mem} (h : Yhy C M) : C.all (·.oneCell') = true := by
 rw [Array.all_eq_true]
 intro i hi
 have hi' : i < 16448 := by rw [← h.size]; exact hi
 have e := h.get i hi'
 rw [Array.getElem?_eq_getElem hi] at e
 injection e with e
 rw [e]
 exact rat_one M i
theorem Ybh.new {w : World} {C : Array Value} {M : Mem} (h : Yhy C M) (hok : M.Ok) : Ybh (w.alloc (.cells C 58 (0, 0))) w.heap.size M := ⟨⟨C, h, heap_alloc_new _ _⟩, hok⟩
theorem Yqo (s : ByteArray) (k : Nat) (h : k < s.size) : (Ydb s).getD k 0 = ((s[k].toNat : Nat) : Int) := by
 have hi' : k < s.data.size := h
 rw [List.getD_eq_getElem?_getD, Ydb, List.getElem?_map, Array.getElem?_toList, Array.getElem?_eq_getElem hi']
 rfl
def Mem.strN (M : Mem) (o : Nat) (s : ByteArray) : Nat → Mem
 |0 => M
 |k + 1 => (M.strN o s k).setB (o + k) ((Ydb s).getD k 0)
theorem Yk9 (M : Mem) (p : Int) (hp0 : 0 ≤ p) (s : ByteArray) : ∀ k : Nat, p * 256 + k ≤ 16384 → M.pokeN (p * 256) (Ydb s) k = M.strN (p.toNat * 256) s k
 |0, _ => rfl
 |k + 1, h => by
  rw [Mem.pokeN, Mem.strN, Yk9 M p hp0 s k (by omega)]
  congr 1
  unfold Yx
  omega
theorem Yto {M : Mem} {s : Ycf} (hb : M.spanB s = true) : M.span1 s = (M.mapN s.pg.toNat s.ct.toNat s.rt).strN (s.pg.toNat * 256) s.by_ s.by_.size := by
 simp only [Mem.spanB, Bool.and_eq_true, decide_eq_true_eq] at hb
 obtain ⟨hm, hs⟩ := hb
 have hrow := Ykb hm
 have hr : Ye6 s.rt = true := by simp only [Mem.mapB, Bool.and_eq_true] at hm; exact hm.1
 have hr1 := (Yf1 _).1 hr
 have hp : (M.mapN s.pg.toNat s.ct.toNat s.rt).pokeB (s.pg * 256) (Ydb s.by_) = true := by
  simp only [Mem.pokeB, Bool.and_eq_true, decide_eq_true_eq, List.all_eq_true, List.mem_range, Yel]
  refine ⟨by omega, fun i hi => ?_⟩
  have e : Yx (s.pg * 256) i = s.pg * 256 + i := by unfold Yx; omega
  simp only [Mem.mappedB, e, Mem.mapN]
  rw [decide_eq_true (by omega), Bool.true_and, if_pos (by omega)]
  simp; omega
 rw [Mem.span1, Mem.poke, hp, if_pos rfl, Yel, Yk9 _ _ hrow.1 _ _ (by omega)]
theorem Yl8 {w : World} {r : Nat} {C D : Array Value} {M : Mem} (h : Yhy C M) (hb : w.heap[r]? = some (.cells D 58 (0, 0))) (hd : D.size = 16448) (hok : M.Ok) : Ybh (w.setCells r 0 C.toList) r M := by
 have hl : C.toList.length = 16448 := by rw [Array.length_toList, h.size]
 refine ⟨⟨_, ⟨by rw [Yle, hd], fun k hk => ?_⟩, Ybw _ _ _ _ hb⟩, hok⟩
 rw [Yhj _ _ _ _ (by rw [hl, hd]; omega), if_pos (by rw [hl]; omega), Nat.sub_zero, Array.getElem?_toList, h.get k hk]
theorem Load_ref (M : Mem) (r g : Nat) (v : Value) (l : List Ycf) (w : World) (hM : Ybh w r M) (hl : Yht w v l g) (hok : ∀ s, s ∈ l → s.ok) :
  Calls Tryz.prog 21 #[.pointer (some ⟨r, 0, none⟩), v] w fun e w' => e = .returned (.int .i64 (errI (Ydn l) 60)) ∧ Ybh w' r (Yfe l M) ∧ Upd [r] w w' := by
 have hmo : Tryz.prog.follows .mixedOrders = true := by kernel_rfl
 obtain ⟨Z, hZ, hbuild⟩ := Yjd
 have HZ := Yh_ hZ
 have HBu := Yh_ hbuild
 have HM := Yh_ hM
 have HL := Yh_ hl
 have hrl := hM.lt
 clear hM hZ hbuild
 have hl2 := hl
 clear hl
 rcases hl2 with ⟨x, c, rfl, rfl⟩ | ⟨o, c, rfl, hg, hlen, hc⟩
 ·go_enter Tryz.func21, Tryz.ntmps21
  go_wp2_with (refine Yfk rfl 58 [] rfl [] rfl (.agg Z) (HBu.out _) ?_)
  go_loopw [6, 7, 8] (fun i _ _ wr => i = .int .i64 0 ∧ Ybh wr w.heap.size Mem.zero ∧ Upd [] w wr) (fun _ _ _ _ => 0)
  case atStart => exact ⟨rfl, Ybh.new HZ.out Mem.zero_ok, (Upd.refl _ _).alloc _⟩
  case round =>
   obtain ⟨rfl, hN, hU⟩ := hrel
   have HN := Yh_ hN
   have HU := Yh_ hU
   clear hN hU
   have hyes := Yh_ (show Ydn [] = true from rfl)
   obtain ⟨C, hC1, hC2⟩ := HN.out.ex
   obtain ⟨D, hD1, hD2⟩ := HM.out.ex
   have hD2' := HU.out.get hD2 (by simp)
   have HC1 := Yh_ hC1
   have HC2 := Yh_ (Ye3 hC2)
   have HCS := Yh_ hC1.size
   have HD2 := Yh_ hD2'
   have HDS := Yh_ hD1.size
   clear hC1 hC2 hD1 hD2 hD2'
   go_wp2_with (first | (refine Ydo rfl 58 _ rfl w.heap.size 0 rfl C _ HC2.out Tryz.underlying58 rfl (by rw [HCS.out]; exact Yis) ?_) | (refine Ydk rfl 58 _ _ rfl r 0 C rfl rfl HD2.out (by rw [HCS.out, HDS.out]; decide) (by rw [HCS.out]; exact Yis) HC1.out.one ?_))
   go_ret
   exact ⟨by rw [hyes.out]; rfl, by rw [Yju hyes.out]; exact Yl8 HC1.out HD2.out HDS.out HN.out.ok, (HU.out.mono (by simp)).setCells (by simp) _ _⟩
 ·have HC := Yh_ hc
  clear hc
  have HO := Yh_ hok
  clear hok
  go_enter Tryz.func21, Tryz.ntmps21
  go_wp2_with (refine Yfk rfl 58 [] rfl [] rfl (.agg Z) (HBu.out _) ?_)
  go_loopw [6, 7, 8] (fun i _ _ wr => ∃ j : Nat, j ≤ l.length ∧ i = .int .i64 j ∧ (∀ k, k < j → (Yc6 l k).spanB (l.getD k default) = true) ∧ Ybh wr w.heap.size (Yc6 l j) ∧ Upd [] w wr) (fun i _ _ _ => l.length - (intOf i).toNat)
  case atStart => exact ⟨0, Nat.zero_le _, rfl, by omega, Ybh.new HZ.out Mem.zero_ok, (Upd.refl _ _).alloc _⟩
  case round =>
   obtain ⟨j, hj, rfl, hall, hN, hU⟩ := hrel
   have hnl := hN.lt
   have HN := Yh_ hN
   have HU := Yh_ hU
   have HA := Yh_ hall
   clear hN hU hall
   by_cases hlt : j < l.length
   ·obtain ⟨s, hs⟩ : ∃ s, l[j]? = some s := ⟨l[j], List.getElem?_eq_getElem hlt⟩
    have hsd : l.getD j default = s := by rw [List.getD_eq_getElem?_getD, hs]; rfl
    have hcs := HL.out.keep HU.out (by simp)
    obtain ⟨c0, c1, c2, c3⟩ : wr.cell? ⟨g, o + j * 4, none⟩ = some (.int .i64 s.pg) ∧ wr.cell? ⟨g, o + j * 4 + 1, none⟩ = some (.int .i64 s.ct) ∧ wr.cell? ⟨g, o + j * 4 + 2, none⟩ = some (.int .i64 s.rt) ∧ wr.cell? ⟨g, o + j * 4 + 3, none⟩ = some (.string s.by_) := by
     rcases hcs with ⟨_, _, hv, _⟩ | ⟨o', c', hv, _, _, h⟩
     ·injection hv with _ e _; omega
     ·injection hv with e _ _
      injection e with e
      injection e with _ e _
      subst e
      exact h j s hs
    have hsm : s.ok := HO.out s (List.mem_of_getElem? hs)
    have HS := Yh_ hsm
    have HSD := Yh_ hsd
    clear hcs hs hsm hsd
    have hmb : (Yc6 l j).mapB s.pg s.ct s.rt = true ∨ (Yc6 l j).mapB s.pg s.ct s.rt = false := by cases (Yc6 l j).mapB s.pg s.ct s.rt <;> simp
    rcases hmb with hmb | hmb
    ·have hrow := Ykb hmb
     have HB := Yh_ hmb
     clear hmb
     obtain ⟨p1, p2, p3, p4⟩ := hrow
     by_cases hsz : (s.by_.size : Int) ≤ s.ct * 256
     ·go_wp2_with (go_at_call 33; refine (Yli (Yc6 l j) w.heap.size s.pg s.ct s.rt _ (HN.out.keep ((Upd.refl [] _).alloc _) (by simp)) HS.out.1 HS.out.2).mono ?_; rintro e w2 ⟨rfl, hM2, hU2⟩; rw [Mem.mapM, HB.out, if_pos rfl] at hM2; rw [HB.out]; have HM2 := Yh_ hM2; have HU2 := Yh_ hU2; have hc2 := hU2.get (heap_alloc_new _ _) (by simp; omega); have HC2 := Yh_ hc2; have cs2 := Ya hc2; clear hM2 hU2 hc2)
      have hn1 : ∀ x, x ∈ [w.heap.size] → x ∈ ([] : List Nat) ∨ w.heap.size ≤ x := by simp
      obtain ⟨sb, hsb⟩ : ∃ sb, sb = wr.heap.size := ⟨_, rfl⟩
      have HSB := Yh_ hsb
      have hsb' := HC2.out
      rw [← hsb] at hsb'
      have HC2' := Yh_ hsb'
      clear hsb hsb'
      have HUA := Yh_ ((HU.out.alloc _).also HU2.out hn1)
      go_loopw [8] (fun i w3 => ∃ k : Nat, k ≤ s.by_.size ∧ i = .int .i64 k ∧ Ybh w3 w.heap.size (((Yc6 l j).mapN s.pg.toNat s.ct.toNat s.rt).strN (s.pg.toNat * 256) s.by_ k) ∧ w3.heap[sb]? = some (.cells #[.int .i64 s.pg, .int .i64 s.ct, .int .i64 s.rt, .string s.by_] 62 (0, 0)) ∧ Upd [] w w3) (fun i _ => s.by_.size - (intOf i).toNat)
      case atStart => exact ⟨0, Nat.zero_le _, rfl, HM2.out, HC2'.out, HUA.out⟩
      case round =>
       obtain ⟨k, hk, rfl, hN3, hs3, hU3⟩ := hrel
       rw [← HSB.out]
       have HN3 := Yh_ hN3
       have HS3 := Yh_ hs3
       have HU3 := Yh_ hU3
       have cs3 := Ya hs3
       clear hN3 hs3 hU3 cs2
       by_cases hk2 : k < s.by_.size
       ·have hd : decide ((k : Int) < s.by_.size) = true := by simp; omega
        have hlt8 : s.pg * 256 + k < 16384 := by omega
        have hnn8 : 0 ≤ s.pg * 256 + (k : Int) := by omega
        go_wp2_with fail
        refine Ybc 13 (fun w1 => Ybh w1 w.heap.size (((Yc6 l j).mapN s.pg.toNat s.ct.toNat s.rt).strN (s.pg.toNat * 256) s.by_ k) ∧ w1.heap[sb]? = some (.cells #[.int .i64 s.pg, .int .i64 s.ct, .int .i64 s.rt, .string s.by_] 62 (0, 0)) ∧ Upd [] w w1) (fun _ _ => False) (by kernel_rfl) (by decide +kernel) ⟨HN3.out.drew, HS3.out, HU3.out.drew⟩ (fun _ _ _ h => h.elim) ?_
        simp only [List.take_succ_cons, List.take_zero, List.drop_succ_cons, List.drop_zero]
        repeat
         apply Yao rfl rfl
         ·intro K hK w1 hB1
          have cs3 := Ya hB1.2.1
          have HB1 := Yh_ hB1
          clear hB1
          go_wp2_with fail
          exact HB1.out
         ·exact ⟨_, rfl⟩
        refine Yaw (fun _ w1 hB1 => ?_)
        have ei : (s.pg * 256 + (k : Int)).toNat = s.pg.toNat * 256 + k := by omega
        have cb := hB1.1.cB (s.pg.toNat * 256 + k) (by omega)
        have fb := hB1.1.free (64 + (s.pg.toNat * 256 + k))
        rw [← ei] at cb fb
        have EI := Yh_ ei
        have HB1 := Yh_ hB1
        clear hB1 ei
        go_wp2_with fail
        have hgd : ((s.by_[k].toNat : Nat) : Int) = (Ydb s.by_).getD k 0 := (Yqo s.by_ k hk2).symm
        rw [hgd, EI.out]
        go_roundw
        case rel => exact ⟨k + 1, by omega, by go_num, HB1.out.1.setB (s.pg.toNat * 256 + k) ((Ydb s.by_).getD k 0) (by omega) (Yiy _ _).1 (Yiy _ _).2, Yq _ (by simp; have := HSB.out; omega) HB1.out.2.1, HB1.out.2.2.setCell (by simp) _⟩
        case measure => simp [intOf]; omega
       ·have hd : decide ((k : Int) < s.by_.size) = false := by simp; omega
        have hke : k = s.by_.size := by omega
        have HKE := Yh_ hke
        clear hke
        go_wp2_with fail
        go_roundw
        case rel =>
         refine ⟨j + 1, by omega, by go_num, fun t ht => ?_, ?_, HU3.out⟩
         ·by_cases e : t = j
          ·subst e
           rw [HSD.out, Mem.spanB, HB.out]
           simpa using hsz
          ·exact HA.out t (by omega)
         ·rw [Yc6, HSD.out, Yto (by rw [Mem.spanB, HB.out]; simpa using hsz), ← HKE.out]
          exact HN3.out
        case measure => simp [intOf]; omega
     ·have hsz' : s.ct * 256 < s.by_.size := by omega
      go_wp2_with (go_at_call 33; refine (Yli (Yc6 l j) w.heap.size s.pg s.ct s.rt _ (HN.out.keep ((Upd.refl [] _).alloc _) (by simp)) HS.out.1 HS.out.2).mono ?_; rintro e w2 ⟨rfl, hM2, hU2⟩; rw [Mem.mapM, HB.out, if_pos rfl] at hM2; rw [HB.out]; have HM2 := Yh_ hM2; have HU2 := Yh_ hU2; have hc2 := hU2.get (heap_alloc_new _ _) (by simp; omega); have HC2 := Yh_ hc2; have cs2 := Ya hc2; clear hM2 hU2 hc2)
      go_ret
      have hn : ∀ x, x ∈ [w.heap.size] → x ∈ ([] : List Nat) ∨ w.heap.size ≤ x := by simp
      have hno : Ydn l = false := Yir hlt (by rw [HSD.out, Mem.spanB]; simp; omega)
      have hU' := (HU.out.alloc _).also HU2.out hn
      exact ⟨by rw [hno]; rfl, by rw [Yh2 hno]; exact HM.out.keep hU' (by simp), hU'.mono (by simp)⟩
    ·have HB := Yh_ hmb
     clear hmb
     go_wp2_with (go_at_call 33; refine (Yli (Yc6 l j) w.heap.size s.pg s.ct s.rt _ (HN.out.keep ((Upd.refl [] _).alloc _) (by simp)) HS.out.1 HS.out.2).mono ?_; rintro e w2 ⟨rfl, hM2, hU2⟩; rw [HB.out]; have HU2 := Yh_ hU2; clear hM2 hU2)
     go_ret
     have hn : ∀ x, x ∈ [w.heap.size] → x ∈ ([] : List Nat) ∨ w.heap.size ≤ x := by simp
     have hno : Ydn l = false := Yir hlt (by rw [HSD.out, Mem.spanB, HB.out]; rfl)
     have hU' := (HU.out.alloc _).also HU2.out hn
     exact ⟨by rw [hno]; rfl, by rw [Yh2 hno]; exact HM.out.keep hU' (by simp), hU'.mono (by simp)⟩
   ·have e : j = l.length := by omega
    subst e
    have hyes := Yh_ (Ylv HA.out)
    obtain ⟨C, hC1, hC2⟩ := HN.out.ex
    obtain ⟨D, hD1, hD2⟩ := HM.out.ex
    have hD2' := HU.out.get hD2 (by simp)
    have HC1 := Yh_ hC1
    have HC2 := Yh_ (Ye3 hC2)
    have HCS := Yh_ hC1.size
    have HD2 := Yh_ hD2'
    have HDS := Yh_ hD1.size
    clear hC1 hC2 hD1 hD2 hD2'
    go_wp2_with (first | (refine Ydo rfl 58 _ rfl w.heap.size 0 rfl C _ HC2.out Tryz.underlying58 rfl (by rw [HCS.out]; exact Yis) ?_) | (refine Ydk rfl 58 _ _ rfl r 0 C rfl rfl HD2.out (by rw [HCS.out, HDS.out]; decide) (by rw [HCS.out]; exact Yis) HC1.out.one ?_))
    go_ret
    exact ⟨by rw [hyes.out]; rfl, by rw [Yju hyes.out]; exact Yl8 HC1.out HD2.out HDS.out HN.out.ok, (HU.out.mono (by simp)).setCells (by simp) _ _⟩
section
open Go.WideShapes Go.ChangeShapes
def ByS0 (w : World) (v : Value) (l : List Int) (g : Nat) : Prop := (∃ a c, v = .slice a 0 c ∧ l = []) ∨ (l ≠ [] ∧ g < w.heap.size ∧ Ybz w v l g)
theorem ByS0.keep {w w' : World} {v : Value} {l : List Int} {g : Nat} (h : ByS0 w v l g) (u : Upd [] w w') : ByS0 w' v l g := by
 rcases h with h | ⟨h0, h1, h2⟩
 ·exact .inl h
 ·exact .inr ⟨h0, Nat.lt_of_lt_of_le h1 u.size, h2.keep u (by simp)⟩
structure Yjx where
 wt : Int
 pg : Int
 ct : Int
 rt : Int
 nb : Int
 at_ : Int
 v : Int
 vb : Value
 vs : Value
 B : List Int
 S : List Ycf
 gb : Nat
 gs : Nat
def Yjx.cells (s : Yjx) : Array Value := #[.int .i64 s.wt, .int .i64 s.pg, .int .i64 s.ct, .int .i64 s.rt, .int .i64 s.nb, .int .u32 s.at_, .int .u32 s.v, s.vb, s.vs]
structure Yjx.Good (q : Yjx) (w : World) : Prop where
 pg : -9223372036854775808 ≤ q.pg ∧ q.pg ≤ 9223372036854775807
 ct : -9223372036854775808 ≤ q.ct ∧ q.ct ≤ 9223372036854775807
 nb : -9223372036854775808 ≤ q.nb ∧ q.nb ≤ 9223372036854775807
 at_ : 0 ≤ q.at_ ∧ q.at_ < 4294967296
 v : 0 ≤ q.v ∧ q.v < 4294967296
 b : ByS0 w q.vb q.B q.gb
 bl : ∀ i, 0 ≤ q.B.getD i 0 ∧ q.B.getD i 0 ≤ 255
 bn : q.B.length ≤ maxLen
 bf : ∃ b c, q.vb = .slice b q.B.length c
 sa : Ygu w q.vs q.S q.gs
 sf : ∃ b c, q.vs = .slice b q.S.length c
theorem Yjx.Good.keep {s : Yjx} {w w' : World} (h : s.Good w) (u : Upd [] w w') : s.Good w' := ⟨h.pg, h.ct, h.nb, h.at_, h.v, h.b.keep u, h.bl, h.bn, h.bf, h.sa.keep u, h.sf⟩
end
theorem Map_any (M : Mem) (a pb : Nat) (p n r : Int) (w : World) (hM : Yan w a pb M) (hn : -9223372036854775808 ≤ n) :
  Calls Tryz.prog 18 #[.pointer (some ⟨a, 0, none⟩), .int .i64 p, .int .i64 n, .int .i64 r] w fun e w' => e = .returned (.int .i64 (errI (M.mapB p n r) 61)) ∧ Yan w' a pb (M.mapM p n r) ∧ Upd [pb] w w' := by
 cases h : M.mapB p n r
 ·refine (Map_no M a pb p n r w hM hn h).mono ?_
  rintro e w' ⟨h1, h2⟩
  exact ⟨h1, by rw [Mem.mapM, h]; exact hM.keep h2 (by simp) (by simp), h2.mono (by simp)⟩
 ·refine (Ylo M a pb p n r w hM hn h).mono ?_
  rintro e w' ⟨h1, h2, h3⟩
  exact ⟨h1, by rw [Mem.mapM, h]; exact h2, h3⟩
def bkMap : Mem := Mem.zero.mapM 0 1 7
def Ydj : Mem := bkMap.poke 0 [64, 235, 254, 64]
theorem bk_map : Mem.zero.mapB 0 1 7 = true := by decide +kernel
theorem bk_poke : bkMap.pokeB 0 [64, 235, 254, 64] = true := by decide +kernel
theorem bk_peek : Ydj.peek 0 3 = [64, 235, 254] := by decide +kernel
theorem bk_no : Ygz Ydj 300 = false ∧ (Ygk Ydj 300).a = 300 ∧ (Ygk Ydj 300).pc = 300 := by decide +kernel
theorem bk_yes : Ygz Ydj 0 = true := by decide +kernel
theorem Yhf : (Ybp Ydj 0).length = 2 := by decide +kernel
theorem Yre : Ycq (Ybp Ydj 0) 2 = 3 := by decide +kernel
theorem bk_place : Yhw 0 (Ybp Ydj 0) 1 = 1 := by decide +kernel
theorem bk_fno : ∃ k t, Ygk Ydj 300 = ⟨k, 300, 300, t⟩ := by
 have h := bk_no.2
 cases hF : Ygk Ydj 300 with
 |mk k p x t => rw [hF] at h; simp only at h; rw [h.1, h.2]; exact ⟨_, _, rfl⟩
theorem bk_fyes : Ygk Ydj 0 = Flt.zero := by unfold Ygk; exact if_pos bk_yes
theorem getD_ok {l : List Int} (h : l.all (fun x => decide (0 ≤ x) && decide (x ≤ 255)) = true) (i : Nat) : 0 ≤ l.getD i 0 ∧ l.getD i 0 ≤ 255 := by
 rw [List.getD_eq_getElem?_getD]
 cases hx : l[i]? with
 |none => simp
 |some x =>
  have := List.all_eq_true.1 h x (List.mem_of_getElem? hx)
  simpa using this
theorem pl_form {w : World} {b : Nat} {v : Value} (h : w.ownsRow b 23 1 v (Ybp Ydj 0).length (Ygq 0 (Ybp Ydj 0) (Ybp Ydj 0).length)) : ∃ g c C, v = .slice (some ⟨g, 0, none⟩) 2 c ∧ w.heap[g]? = some (.cells C 23 (0, 0)) ∧ C[1]? = some (.int .u32 1) := by
 rw [Yhf] at h
 rcases h.2 with ⟨_, h0⟩ | ⟨g, cap, cur, rfl, hg, hb, _, _, hs, ht⟩
 ·omega
 ·refine ⟨g, cap, cur, rfl, hb, ?_⟩
  have e : (cur.toList.take (2 * 1))[1]? = some (.int .u32 1) := by rw [ht]; simp [Ygq, List.range_succ, bk_place]
  rw [List.getElem?_take_of_lt (by omega), Array.getElem?_toList] at e
  exact e
theorem bk_str : (strOfNums [64, 235, 254]).toList = [64, 235, 254] := by decide +kernel
theorem Yn0 (n : Int) : errI true n = 0 := rfl
structure BkS (w : World) (a pb g : Nat) (v : Value) (w1 : World) : Prop where
 m : Yan w1 a pb Ydj
 s : ISl w1 v (Ybp Ydj 0) g
 u : Upd [] w w1
theorem BkS.step {w w1 w2 : World} {a pb g : Nat} {v : Value} (h : BkS w a pb g v w1) (u : Upd [] w1 w2) : BkS w a pb g v w2 := ⟨h.m.keep u (by simp) (by simp), h.s.keep u (by simp), h.u.also u (by simp)⟩
theorem Yha (w : World) : Calls Tryz.prog 5 #[] w fun e w' => e = .returned (.bool true) ∧ Upd [] w w' := by
 obtain ⟨nk, nt, hno⟩ := bk_fno
 have HNO := Yh_ hno
 clear hno
 go_enter Tryz.func5, Tryz.ntmps5
 have hstr := bk_str
 have tok : True := trivial
 go_wp2_with (first | (have _t := tok; clear _t; go_at_call 17; refine (Yio _).mono ?_; rintro e w1 ⟨a, pb, rfl, ha, hp, hM1, hu1⟩; clear tok) | (have _t := hM1; clear _t; go_at_call 18; refine (Map_any Mem.zero a pb 0 1 7 _ hM1 (by decide)).mono ?_; rintro e w2 ⟨rfl, hM2, hu2⟩; rw [bk_map, Yn0]; clear hM1) | (have _t := hM2; clear _t; go_at_call 19; refine (Ync bkMap a pb 0 _ [64, 235, 254, 64] w2.heap.size _ (hM2.keep ((Upd.refl [] w2).alloc _) (by simp) (by simp)) (by decide) (by decide) (Yrf w2 [64, 235, 254, 64] _ _ rfl) (by obtain ⟨C, _, hc⟩ := hM2.pg; have := Yv hc; omega) (getD_ok (by decide)) (by simp [maxLen])).mono ?_; rintro e w3 ⟨rfl, hM3, hu3⟩; rw [bk_poke, Yn0]; have hS : ∀ x, x ∈ [pb] → x ∈ ([] : List Nat) ∨ w.heap.size ≤ x := (by intro x hx; simp only [List.mem_singleton] at hx; omega); have U3 := Yh_ (((hu1.also hu2 hS).alloc (.cells #[.int .u8 64, .int .u8 235, .int .u8 254, .int .u8 64] 5)).also hu3 hS); clear hM2 hu1 hu2 hu3 hS) | (have _t := hM3; clear _t; go_at_call 8; refine (Yiq Ydj a pb 0 _ hM3 (by decide)).mono ?_; rintro e w4 ⟨v, g, rfl, hI, hg, hu4⟩; have k4 := BkS.mk (g := g) (v := v) (hM3.keep hu4 (by simp) (by simp)) hI (U3.out.also hu4 (by simp)); obtain ⟨sb, sc, rfl⟩ := hI.form; rw [Yhf] at k4; have K4 := Yh_ k4; clear k4; rw [bk_fyes, bk_yes, Yhf]; simp only [Flt.val, Flt.zero]; clear hM3 U3 hu4 hI) | (have _t := K4; clear _t; go_at_call 8; refine (Yiq Ydj a pb 300 _ (K4.out.m.keep ((Upd.refl [] w4).alloc _) (by simp) (by simp)) (by decide)).mono ?_; rintro e w5 ⟨v2, g2, rfl, hI2, _, hu5⟩; rw [HNO.out, bk_no.1]; simp only [Flt.val]; have K5 := Yh_ (K4.out.step (((Upd.refl [] w4).alloc _).also hu5 (by simp))); clear hu5 hI2 K4) | (have _t := K5; clear _t; go_at_call 11; refine (Ysm 0 _ (Ybp Ydj 0) g _ (K5.out.s.keep ((Upd.refl [] w5).alloc _) (by simp)) (by rw [Yhf]; decide)).mono ?_; rintro e w6 ⟨v6, rfl, ho6, hu6⟩; obtain ⟨g6, p6, C6, rfl, hg6, hc6⟩ := pl_form ho6; have F6 := Yh_ (hu6.get (heap_alloc_new w5 (.cells #[.int .i64 nk, .int .u32 300, .int .u32 300, .int .i64 nt] 32)) (by simp)); have G6 := Yh_ hg6; have K6 := Yh_ (K5.out.step (((Upd.refl [] w5).alloc _).also hu6 (by simp))); clear hu6 ho6 hg6 K5) | (have _t := K6; clear _t; go_at_call 12; refine (Yef _ (Ybp Ydj 0) g _ K6.out.s (by rw [Yhf]; decide)).mono ?_; rintro e w7 ⟨rfl, hu7⟩; rw [Yhf, Yre]; have K7 := Yh_ (K6.out.step hu7); have F7 := Yh_ (hu7.get F6.out (by simp)); have G7 := Yh_ (hu7.get G6.out (by simp)); clear hu7 K6 F6 G6) | (have _t := K7; clear _t; go_at_call 13; refine (Yt6 Ydj a pb 0 _ (Ybp Ydj 0) g _ K7.out.m (by decide) K7.out.s (by rw [Yhf]; decide)).mono ?_; rintro e w8 ⟨rfl, hu8⟩; rw [Yhf, Yre, bk_peek]; have K8 := Yh_ (K7.out.step hu8); have F8 := Yh_ (hu8.get F7.out (by simp)); have c8 := Ya F8.out; have c9 : w8.cell? ⟨g6, 1, none⟩ = some (.int .u32 1) := (by rw [Ya (hu8.get G7.out (by simp))]; exact hc6); clear hu8 K7 F7 G7))
 go_ret
 exact ⟨rfl, K8.out.u⟩
structure AlB (w0 : World) (a pb rr : Nat) (M : Mem) (L : List Int) (d : Nat → Bool) (r : Nat → Value) (w : World) : Prop where
 m : Yan w a pb M
 f : Ybh w rr M
 u : Upd [] w0 w
 p : d 15 = true → ∃ g, Ybz w (r 15) L g
 q : d 21 = true → ∃ g, Ybz w (r 21) L g
theorem AlB.same {w0 : World} {a pb rr : Nat} {M : Mem} {L : List Int} {d : Nat → Bool} {r : Nat → Value} {w : World} (h : AlB w0 a pb rr M L d r w) (i : Nat) (h1 : i ≠ 15) (h2 : i ≠ 21) : AlB w0 a pb rr M L (Ybq d i) r w :=
 ⟨h.m, h.f, h.u, fun e => h.p (by simpa [Ybq, h1.symm] using e), fun e => h.q (by simpa [Ybq, h2.symm] using e)⟩
theorem Yhp (v : Value) (L : List Ycf) (g : Nat) (w : World) (h : Ygu w v L g) :
  Calls Tryz.prog 6 #[v] w fun e w' => ∃ a pb rr, e = .returned (.tuple #[.pointer (some ⟨a, 0, none⟩), .pointer (some ⟨rr, 0, none⟩), .bool (Ydn L)]) ∧ Yan w' a pb (Yfe L Mem.zero) ∧ Ybh w' rr (Yfe L Mem.zero) ∧ Upd [] w w' ∧ rr ≠ a ∧ rr ≠ pb ∧ w.heap.size ≤ a ∧ w.heap.size ≤ pb ∧ w.heap.size ≤ rr := by
 obtain ⟨Z, hZ, hbuild⟩ := Yjd
 have HZ := Yh_ hZ
 have HBu := Yh_ hbuild
 have HS := Yh_ h
 have HO := Yh_ (show ∀ s, s ∈ L → s.ok from fun s hs => (h.ok s hs).ct)
 clear hZ hbuild h
 cases hb : Ydn L
 ·have HB := Yh_ hb
  clear hb
  go_enter Tryz.func6, Tryz.ntmps6
  go_wp2_with (first | (go_at_call 17; refine (Yio _).mono ?_; rintro e w1 ⟨a, pb, rfl, ha, hp, hm, hu⟩; have HM := Yh_ hm; have HU := Yh_ hu; have HA := Yh_ (And.intro ha hp); clear hm hu ha hp) | (refine Yfk rfl 58 [] rfl [] rfl (.agg Z) (HBu.out _) ?_) | (go_at_call 20; refine (Ym6 Mem.zero a pb g v L _ (HM.out.keep ((Upd.refl [] _).alloc _) (by simp) (by simp)) (HS.out.sp.keep (HU.out.alloc _) (by simp)) HO.out).mono ?_; rintro e w2 ⟨rfl, hm, hu⟩; rw [HB.out]; have HM2 := Yh_ hm; have HU2 := Yh_ hu; clear hm hu))
  obtain ⟨qb, hq, hm⟩ := HM2.out.ex
  have hal := HM.out.al
  have hpl := HM.out.pl
  have hUA := (HU.out.alloc (.cells Z 58)).also HU2.out (by have := HA.out; simp; omega)
  refine bodyPost_ret (v := .tuple #[.pointer (some ⟨a, 0, none⟩), .pointer (some ⟨w1.heap.size, 0, none⟩), .bool false]) (Ya3 rfl (Yk 2 rfl) (Yk 3 rfl) (Yk 4 rfl)) rfl ⟨a, qb, w1.heap.size, rfl, hm, ?_, hUA, by omega, ?_, HA.out.1, ?_, HU.out.size⟩
  ·rw [Yh2 HB.out]
   exact (Ybh.new HZ.out Mem.zero_ok).keep HU2.out (by simp; omega)
  ·rcases hq with rfl | hq
   ·omega
   ·have : w1.heap.size < (w1.alloc (.cells Z 58)).heap.size := by simp
    omega
  ·have := HA.out.2
   have h1 := HU.out.size
   rcases hq with rfl | hq
   ·omega
   ·simp at hq; omega
 ·have HB := Yh_ hb
  clear hb
  go_enter Tryz.func6, Tryz.ntmps6
  go_wp2_with (first | (go_at_call 17; refine (Yio _).mono ?_; rintro e w1 ⟨a, pb, rfl, ha, hp, hm, hu⟩; have HM := Yh_ hm; have HU := Yh_ hu; have HA := Yh_ (And.intro ha hp); clear hm hu ha hp) | (refine Yfk rfl 58 [] rfl [] rfl (.agg Z) (HBu.out _) ?_) | (go_at_call 20; refine (Ym6 Mem.zero a pb g v L _ (HM.out.keep ((Upd.refl [] _).alloc _) (by simp) (by simp)) (HS.out.sp.keep (HU.out.alloc _) (by simp)) HO.out).mono ?_; rintro e w2 ⟨rfl, hm, hu⟩; rw [HB.out]; have HM2 := Yh_ hm; have HU2 := Yh_ hu; clear hm hu) | (go_at_call 21; refine (Load_ref Mem.zero w1.heap.size g v L _ ((Ybh.new HZ.out Mem.zero_ok).keep HU2.out (by have := HM.out.al; simp; omega)) (HS.out.sp.keep ((HU.out.alloc _).also HU2.out (by have := HA.out; simp; omega)) (by simp)) HO.out).mono ?_; rintro e w3 ⟨rfl, hr, hu⟩; rw [HB.out]; have HR3 := Yh_ hr; have HU3 := Yh_ hu; clear hr hu))
  obtain ⟨qb, hq, hm⟩ := HM2.out.ex
  have hal := HM.out.al
  have hpl := HM.out.pl
  have hqb : qb ≠ w1.heap.size := by
   rcases hq with rfl | hq
   ·omega
   ·have : w1.heap.size < (w1.alloc (.cells Z 58)).heap.size := by simp
    omega
  have hqn : w.heap.size ≤ qb := by
   have := HA.out.2
   have h1 := HU.out.size
   rcases hq with rfl | hq
   ·omega
   ·simp at hq; omega
  have hUA := (HU.out.alloc (.cells Z 58)).also HU2.out (by have := HA.out; simp; omega)
  have hUB := hUA.also HU3.out (by have := HU.out.size; simp; omega)
  refine bodyPost_ret (v := .tuple #[.pointer (some ⟨a, 0, none⟩), .pointer (some ⟨w1.heap.size, 0, none⟩), .bool true]) (Ya3 rfl (Yk 2 rfl) (Yk 3 rfl) (Yk 4 rfl)) rfl ⟨a, qb, w1.heap.size, rfl, hm.keep HU3.out (by simp; omega) (by simpa using hqb), HR3.out, hUB, by omega, by omega, HA.out.1, hqn, HU.out.size⟩
def Ygx (L : List Ycf) : Bool := (L.all fun s => decide (s.by_.size ≤ 3000)) && decide (L.length ≤ 8)
theorem Yic (v : Value) (L : List Ycf) (g : Nat) (w : World) (h : Ygu w v L g) :
  Calls Tryz.prog 7 #[v] w fun e w' => e = .returned (.bool (Ygx L)) ∧ w = w' := by
 have HS := Yh_ h
 have hlen := h.len
 unfold maxLen at hlen
 have hsp := h.sp
 clear h
 rcases hsp with ⟨b, c, rfl, rfl⟩ | ⟨o, c, rfl, hg, hlen2, hc⟩
 ·have HF := Yh_ (show Ygx [] = true from rfl)
  go_enter Tryz.func7, Tryz.ntmps7
  go_wp2_with fail
  go_loop [3] (fun i => i = .int .i64 0) (fun _ => 0)
  case atStart => exact rfl
  case round =>
   subst hrel
   go_wp2_with fail
   go_ret
   exact ⟨by rw [HF.out]; rfl, rfl⟩
 ·have HC := Yh_ hc
  clear hc
  go_enter Tryz.func7, Tryz.ntmps7
  go_wp2_with fail
  go_loop [3] (fun i => ∃ j : Nat, j ≤ L.length ∧ i = .int .i64 j ∧ ∀ k, k < j → (L.getD k default).by_.size ≤ 3000) (fun i => L.length - (intOf i).toNat)
  case atStart => exact ⟨0, Nat.zero_le _, rfl, by omega⟩
  case round =>
   obtain ⟨j, hj, rfl, hall⟩ := hrel
   have HA := Yh_ hall
   clear hall
   by_cases hlt : j < L.length
   ·have hd : decide ((j : Int) < L.length) = true := by simp; omega
    obtain ⟨s, hs⟩ : ∃ s, L[j]? = some s := ⟨L[j], List.getElem?_eq_getElem hlt⟩
    have hsd : L.getD j default = s := by rw [List.getD_eq_getElem?_getD, hs]; rfl
    have c3 := (HC.out j s hs).2.2.2
    have HSD := Yh_ hsd
    have HSS := Yh_ hs
    clear hs hsd
    by_cases hz : s.by_.size ≤ 3000
    ·have hz1 : decide (3000 < (s.by_.size : Int)) = false := by simp; omega
     have HZ := Yh_ hz
     clear hz
     go_wp2_with fail
     go_round
     case rel => exact ⟨j + 1, by omega, by go_num, fun k hk => by
       by_cases e : k = j
       ·subst e; rw [HSD.out]; exact HZ.out
       ·exact HA.out k (by omega)⟩
     case measure => simp [intOf]; omega
    ·have hz1 : decide (3000 < (s.by_.size : Int)) = true := by simp; omega
     have HF := Yh_ (show Ygx L = false by
      rw [Ygx, Bool.and_eq_false_iff]
      refine .inl ?_
      rw [List.all_eq_false]
      exact ⟨s, List.mem_of_getElem? HSS.out, by simpa using hz⟩)
     clear hz
     go_wp2_with fail
     go_ret
     exact ⟨by rw [HF.out]; rfl, rfl⟩
   ·have hd : decide ((j : Int) < L.length) = false := by simp; omega
    have hall : (L.all fun s => decide (s.by_.size ≤ 3000)) = true := by
     rw [List.all_eq_true]
     intro s hs
     obtain ⟨k, hk⟩ := List.getElem?_of_mem hs
     have hkl := (List.getElem?_eq_some_iff.1 hk).1
     have := HA.out k (by omega)
     rw [List.getD_eq_getElem?_getD, hk] at this
     simpa using this
    by_cases h8 : L.length ≤ 8
    ·have h81 : decide ((L.length : Int) ≤ 8) = true := by simp; omega
     have HF := Yh_ (show Ygx L = true by rw [Ygx, hall, Bool.true_and]; simpa using h8)
     clear h8 hall
     go_wp2_with fail
     go_ret
     exact ⟨by rw [HF.out]; rfl, rfl⟩
    ·have h81 : decide ((L.length : Int) ≤ 8) = false := by simp; omega
     have HF := Yh_ (show Ygx L = false by rw [Ygx, hall, Bool.true_and]; simpa using h8)
     clear h8 hall
     go_wp2_with fail
     go_ret
     exact ⟨by rw [HF.out]; rfl, rfl⟩
theorem meas_up {N k : Nat} {z : Int} (h : k < N) (e : z = ((k + 1 : Nat) : Int)) : N - (intOf (.int .i64 z)).toNat < N - (intOf (.int .i64 (k : Int))).toNat := by
 subst e
 simp [intOf]
 omega
structure FnS (a pb rr : Nat) (M : Mem) (b : Option Addr) (c n : Nat) (l : List Ins) (g : Nat) (w w1 : World) : Prop where
 m : Yan w1 a pb M
 r : Ybh w1 rr M
 i : ISl w1 (.slice b n c) l g
 u : Upd [] w w1
theorem FnS.step {a pb rr : Nat} {M : Mem} {b : Option Addr} {c n : Nat} {l : List Ins} {g : Nat} {w w1 w2 : World} (h : FnS a pb rr M b c n l g w w1) (u : Upd [] w1 w2) : FnS a pb rr M b c n l g w w2 :=
 ⟨h.m.keep u (by simp) (by simp), h.r.keep u (by simp), h.i.keep u (by simp), h.u.also u (by simp)⟩
theorem Yma {l m : List Ins} {i : Nat} (h : i < l.length) : (l ++ m).getD i Ins.zero = l.getD i Ins.zero := by
 rw [List.getD_eq_getElem?_getD, List.getD_eq_getElem?_getD, List.getElem?_append_left h]
theorem Yuf {l : List Ins} {i : Ins} : (l ++ [i]).getD l.length Ins.zero = i := by
 rw [List.getD_eq_getElem?_getD]
 simp
theorem Yk3 (l m : List Ins) : ∀ k : Nat, k ≤ l.length → Ycq (l ++ m) k = Ycq l k
 |0, _ => rfl
 |k + 1, h => by rw [Ycq, Ycq, Yk3 l m k (by omega), Yma (by omega)]
theorem Ys5 (l : List Ins) (i : Ins) : Ycq (l ++ [i]) (l.length + 1) = (Ycq l l.length + i.len % 4294967296) % 4294967296 := by
 rw [Ycq, Yk3 l [i] l.length (Nat.le_refl _), Yuf]
structure RowOk (M : Mem) (pc : Int) (l : List Ins) : Prop where
 one : 1 ≤ l.length
 len : l.length ≤ 8
 e : ∀ i, i + 1 < l.length → Yfc (l.getD i Ins.zero) = false
 p : 1 < l.length → (pc + Ycq l l.length - 1) % 4294967296 / 256 = pc / 256
 stop : l.length < 8 → Yfc (l.getD (l.length - 1) Ins.zero) = false → (pc + Ycq l l.length - 1) % 4294967296 / 256 = pc / 256 → Ye4 pc ((pc + Ycq l l.length) % 4294967296) (Yat M ((pc + Ycq l l.length) % 4294967296)) = false
theorem Ymv (M : Mem) (pc : Int) : ∀ (n : Nat) (row : List Ins) (x : Int), 1 ≤ row.length → row.length ≤ 8 → row.length + n = 9 → x = (pc + Ycq row row.length) % 4294967296 → (∀ i, i + 1 < row.length → Yfc (row.getD i Ins.zero) = false) →
  (1 < row.length → (pc + Ycq row row.length - 1) % 4294967296 / 256 = pc / 256) → RowOk M pc (Yf5 M pc n row x)
 |0, row, x, h1, h8, hn, hx, he, hp => by omega
 |n + 1, row, x, h1, h8, hn, hx, he, hp => by
  rw [Yf5]
  split
  ·rename_i hg
   obtain ⟨hg, hb⟩ := hg
   simp only [Yhb, Ye4, Bool.and_eq_true, decide_eq_true_eq, Bool.not_eq_true', beq_iff_eq] at hg hb
   have hl := Ygg hb.1
   have hs : Ycq (row ++ [(Yat M x).i]) (row ++ [(Yat M x).i]).length = (Ycq row row.length + (Yat M x).i.len) % 4294967296 := by
    rw [List.length_append, List.length_cons, List.length_nil, Nat.zero_add, Ys5, show (Yat M x).i.len % 4294967296 = (Yat M x).i.len from by omega]
   have hlen : (row ++ [(Yat M x).i]).length = row.length + 1 := by rw [List.length_append]; rfl
   refine Ymv M pc n _ _ (by omega) (by omega) (by omega) (by rw [hs, hx]; omega) (fun i hi => ?_) (fun _ => ?_)
   ·rw [hlen] at hi
    rw [Yma (by omega)]
    by_cases h : i + 1 < row.length
    ·exact he i h
    ·rw [show i = row.length - 1 from by omega]; exact hg.2.1
   ·rw [hs]
    have := hb.2
    rw [hx] at this
    rw [← this]
    have e : ∀ a b c : Int, (a + (b + c) % 4294967296 - 1) % 4294967296 = ((a + b) % 4294967296 + c - 1) % 4294967296 := by intro a b c; omega
    rw [e]
    rw [← hx]
  ·rename_i hg
   refine ⟨h1, h8, he, hp, fun h8' hl hpp => ?_⟩
   rw [← hx]
   cases hb : Ye4 pc x (Yat M x)
   ·rfl
   ·refine absurd ⟨?_, hb⟩ hg
    simp only [Yhb, Bool.and_eq_true, decide_eq_true_eq, Bool.not_eq_true', beq_iff_eq]
    refine ⟨h8', hl, ?_⟩
    rw [hx, ← hpp]
    congr 1
    omega
theorem findL_ok {M : Mem} {pc : Int} (h : Ygz M pc = true) : RowOk M pc (Ybp M pc) := by
 have hk : (Yat M pc).k = true := h
 have hl := Ygg hk
 rw [Ybp, if_pos hk]
 have e : Ycq [(Yat M pc).i] [(Yat M pc).i].length = (Yat M pc).i.len := by
  show (0 + (Yat M pc).i.len % 4294967296) % 4294967296 = _
  omega
 exact Ymv M pc 8 _ _ (by simp) (by simp) rfl (by rw [e]) (fun i hi => by simp at hi) (fun hi => by simp at hi)
theorem findL_no {M : Mem} {pc : Int} (h : Ygz M pc = false) : Ybp M pc = [] := by
 have hk : (Yat M pc).k = false := h
 rw [Ybp, if_neg (by rw [hk]; simp)]
end Go.Proofs.YteiplidhkelkbaaGreat
