/-
  Parts of the proof (their names shortened by a program). No condition.
-/
import Derived.Test.YtchoedlinimeaaaMg01
import Derived.Test.YtchoedlinimeaaaMg03
import Derived.Lib.SliceRun
import Derived.ChangeSlices
import Derived.Maps.OwnSet
import Derived.Maps.OwnOps
import Derived.Deep.QuietTactic
import Derived.BigQuiet
import Derived.Laws.IdiomStrings
import Derived.Outline
import Derived.Test.YtchoedlinimeaaaMg02
namespace Go.Proofs.Ytchoedlinimeaaa
open Go Go.RowKit
set_option linter.unusedVariables false
set_option linter.unusedSimpArgs false
set_option maxRecDepth 100000
set_option maxHeartbeats 16000000
def St.eqB (s t : St) : Bool := (((List.range 8).all fun i => s.R i == t.R i) && ((s.pc == t.pc) && ((((s.cf == t.cf) && ((s.pf == t.pf) && ((s.af == t.af) && ((s.zf == t.zf) && ((s.sf == t.sf) && ((s.of_ == t.of_) && true))))))) && ((s.df == t.df) && ((s.f == t.f) && true)))))
theorem St.eqB_self (s : St) : s.eqB s = true := by simp [St.eqB]
def Yc9 (s : St) : Array Value := #[.bool s.cf, .bool s.pf, .bool s.af, .bool s.zf, .bool s.sf, .bool s.of_]
theorem Ydd (s t : St) (w : World) (d : Nat) : (Op.equalIn (d + 1 + 1) 34 (.agg (Yc9 s)) (.agg (Yc9 t))).run Try.prog w = .ok ((s.cf == t.cf) && ((s.pf == t.pf) && ((s.af == t.af) && ((s.zf == t.zf) && ((s.sf == t.sf) && ((s.of_ == t.of_) && true)))))) w := by
 have hf : Try.prog.fieldsOf 34 = #[{ name := "CF", type := 4, offset := 0, embedded := false, tag := "", pkgPath := "", byteOffset := 0 }, { name := "PF", type := 4, offset := 1, embedded := false, tag := "", pkgPath := "", byteOffset := 1 },
  { name := "AF", type := 4, offset := 2, embedded := false, tag := "", pkgPath := "", byteOffset := 2 }, { name := "ZF", type := 4, offset := 3, embedded := false, tag := "", pkgPath := "", byteOffset := 3 },
  { name := "SF", type := 4, offset := 4, embedded := false, tag := "", pkgPath := "", byteOffset := 4 }, { name := "OF", type := 4, offset := 5, embedded := false, tag := "", pkgPath := "", byteOffset := 5 }] := by kernel_rfl
 have hu : Try.prog.underlying 34 = some (.struct (Try.prog.fieldsOf 34)) := by kernel_rfl
 have hp : Try.prog.plainKey 4 = true := by kernel_rfl
 have hb := fun (a b : Bool) => run_equalIn_bool (P := Try.prog) w d 4 a b Try.underlying4
 rw [run_equalIn_struct w _ 34 _ _ hu (Try.stoodInHeld34), hf]
 exact Yv (by decide) (run_part_plain w hp rfl) (run_part_plain w hp rfl) (hb _ _) (Yv (by decide) (run_part_plain w hp rfl) (run_part_plain w hp rfl) (hb _ _) (Yv (by decide) (run_part_plain w hp rfl) (run_part_plain w hp rfl) (hb _ _) (Yv (by decide) (run_part_plain w hp rfl) (run_part_plain w hp rfl) (hb _ _) (Yv (by decide) (run_part_plain w hp rfl) (run_part_plain w hp rfl) (hb _ _) (Yv (by decide) (run_part_plain w hp rfl) (run_part_plain w hp rfl) (hb _ _) Yc3)))))
theorem Ydc (s t : St) (w : World) (d : Nat) : (Op.equalIn (d + 1 + 1 + 1) 37 (.agg s.cells) (.agg t.cells)).run Try.prog w = .ok (s.eqB t) w := by
 have hf : Try.prog.fieldsOf 37 = #[{ name := "R", type := 32, offset := 0, embedded := false, tag := "", pkgPath := "", byteOffset := 0 }, { name := "PC", type := 31, offset := 8, embedded := false, tag := "", pkgPath := "", byteOffset := 32 },
  { name := "Fl", type := 34, offset := 9, embedded := false, tag := "", pkgPath := "", byteOffset := 36 }, { name := "DF", type := 4, offset := 15, embedded := false, tag := "", pkgPath := "", byteOffset := 42 }, { name := "F", type := 35, offset := 16, embedded := false, tag := "", pkgPath := "", byteOffset := 48 }] := by kernel_rfl
 have hu : Try.prog.underlying 37 = some (.struct (Try.prog.fieldsOf 37)) := by kernel_rfl
 have hpB : Try.prog.plainKey 4 = true := by kernel_rfl
 have hp32 : Try.prog.plainKey 31 = true := by kernel_rfl
 have hp64 : Try.prog.plainKey 35 = true := by kernel_rfl
 have hc : Try.prog.cellsOf 31 = 1 := by kernel_rfl
 have hpR := fun xs : Array Value => Yei (P := Try.prog) (xs := xs) (t := 32) (i := Try.t32) (n := 8) (off := 0) w (Try.isAgg32 w) (by kernel_rfl) (by kernel_rfl)
 have hpF := fun xs : Array Value => Yei (P := Try.prog) (xs := xs) (t := 34) (i := Try.t34) (n := 6) (off := 9) w (Try.isAgg34 w) (by kernel_rfl) (by kernel_rfl)
 have eF : ∀ s : St, s.cells.extract 9 (9 + 6) = Yc9 s := fun s => by simp [St.cells, Yc9]
 have hR : (Op.equalIn (d + 1 + 1) 32 (.agg (s.cells.extract 0 (0 + 8))) (.agg (t.cells.extract 0 (0 + 8)))).run Try.prog w = .ok ((List.range 8).all fun i => s.R i == t.R i) w := by
  rw [run_equalIn_array w (d + 1) (i := Try.t31) _ _ Try.underlying32 (by kernel_rfl), hc]
  have e : ∀ (s : St) i, i < 8 → (s.cells.extract 0 (0 + 8))[i]? = some (.int .u32 (s.R i)) := fun s i hi => by
   rw [Array.getElem?_extract, if_pos (by rw [St.size]; omega), Nat.zero_add, St.cR s i hi]
  exact Ydf w d Try.underlying31 _ _ _ _ _ (fun i hi => ⟨e s i (List.mem_range.1 hi), e t i (List.mem_range.1 hi)⟩)
 have hF := Ydd s t w d
 rw [← eF s, ← eF t] at hF
 rw [run_equalIn_struct w _ 37 _ _ hu (Try.stoodInHeld37), hf]
 exact Yv (by decide) (hpR _) (hpR _) hR (Yv (by decide) (run_part_plain w hp32 rfl) (run_part_plain w hp32 rfl) (run_equalIn_int w _ 31 .u32 .u32 _ _ Try.underlying31)
  (Yv (by decide) (hpF _) (hpF _) hF (Yv (by decide) (run_part_plain w hpB rfl) (run_part_plain w hpB rfl) (run_equalIn_bool w _ 4 _ _ Try.underlying4)
  (Yv (by decide) (run_part_plain w hp64 rfl) (run_part_plain w hp64 rfl) (run_equalIn_int w _ 35 .u64 .u64 _ _ Try.underlying35) Yc3))))
theorem Yfb (s t : St) (w : World) : (binOp .eql 37 (.agg s.cells) (.agg t.cells)).run Try.prog w = .ok (.bool (s.eqB t)) w := by
 have h := Ydc s t w 9997
 rw [run_eql_struct]
 rw [show (10000 : Nat) = 9997 + 1 + 1 + 1 from rfl, h, Result.andThen_ok]
theorem Yfd (w : World) : (Instr.buildSlice 76 0 #[]).run Try.prog w = .ok (.slice (some ⟨w.heap.size, 0, none⟩) 0 0) (w.alloc (.cells #[] 89)) := by
 simp [Instr.buildSlice, run_underlying Try.underlying76, sizeOf, typeInfo, zeroValue, Ycz, Yby, newRow, Instr.fill]
 exact congrArg (fun x => w.alloc (.cells x 89)) (by simp)
theorem Yd2 {ops : Array Oper} {rest : List Oper} {op : Oper} {a : Act} {w : World} {Q : Exit → Act → World → Prop} (hgd : op.guard = none) (ho : op.op = .buildSlice 76 0 #[])
  (h : wpList Try.prog ops Q rest (a.put op.dst (.slice (some ⟨w.heap.size, 0, none⟩) 0 0)) (w.alloc (.cells #[] 89))) : wpList Try.prog ops Q (op :: rest) a w :=
 wpList_plain hgd fun _ hK => by
  unfold Oper.wp execOp
  simp only [ho, Array.map_empty, Sem.run_bind, Yfd, Result.andThen_ok, Sem.run_pure]
  exact hK _ _ h
theorem Yg0 (w : World) {a pb : Nat} {M : Mem} (hM : Yd w a pb M) : ∀ j u, M.cells.toList[j]? = some u → w.cell? ((⟨pb, 0, none⟩ : Addr).add j) = some u := by
 intro j u hu
 obtain ⟨C, hC, hb⟩ := hM.pg
 have hj : j < 16448 := by
  by_cases h : j < 16448
  ·exact h
  ·rw [List.getElem?_eq_none (by rw [Array.length_toList, Mem.size_cells]; omega)] at hu; cases hu
 have e : (⟨pb, 0, none⟩ : Addr).add j = ⟨pb, j, none⟩ := by
  rcases j with _ | j <;> simp [Addr.add]
 rw [e, Ya hb, hC.get j hj, ← hu, Array.getElem?_toList, Mem.getElem?_cells _ _ hj]
theorem Yfa (M : Mem) : ∀ u ∈ M.cells.toList, u.oneCell' = true := by
 intro u hu
 rw [Array.mem_toList_iff, Mem.cells, Array.mem_map] at hu
 obtain ⟨k, _, rfl⟩ := hu
 rw [Mem.at_]; split <;> rfl
theorem Ygl {w : World} {base : Nat} {v : Value} {M : Mem} (h : w.ownsRow base 89 257 v (0 + 64) M.cells.toList) : ∃ g c C, v = .slice (some ⟨g, 0, none⟩) 64 c ∧ 64 ≤ c ∧ base ≤ g ∧ Yax C M ∧ w.heap[g]? = some (.cells C 89 (0, 0)) := by
 obtain ⟨_, ⟨_, h2⟩ | ⟨g, cap, cur, h1, h2, h3, h4, h5, h6, h7⟩⟩ := h
 ·cases h2
 ·refine ⟨g, cap, cur, h1, h4, h2, ⟨by rw [h6]; omega, fun k hk => ?_⟩, h3⟩
  have : (cur.toList.take (64 * 257))[k]? = some (M.at_ k) := by rw [h7, Array.getElem?_toList, Mem.getElem?_cells _ _ hk]
  rw [List.getElem?_take, if_pos (by omega), Array.getElem?_toList] at this
  exact this
theorem Yg2 (M : Mem) (a pb c : Nat) (w : World) (hM : Yd w a pb M) :
  Calls Try.prog 69 #[.slice (some ⟨pb, 0, none⟩) 64 c] w fun e w' => ∃ g d C, e = .returned (.slice (some ⟨g, 0, none⟩) 64 d) ∧ 64 ≤ d ∧ w.heap.size ≤ g ∧ Yax C M ∧ w'.heap[g]? = some (.cells C 89 (0, 0)) ∧ Upd [] w w' := by
 have hnil := fun w : World => Lib.run_eql_slice_nil w 76 89 (some ⟨pb, 0, none⟩) 64 c 0 0 Try.underlying76
 have HM := Yh_ hM
 clear hM
 go_enter Try.func69, Try.ntmps69
 have hown : (w.alloc (.cells #[] 89)).ownsRow w.heap.size 89 257 (.slice (some ⟨w.heap.size, 0, none⟩) 0 0) 0 [] := ⟨by simp, .inr ⟨w.heap.size, 0, #[], rfl, Nat.le_refl _, heap_alloc_new _ _, Nat.le_refl _, Nat.zero_le _, rfl, rfl⟩⟩
 have HO := Yh_ hown
 clear hown
 have hsz : Try.t89.size = 257 := by kernel_rfl
 have hby : Try.t89.bytes = 264 := by kernel_rfl
 have HS := Yh_ (And.intro hsz hby)
 clear hsz hby
 go_wp2_with (first | (refine Yd2 rfl rfl ?_) | (at_builtin; refine wpList_append_own _ rfl _ _ 76 rfl w.heap.size 89 Try.t89 (.agg Ym) 257 264 Try.underlying76 Ycz Yby HS.out.1 HS.out.2 (by simp [Value.cells, Yw]) (by decide) _ _ _ rfl HO.out ⟨pb, 0, none⟩ 64 c M.cells.toList rfl (by rw [Array.length_toList, Mem.size_cells]) (Yg0 _ (HM.out.keep ((Upd.refl [] w).alloc _) (by simp) (by simp))) (Yfa M) (by unfold maxLen; omega) (by omega) (by simp) ?_; intro v' w' hv hg _))
 have e1 : ∀ l : List Value, [] ++ l = l := fun l => List.nil_append l
 rw [e1] at hv
 have hg' : Upd [w.heap.size] (w.alloc (.cells #[] 89)) w' := Upd.of_grown (row := some w.heap.size) hg
 clear hg
 have hx := Ygl hv
 clear hv
 go_ret
 obtain ⟨g, d, C, he, hd, hge, hC, hb⟩ := hx
 exact ⟨g, d, C, ret_of he, hd, hge, hC, hb, ((Upd.refl [] w).alloc _).new hg' (by simp)⟩
theorem Copy_any (M : Mem) (a pb : Nat) (w : World) (hM : Yd w a pb M) :
  Calls Try.prog 54 #[.pointer (some ⟨a, 0, none⟩)] w fun e w' => ∃ b qb, e = .returned (.pointer (some ⟨b, 0, none⟩)) ∧ w.heap.size ≤ b ∧ w.heap.size ≤ qb ∧ Yd w' b qb M ∧ Upd [] w w' := by
 obtain ⟨c, hc, c0⟩ := hM.c0
 have HM := Yh_ hM
 clear hM
 go_enter Try.func54, Try.ntmps54
 go_wp2_with (go_at_call 69; refine (Yg2 M a pb c _ HM.out).mono ?_; rintro e w1 ⟨g, d, C, rfl, hd, hge, hC, hb, hU⟩; have HB := Yh_ hb; have HU := Yh_ hU; clear hb hU)
 go_ret
 refine ⟨w1.heap.size, g, rfl, HU.out.size, hge, ?_, HU.out.alloc _⟩
 exact ⟨⟨d, hd, heap_alloc_new _ _⟩, ⟨C, hC, Yy _ HB.out⟩, HM.out.ok⟩
section
open Go.WideShapes Go.ChangeShapes
def Rp (w : World) (v : Value) (l : List Int) (g : Nat) : Prop :=
 (v = .slice none 0 0 ∧ l = []) ∨ ∃ o c C T f, v = .slice (some ⟨g, o, none⟩) l.length c ∧ l.length ≤ c ∧ w.heap[g]? = some (.cells C T f) ∧ ∀ i, i < l.length → C[o + i]? = some (.int .u32 (l.getD i 0))
theorem Rp.form {w : World} {v : Value} {l : List Int} {g : Nat} (h : Rp w v l g) : ∃ b c, v = .slice b l.length c := by
 rcases h with ⟨h1, h2⟩ | ⟨o, c, _, _, _, h1, _⟩
 ·exact ⟨none, 0, by rw [h1, h2]; rfl⟩
 ·exact ⟨_, _, h1⟩
theorem Rp.keep {w w' : World} {v : Value} {l : List Int} {g : Nat} {S : List Nat} (h : Rp w v l g) (u : Upd S w w') (hg : g ∉ S) : Rp w' v l g := by
 rcases h with h | ⟨o, c, C, T, f, h1, h2, h3, h4⟩
 ·exact .inl h
 ·exact .inr ⟨o, c, C, T, f, h1, h2, u.get h3 hg, h4⟩
theorem Rp.old {w w' : World} {v : Value} {l : List Int} {g : Nat} (h : Rp w v l g) (u : Upd [] w w') : Rp w' v l g := h.keep u (by simp)
theorem Rp.cell {w : World} {b : Option Addr} {n c : Nat} {l : List Int} {g : Nat} (h : Rp w (.slice b n c) l g) (hl : 0 < l.length) : ∃ o, b = some ⟨g, o, none⟩ ∧ n = l.length ∧ ∀ i, i < l.length → w.cell? ⟨g, o + i, none⟩ = some (.int .u32 (l.getD i 0)) := by
 rcases h with ⟨h1, h2⟩ | ⟨o, c', C, T, f, h1, h2, h3, h4⟩
 ·rw [h2] at hl; cases hl
 ·injection h1 with e1 e2 e3
  exact ⟨o, e1, e2, fun i hi => by rw [Ya h3]; exact h4 i hi⟩
end
section
open Go.Maps
theorem Yu {S : List Nat} {a b : World} (h : Upd S a b) (n : Nat) : Upd S a (b.drewN n) := ⟨h.os, h.tape, h.output, h.size, h.block⟩
structure Ev where
 n : Int
 b : Int
 c : Int
 d : Int
 r : Int
 s : ByteArray
def Ev.cells (e : Ev) : Array Value := #[.int .u32 e.n, .int .u32 e.b, .int .u32 e.c, .int .u32 e.d, .int .u32 e.r, .string e.s]
def Ev.val (e : Ev) : Value := .agg e.cells
def evR (v : Value) : Option (DataW Value × List MemPlace) := some (.held v, [])
structure Yat (w : World) (c b g : Nat) (l : List Int) (inp : ByteArray) (k n : Nat) (D : DataW Value) : Prop where
 hd : ∃ v, w.heap[c]? = some (.cells #[v, .string inp, .map (some b), .int .i64 n] 82 (0, 0)) ∧ Rp w v l g
 mp : w.ownsMap Try.prog 3 evR b k D
 cb : c ≠ b
 cg : c ≠ g ∧ b ≠ g
section
variable {w w' : World} {c b g k n : Nat} {l : List Int} {inp : ByteArray} {D : DataW Value} {S : List Nat}
theorem Yar {H : Type} {P : Program} {kt : TypeId} {R : Value → Option (DataW H × List MemPlace)} {D : DataW H} (h : w.ownsMap P kt R b n D) (u : Upd S w w') (hb : b ∉ S) : w'.ownsMap P kt R b n D := by
 obtain ⟨es, clock, h1, h2⟩ := h
 exact ⟨es, clock, u.get h1 hb, h2⟩
theorem Yat.keep (h : Yat w c b g l inp k n D) (u : Upd S w w') (hc : c ∉ S) (hb : b ∉ S) (hg : g ∉ S) : Yat w' c b g l inp k n D := by
 obtain ⟨v, h1, h2⟩ := h.hd
 exact ⟨⟨v, u.get h1 hc, h2.keep u hg⟩, Yar h.mp u hb, h.cb, h.cg⟩
end
theorem Yal (n : Int) (hn : -2147483648 ≤ n ∧ n < 2147483648) (w : World) : Calls Try.prog 35 #[.int .i64 n] w fun e w' => e = .returned (.int .u32 (n % 4294967296)) ∧ Upd [] w w' := by
 have e1 : IntKind.i32.wrap n = n := by unfold IntKind.wrap; simp [IntKind.signed, IntKind.bits]; omega
 go_enter Try.func35, Try.ntmps35
 go_wp2_with fail
 go_ret
 exact ⟨by rfl, Upd.refl _ _⟩
theorem Ybl (w : World) : Calls Try.prog 30 #[] w fun e w' => e = .returned (.agg #[.int .u32 91, .int .u32 125, .int .u32 192]) ∧ Upd [] w w' := by
 go_enter Try.func30, Try.ntmps30
 go_wp2_with fail
 exact bodyPost_ret (Yfs rfl (Yf6 0 56 w.heap.size _ _ rfl (heap_alloc_new w _) Try.underlying56 rfl (by kernel_rfl))) rfl ⟨rfl, (Upd.refl [] w).alloc _⟩
theorem Yf0 (l : List Int) (kb c : Nat) (C : Array Value) (x : Int) (w : World) (hb : w.heap[kb]? = some (.cells C 31 (0, 0)) ∨ w.heap[kb]? = some (.cells C 56 (0, 0))) (hC : ∀ i, i < l.length → C[i]? = some (.int .u32 (l.getD i 0))) (hl : l.length < 1000) :
  Calls Try.prog 57 #[.slice (some ⟨kb, 0, none⟩) l.length c, .int .u32 x] w fun e w' => ∃ k : Int, e = .returned (.int .i64 k) ∧ decide (0 ≤ k) = l.contains x ∧ Upd [] w w' := by
 have HC : ∀ i, i < l.length → w.cell? ⟨kb, i, none⟩ = some (.int .u32 (l.getD i 0)) := fun i hi => by
  rcases hb with hb | hb
  ·rw [Ya hb]; exact hC i hi
  ·rw [Ya hb]; exact hC i hi
 obtain ⟨n, hn⟩ : ∃ n, l.length = n := ⟨_, rfl⟩
 rw [hn] at hl HC ⊢
 have HX := Yh_ (And.intro HC hn)
 clear HC hC hb hn
 go_enter Try.func57, Try.ntmps57
 go_wp2_with fail
 go_loopw [5, 8] (fun _ i wr => ∃ k : Nat, k ≤ n ∧ i = .int .i64 k ∧ (Hid (∀ j, j < k → l.getD j 0 ≠ x)) ∧ wr = w) (fun _ i _ => n - (intOf i).toNat)
 case atStart => exact ⟨0, Nat.zero_le _, rfl, Yh_ (fun j hj => by omega), rfl⟩
 case round =>
  obtain ⟨k, hk, rfl, hno, rfl⟩ := hrel
  by_cases hlt : k < n
  ·have hc := HX.out.1 k hlt
   by_cases he : l.getD k 0 = x
   ·rw [he] at hc
    go_wp2_with fail
    go_ret
    refine ⟨k, rfl, ?_, Upd.refl _ _⟩
    rw [decide_eq_true (by omega)]
    symm
    rw [List.contains_iff_mem]
    rw [← he, List.getD_eq_getElem?_getD, List.getElem?_eq_getElem (by rw [HX.out.2]; exact hlt)]
    exact List.getElem_mem _
   ·obtain ⟨y, hy⟩ : ∃ y, l.getD k 0 = y := ⟨_, rfl⟩
    rw [hy] at hc he
    have q1 : (x == y) = false := by simp; exact fun e => he e.symm
    have HY := Yh_ (And.intro hy he)
    clear hy he
    go_wp2_with fail
    go_roundw
    case rel =>
     refine ⟨k + 1, by omega, by go_num, Yh_ fun j hj => ?_, trivial⟩
     by_cases e : j = k
     ·subst e; rw [HY.out.1]; exact HY.out.2
     ·exact hno.out j (by omega)
    case measure => simp [intOf]; omega
  ·have hkn : k = n := by omega
   subst hkn
   go_wp2_with fail
   go_ret
   refine ⟨-1, rfl, ?_, Upd.refl _ _⟩
   rw [decide_eq_false (by omega)]
   symm
   rw [← Bool.not_eq_true, List.contains_iff_mem]
   intro hm
   obtain ⟨j, hj, e⟩ := List.getElem_of_mem hm
   exact hno.out j (by rw [← HX.out.2]; exact hj) (by rw [List.getD_eq_getElem?_getD, List.getElem?_eq_getElem hj]; exact e)
theorem Ybs (l : List Int) (kb c : Nat) (C : Array Value) (x : Int) (w : World) (hb : w.heap[kb]? = some (.cells C 31 (0, 0)) ∨ w.heap[kb]? = some (.cells C 56 (0, 0))) (hC : ∀ i, i < l.length → C[i]? = some (.int .u32 (l.getD i 0))) (hl : l.length < 1000) :
  Calls Try.prog 33 #[.slice (some ⟨kb, 0, none⟩) l.length c, .int .u32 x] w fun e w' => e = .returned (.bool (l.contains x)) ∧ Upd [] w w' := by
 obtain ⟨bb, hbb⟩ : ∃ bb, l.contains x = bb := ⟨_, rfl⟩
 rw [hbb]
 have HB := Yh_ hbb
 clear hbb
 go_enter Try.func33, Try.ntmps33
 go_wp2_with (go_at_call 57; refine (Yf0 l kb c C x _ hb hC hl).mono ?_; rintro e w1 ⟨k, rfl, hk, hu⟩; rw [HB.out] at hk)
 go_ret
 exact ⟨rfl, hu⟩
theorem Yek (e : Ev) (hd : 0 ≤ e.d ∧ e.d < 4294967296) (w : World) : Calls Try.prog 53 #[e.val] w fun x w' => x = .returned (.int .i64 (min e.d 64)) ∧ Upd [] w w' := by
 obtain ⟨n, b, c, d, r, s⟩ := e
 have hd : 0 ≤ d ∧ d < 4294967296 := hd
 show Calls Try.prog 53 #[.agg #[.int .u32 n, .int .u32 b, .int .u32 c, .int .u32 d, .int .u32 r, .string s]] w fun x w' => x = .returned (.int .i64 (min d 64)) ∧ Upd [] w w'
 obtain ⟨m, hm⟩ : ∃ m, min d 64 = m := ⟨_, rfl⟩
 have h64 : (if (64 : Int) < d then 64 else d) = m := by rw [← hm]; omega
 rw [hm]
 by_cases h : 64 < d
 ·rw [if_pos h] at h64
  subst h64
  clear hm
  go_enter Try.func53, Try.ntmps53
  go_wp2_with fail
  go_ret
  exact ⟨rfl, (Upd.refl [] w).alloc _⟩
 ·rw [if_neg h] at h64
  subst h64
  clear hm
  go_enter Try.func53, Try.ntmps53
  go_wp2_with fail
  go_ret
  exact ⟨rfl, (Upd.refl [] w).alloc _⟩
theorem Left_any (c b g k n : Nat) (l : List Int) (inp : ByteArray) (D : DataW Value) (w : World) (h : Yat w c b g l inp k n D) :
  Calls Try.prog 14 #[.pointer (some ⟨c, 0, none⟩)] w fun e w' => e = .returned (.tuple #[.int .i64 l.length, .int .i64 inp.size]) ∧ Upd [] w w' := by
 obtain ⟨v, h1, h2⟩ := h.hd
 obtain ⟨a, cp, rfl⟩ := h2.form
 have hc := Ya h1
 clear h h1 h2
 go_enter Try.func14, Try.ntmps14
 go_wp2_with fail
 go_quiet (fail)
 go_wp2_with fail
 go_ret2
 exact ⟨rfl, Yu (Upd.refl [] w) _⟩
end
structure Yb2 where
 pg : Int
 ct : Int
 rt : Int
 by_ : ByteArray
 deriving Inhabited
def Yb2.ok (s : Yb2) : Prop := -9223372036854775808 ≤ s.ct ∧ s.ct ≤ 9223372036854775807
def Yc8 (w : World) (v : Value) (l : List Yb2) (g : Nat) : Prop :=
 (∃ a c, v = .slice a 0 c ∧ l = []) ∨
 ∃ o c, v = .slice (some ⟨g, o, none⟩) l.length c ∧ g < w.heap.size ∧ l.length ≤ 9223372036854775807 ∧ ∀ i s, l[i]? = some s → w.cell? ⟨g, o + i * 4, none⟩ = some (.int .i64 s.pg) ∧ w.cell? ⟨g, o + i * 4 + 1, none⟩ = some (.int .i64 s.ct) ∧ w.cell? ⟨g, o + i * 4 + 2, none⟩ = some (.int .i64 s.rt) ∧ w.cell? ⟨g, o + i * 4 + 3, none⟩ = some (.string s.by_)
theorem Yc8.keep {w w' : World} {v : Value} {l : List Yb2} {g : Nat} {S : List Nat} (h : Yc8 w v l g) (u : Upd S w w') (hg : g ∉ S) : Yc8 w' v l g := by
 rcases h with h | ⟨o, c, h1, h2, h4, h3⟩
 ·exact .inl h
 ·refine .inr ⟨o, c, h1, Nat.lt_of_lt_of_le h2 u.size, h4, fun i s hs => ?_⟩
  have e : ∀ k, w'.cell? ⟨g, k, none⟩ = w.cell? ⟨g, k, none⟩ := fun k => by
   simp only [World.cell?]; rw [u.block g h2 hg]
  rw [e, e, e, e]
  exact h3 i s hs
def Yn (s : ByteArray) : List Int := s.data.toList.map fun b => (b.toNat : Int)
theorem Yeu (s : ByteArray) (i : Nat) : 0 ≤ (Yn s).getD i 0 ∧ (Yn s).getD i 0 ≤ 255 := by
 rw [List.getD_eq_getElem?_getD, Yn, List.getElem?_map]
 cases s.data.toList[i]? with
 |none => simp
 |some b =>
  have h := b.toNat_lt
  simp only [Option.map_some, Option.getD_some]
  exact ⟨by omega, by omega⟩
section
open Go.WideShapes Go.ChangeShapes
structure Yb2.Ok (s : Yb2) : Prop where
 pg : -9223372036854775808 ≤ s.pg ∧ s.pg ≤ 9223372036854775807
 ct : -9223372036854775808 ≤ s.ct ∧ s.ct ≤ 9223372036854775807
 rt : -9223372036854775808 ≤ s.rt ∧ s.rt ≤ 9223372036854775807
 by_ : s.by_.size ≤ maxLen
theorem wf_i64 {z : Int} (h : (Lit.int .i64 z).wf = true) : -9223372036854775808 ≤ z ∧ z ≤ 9223372036854775807 := by
 simp only [Lit.wf, Bool.and_eq_true, decide_eq_true_eq] at h
 have h1 : IntKind.i64.min = -9223372036854775808 := by decide
 have h2 : IntKind.i64.max = 9223372036854775807 := by decide
 omega
structure SArg (w : World) (v : Value) (L : List Yb2) (g : Nat) : Prop where
 sp : Yc8 w v L g
 ok : ∀ s ∈ L, s.Ok
 len : L.length ≤ maxLen
 lt : g ≤ w.heap.size
 form : ∀ b n c, v = .slice b n c → n = L.length
theorem SArg.keep {w w' : World} {v : Value} {L : List Yb2} {g : Nat} (h : SArg w v L g) (u : Upd [] w w') : SArg w' v L g :=
 ⟨h.sp.keep u (by simp), h.ok, h.len, Nat.le_trans h.lt u.size, h.form⟩
end
theorem wr_zero (M : Mem) (p k : Nat) (h : p + k ≤ 64) : wr M.cells (p * 257) (Builtin.zeroCells Ym k).toList = (M.mapN p k 0).cells := by
 have hl : (Builtin.zeroCells Ym k).toList.length = k * 257 := by simp [Builtin.zeroCells, Yw]
 apply Array.ext_getElem?
 intro i
 rw [Yc5 _ _ _ _ (by rw [hl, M.size_cells]; omega), hl]
 by_cases hk : i < 16448
 ·rw [Mem.getElem?_cells _ _ hk, Mem.getElem?_cells _ _ hk]
  by_cases e : p * 257 ≤ i ∧ i < p * 257 + k * 257
  ·rw [if_pos e]
   have h1 : i - p * 257 < k * 257 := by omega
   rw [Array.getElem?_toList, Builtin.zeroCells, Array.getElem?_map, Array.getElem?_range, Yw, if_pos h1]
   simp only [Option.map_some, Option.some.injEq]
   have hz := Yb7 (i - p * 257)
   rw [Yw] at hz
   rw [hz]
   have hm : (i - p * 257) % 257 = i % 257 := by omega
   have hp : p ≤ i / 257 ∧ i / 257 < p + k := by omega
   simp only [Mem.at_, hm, Mem.zero, Mem.mapN]
   by_cases e2 : i % 257 = 0
   ·simp [e2, hp]
   ·have hq := Nat.mod_lt i (show 257 > 0 by decide)
    have : (i / 257 * 256 + (i % 257 - 1)) / 256 = i / 257 := by omega
    simp [e2, this, hp]
  ·rw [if_neg e]
   have hp : ¬ (p ≤ i / 257 ∧ i / 257 < p + k) := by omega
   simp only [Mem.at_, Mem.mapN]
   by_cases e2 : i % 257 = 0
   ·simp [e2, hp]
   ·have hq := Nat.mod_lt i (show 257 > 0 by decide)
    have : (i / 257 * 256 + (i % 257 - 1)) / 256 = i / 257 := by omega
    simp [e2, this, hp]
 ·rw [if_neg (by omega), Array.getElem?_eq_none (by rw [Mem.size_cells]; omega), Array.getElem?_eq_none (by rw [Mem.size_cells]; omega)]
theorem zero_one (k : Nat) : (Builtin.zeroCells Ym k).all (·.oneCell') = true := by
 rw [Array.all_eq_true_iff_forall_mem]
 intro v hv
 simp only [Builtin.zeroCells, Array.mem_map] at hv
 obtain ⟨j, _, rfl⟩ := hv
 rw [Yb7]
 exact Mem.at_one _ _
theorem Yem (M : Mem) (a pb p k c : Nat) (w : World) (hM : Yd w a pb M) (hk : 0 < k) (h : p + k ≤ 64) (ty : TypeId) (cs : Array Bool) :
  (builtin .clear #[76] ty cs #[.slice (some ⟨pb, p * 257, none⟩) k c]).run Try.prog w = .ok (.value (.tuple #[])) (w.setCells pb (p * 257) (Builtin.zeroCells Ym k).toList) := by
 rw [BigFrame.builtin_clear]
 have hz : (zeroValue 89).run Try.prog w = .ok (.agg Ym) w := by
  simp [zeroValue, Yby]
 have hl : (Builtin.zeroCells Ym k).size = k * 257 := by simp [Builtin.zeroCells, Yw]
 have ht := hM.there (p * 257) (k * 257) (by omega)
 have hs := run_storeCells_cells (P := Try.prog) pb (p * 257) (Builtin.zeroCells Ym k).toList 0 w (fun j hj => by simpa using (ht j (by simpa [hl] using hj)).1) (fun j hj => by simpa using (ht j (by simpa [hl] using hj)).2)
  (fun v hv => (Array.all_eq_true_iff_forall_mem.1 (zero_one k)) v (by simpa using hv))
 obtain ⟨j, rfl⟩ : ∃ j, k = j + 1 := ⟨k - 1, by omega⟩
 unfold Builtin.clear_
 simp only [Nat.add_zero] at hs
 simp [Sem.run_bind, hz, Value.cells, hs]
theorem Unmap_no (M : Mem) (a pb : Nat) (at_ n : Int) (w : World) (hM : Yd w a pb M) (hn : -9223372036854775808 ≤ n) (h : M.unmapB at_ n = false) :
  Calls Try.prog 58 #[.pointer (some ⟨a, 0, none⟩), .int .i64 at_, .int .i64 n] w fun e w' => e = .returned (.int .i64 61) ∧ Upd [] w w' := by
 have HA := Yh_ h
 clear h
 go_enter Try.func58, Try.ntmps58
 go_wp2_with (first | (go_at_call 28; refine (Yb5 M a pb at_ n true _ hM hn).mono ?_; rintro e w' ⟨rfl, hU⟩; rw [show M.all at_ n true = false from HA.out]))
 go_ret
 exact ⟨rfl, hU⟩
theorem Ygr (M : Mem) (a pb : Nat) (at_ n : Int) (w : World) (hM : Yd w a pb M) (hn : -9223372036854775808 ≤ n) (h : M.unmapB at_ n = true) :
  Calls Try.prog 58 #[.pointer (some ⟨a, 0, none⟩), .int .i64 at_, .int .i64 n] w fun e w' => e = .returned (.int .i64 0) ∧ Yd w' a pb (M.mapN at_.toNat n.toNat 0) ∧ Upd [pb] w w' := by
 have ha : M.all at_ n true = true := h
 have hrow : rowB at_ n = true := by
  simp only [Mem.all, Bool.and_eq_true] at ha; exact ha.1
 obtain ⟨g1, g2, g3, g4⟩ := (Ybt at_ n).1 hrow
 have HA := Yh_ ha
 have HW := Yh_ hrow
 clear h ha hrow
 obtain ⟨p, rfl⟩ := Int.eq_ofNat_of_zero_le g1
 obtain ⟨k, rfl⟩ := Int.eq_ofNat_of_zero_le (show 0 ≤ n by omega)
 rw [Int.toNat_natCast, Int.toNat_natCast]
 go_enter Try.func58, Try.ntmps58
 go_wp2_with (first | (go_at_call 28; refine (Yb5 M a pb p k true _ hM hn).mono ?_; rintro e w1 ⟨rfl, hU⟩; rw [HA.out]; have hM1 := hM.keep hU (by simp) (by simp); have HU := Yh_ hU; have HM1 := Yh_ hM1; clear hU hM1) | (go_at_call 29; refine (Yc7 a pb p k _ M HM1.out HW.out).mono ?_; rintro e w2 ⟨cc, rfl, rfl⟩; rw [Int.toNat_natCast, Int.toNat_natCast]) | (refine Yeg rfl .clear _ #[76] rfl (.slice (some ⟨pb, p * 257, none⟩) k cc) rfl (.tuple #[]) _ (Yem M a pb p k cc _ HM1.out (by omega) (by omega) _) ?_))
 go_ret
 exact ⟨rfl, HM1.out.wr _ _ (by simp [Builtin.zeroCells, Yw]; omega) (wr_zero _ _ _ (by omega)) (HM1.out.ok.mapN_ok' _ _), (HU.out.mono (T := [pb]) (by simp)).setCells (by simp) _ _⟩
theorem Ygi (M : Mem) (a pb : Nat) (at_ n r : Int) (w : World) (hM : Yd w a pb M) (hn : -9223372036854775808 ≤ n) (h : M.protB at_ n r = false) :
  Calls Try.prog 59 #[.pointer (some ⟨a, 0, none⟩), .int .i64 at_, .int .i64 n, .int .i64 r] w fun e w' => e = .returned (.int .i64 61) ∧ Upd [] w w' := by
 cases hr : Ybk r
 ·have HR := Yh_ hr
  clear hr h
  go_enter Try.func59, Try.ntmps59
  go_wp2_with (first | (go_at_call 27; refine (Yaz r _).mono ?_; rintro e w' ⟨rfl, rfl⟩; rw [HR.out]))
  go_ret
  exact ⟨rfl, Upd.refl _ _⟩
 ·have ha : M.all at_ n true = false := by simpa [Mem.protB, hr] using h
  have HR := Yh_ hr
  have HA := Yh_ ha
  clear hr h ha
  go_enter Try.func59, Try.ntmps59
  go_wp2_with (first | (go_at_call 27; refine (Yaz r _).mono ?_; rintro e w' ⟨rfl, rfl⟩; rw [HR.out]) | (go_at_call 28; refine (Yb5 M a pb at_ n true _ hM hn).mono ?_; rintro e w' ⟨rfl, hU⟩; rw [HA.out]))
  go_ret
  exact ⟨rfl, hU⟩
theorem Yf5 (M : Mem) (a pb : Nat) (at_ n r : Int) (w : World) (hM : Yd w a pb M) (hn : -9223372036854775808 ≤ n) (h : M.protB at_ n r = true) :
  Calls Try.prog 59 #[.pointer (some ⟨a, 0, none⟩), .int .i64 at_, .int .i64 n, .int .i64 r] w fun e w' => e = .returned (.int .i64 0) ∧ Yd w' a pb (M.protN at_.toNat n.toNat r) ∧ Upd [pb] w w' := by
 simp only [Mem.protB, Bool.and_eq_true] at h
 obtain ⟨hr, ha⟩ := h
 have hrow : rowB at_ n = true := by
  simp only [Mem.all, Bool.and_eq_true] at ha; exact ha.1
 obtain ⟨g1, g2, g3, g4⟩ := (Ybt at_ n).1 hrow
 have HR := Yh_ hr
 have HA := Yh_ ha
 have HW := Yh_ hrow
 clear hr ha hrow
 obtain ⟨p, rfl⟩ := Int.eq_ofNat_of_zero_le g1
 obtain ⟨k, rfl⟩ := Int.eq_ofNat_of_zero_le (show 0 ≤ n by omega)
 rw [Int.toNat_natCast, Int.toNat_natCast]
 go_enter Try.func59, Try.ntmps59
 go_wp2_with (first | (go_at_call 27; refine (Yaz r _).mono ?_; rintro e w' ⟨rfl, rfl⟩; rw [HR.out]) | (go_at_call 28; refine (Yb5 M a pb p k true _ hM hn).mono ?_; rintro e w1 ⟨rfl, hU⟩; rw [HA.out]; have hM1 := hM.keep hU (by simp) (by simp); have HU := Yh_ hU; have HM1 := Yh_ hM1; clear hU hM1) | (go_at_call 29; refine (Yc7 a pb p k _ M HM1.out HW.out).mono ?_; rintro e w2 ⟨cc, rfl, rfl⟩; rw [Int.toNat_natCast, Int.toNat_natCast]))
 go_loopw [11, 31] (fun _ i wr => ∃ j : Nat, j ≤ k ∧ i = .int .i64 j ∧ Yd wr a pb (M.protN p j r) ∧ Upd [pb] w wr) (fun _ i _ => k - (intOf i).toNat)
 case atStart => exact ⟨0, Nat.zero_le _, rfl, by rw [Mem.protN_zero]; exact HM1.out, HU.out.mono (by simp)⟩
 case round =>
  obtain ⟨j, hj, rfl, hMj, hUj⟩ := hrel
  have hc : p + j < 64 → wr.cell? ⟨pb, p * 257 + j * 257, none⟩ = some (.int .i64 ((M.protN p j r).R (p + j))) := fun h => by
   rw [← hMj.cR _ h, Nat.add_mul]
  have hf : wr.frozen? ⟨pb, p * 257 + j * 257, none⟩ = false := hMj.free _
  have HMj := Yh_ hMj
  have HUj := Yh_ hUj
  clear hMj hUj
  by_cases hlt : j < k
  ·have hc := hc (by omega)
   go_wp2
   go_roundw
   case rel =>
    refine ⟨j + 1, by omega, by go_num, ?_, HUj.out.setCell (by simp) _⟩
    have h := HMj.out.set ((p + j) * 257) (.int .i64 r) (by omega) (Mem.cells_setR _ _ _ (by omega)) (by rw [Mem.protN_succ]; exact Mem.protN_ok HM1.out.ok _ _ (by have := (Yce r).1 HR.out; omega) ((Yce r).1 HR.out).2)
    rw [Mem.protN_succ, Nat.add_mul] at h
    exact h
   case measure => simp [intOf]; omega
  ·clear hc
   go_wp2
   go_ret
   have e : j = k := by omega
   subst e
   exact ⟨rfl, HMj.out, HUj.out⟩
theorem Upd.drewN {S : List Nat} {a b : World} (h : Upd S a b) (n : Nat) : Upd S a (b.drewN n) := ⟨h.os, h.tape, h.output, h.size, h.block⟩
def Mem.rat (M : Mem) (k : Nat) : Value := if k < 64 then .int .i64 (M.R k) else .int .u8 (M.B (k - 64))
structure Yeq (C : Array Value) (M : Mem) : Prop where
 size : C.size = 16448
 get : ∀ k, k < 16448 → C[k]? = some (M.rat k)
structure Yaf (w : World) (r : Nat) (M : Mem) : Prop where
 ex : ∃ C, Yeq C M ∧ w.heap[r]? = some (.cells C 55 (0, 0))
 ok : M.Ok
theorem Yaf.lt {w : World} {r : Nat} {M : Mem} (h : Yaf w r M) : r < w.heap.size := by
 obtain ⟨C, _, h1⟩ := h.ex; exact Yj h1
theorem Yaf.keep {w w' : World} {r : Nat} {M : Mem} {S : List Nat} (h : Yaf w r M) (u : Upd S w w') (hr : r ∉ S) : Yaf w' r M := by
 obtain ⟨C, h1, h2⟩ := h.ex
 exact ⟨⟨C, h1, u.get h2 hr⟩, h.ok⟩
theorem Yaf.cR {w : World} {r : Nat} {M : Mem} (h : Yaf w r M) (p : Nat) (hp : p < 64) : w.cell? ⟨r, p, none⟩ = some (.int .i64 (M.R p)) := by
 obtain ⟨C, h1, h2⟩ := h.ex
 rw [Ya h2, h1.get p (by omega), Mem.rat, if_pos hp]
theorem Yaf.cB {w : World} {r : Nat} {M : Mem} (h : Yaf w r M) (a : Nat) (ha : a < 16384) : w.cell? ⟨r, 64 + a, none⟩ = some (.int .u8 (M.B a)) := by
 obtain ⟨C, h1, h2⟩ := h.ex
 rw [Ya h2, h1.get _ (by omega), Mem.rat, if_neg (by omega), Nat.add_sub_cancel_left]
theorem Yaf.free {w : World} {r : Nat} {M : Mem} (h : Yaf w r M) (o : Nat) : w.frozen? ⟨r, o, none⟩ = false := by
 obtain ⟨C, h1, h2⟩ := h.ex
 exact Yh h2 o
theorem Yaf.setR {w : World} {r : Nat} {M : Mem} (h : Yaf w r M) (p : Nat) (v : Int) (hp : p < 64) (h0 : 0 ≤ v) (h7 : v ≤ 7) : Yaf (w.setCell ⟨r, p, none⟩ (.int .i64 v)) r (M.setR p v) := by
 obtain ⟨C, h1, h2⟩ := h.ex
 refine ⟨⟨_, ⟨by rw [Array.size_setIfInBounds]; exact h1.size, fun k hk => ?_⟩, Ye h2 p _⟩, Mem.setR_ok h.ok p h0 h7⟩
 rw [Array.getElem?_setIfInBounds, h1.get k hk, h1.size]
 by_cases e : p = k
 ·subst e
  rw [if_pos rfl, if_pos (by omega), Mem.rat, if_pos hp]
  simp [Mem.setR]
 ·rw [if_neg e]
  simp only [Mem.rat, Mem.setR]
  by_cases hk2 : k < 64
  ·rw [if_pos hk2, if_pos hk2, if_neg (fun h => e h.symm)]
  ·rw [if_neg hk2, if_neg hk2]
theorem Yaf.setB {w : World} {r : Nat} {M : Mem} (h : Yaf w r M) (a : Nat) (v : Int) (ha : a < 16384) (h0 : 0 ≤ v) (h7 : v ≤ 255) : Yaf (w.setCell ⟨r, 64 + a, none⟩ (.int .u8 v)) r (M.setB a v) := by
 obtain ⟨C, h1, h2⟩ := h.ex
 refine ⟨⟨_, ⟨by rw [Array.size_setIfInBounds]; exact h1.size, fun k hk => ?_⟩, Ye h2 _ _⟩, Mem.setB_ok h.ok a h0 h7⟩
 rw [Array.getElem?_setIfInBounds, h1.get k hk, h1.size]
 by_cases e : 64 + a = k
 ·subst e
  rw [if_pos rfl, if_pos (by omega), Mem.rat, if_neg (by omega), Nat.add_sub_cancel_left]
  simp [Mem.setB]
 ·rw [if_neg e]
  simp only [Mem.rat, Mem.setB]
  by_cases hk2 : k < 64
  ·rw [if_pos hk2, if_pos hk2]
  ·rw [if_neg hk2, if_neg hk2, if_neg (by omega)]
def Mem.mapM (M : Mem) (p n r : Int) : Mem := if M.mapB p n r then M.mapN p.toNat n.toNat r else M
def Mem.unmapM (M : Mem) (p n : Int) : Mem := if M.unmapB p n then M.mapN p.toNat n.toNat 0 else M
def Mem.protM (M : Mem) (p n r : Int) : Mem := if M.protB p n r then M.protN p.toNat n.toNat r else M
structure Yd6 (M : Mem) (a pb : Nat) (w : World) (w1 : World) : Prop where
 f : w1.heap[w.heap.size]? = some (.cells #[.int .i64 0, .int .u32 0, .int .u32 0, .int .i64 0] 119 (0, 0))
 k : w1.heap[w.heap.size + 1]? = some (.cells #[.bool false] 4 (0, 0))
 m : Yd w1 a pb M
 u : Upd [pb] w w1
 al : a < w.heap.size
 pl : pb < w.heap.size
structure Ycx (M : Mem) (a pb : Nat) (w : World) (g : Nat) (cur : Array Value) (w1 : World) : Prop where
 f : w1.heap[w.heap.size]? = some (.cells #[.int .i64 0, .int .u32 0, .int .u32 0, .int .i64 0] 119 (0, 0))
 k : w1.heap[w.heap.size + 1]? = some (.cells #[.bool false] 4 (0, 0))
 m : Yd w1 a pb M
 u : Upd [pb] w w1
 g : w1.heap[g]? = some (.cells cur 138 (0, 0))
theorem Ycx.store {M : Mem} {a pb : Nat} {w w1 : World} {g : Nat} {cur : Array Value} (h : Ycx M a pb w g cur w1) (ha : a < w.heap.size) (hp : pb < w.heap.size) (hg : w.heap.size ≤ g) {y : Int} (h0 : 0 ≤ y) (h1 : y < 16384) {b : Int} (hb0 : 0 ≤ b) (hb1 : b ≤ 255) :
  Ycx (M.setB y.toNat b) a pb w g cur (w1.setCell ⟨pb, Yap y, none⟩ (.int .u8 b)) :=
 ⟨Yc _ (by simp <;> omega) h.f, Yc _ (by simp <;> omega) h.k, h.m.store h0 h1 hb0 hb1, h.u.setCell (by simp) _, Yc _ (by simp <;> omega) h.g⟩
def Mem.putN (M : Mem) (x v : Int) : Nat → Mem
 |0 => M
 |j + 1 => (M.putN x v j).setB (Yf x j).toNat (v / 2 ^ (8 * j) % 256)
theorem Mem.putN_R (M : Mem) (x v : Int) : ∀ j, (M.putN x v j).R = M.R
 |0 => rfl
 |j + 1 => Mem.putN_R M x v j
def ptrs (pb : Nat) (x : Int) (j : Nat) : List Value := (List.range j).map fun t => .pointer (some ⟨pb, Yap (Yf x t), none⟩)
theorem Ygx (pb : Nat) (x : Int) (j : Nat) : ptrs pb x (j + 1) = ptrs pb x j ++ [.pointer (some ⟨pb, Yap (Yf x j), none⟩)] := by
 simp [ptrs, List.range_succ]
theorem ptrs_get (pb : Nat) (x : Int) (n j : Nat) (hj : j < n) : (ptrs pb x n)[j]? = some (.pointer (some ⟨pb, Yap (Yf x j), none⟩)) := by
 simp [ptrs, hj]
theorem info_pu8 : (Try.prog.info? 138).map (fun i => (i.zero, i.size, i.bytes)) = some (some (.pointer none), 1, 8) := by kernel_rfl
theorem Ycp (tmps : Array Value) (fb kb : Nat) (y0 y1 y2 y3 : Int) (k : Bool) (w : World) (h8 : tmps.getD 8 undef = .pointer (some ⟨fb, 0, none⟩)) (h9 : tmps.getD 9 undef = .pointer (some ⟨kb, 0, none⟩))
  (hf : w.heap[fb]? = some (.cells #[.int .i64 y0, .int .u32 y1, .int .u32 y2, .int .i64 y3] 119 (0, 0))) (hk : w.heap[kb]? = some (.cells #[.bool k] 4 (0, 0))) :
  (results Try.f55 tmps).run Try.prog w = .ok (.tuple #[.agg #[.int .i64 y0, .int .u32 y1, .int .u32 y2, .int .i64 y3], .bool k]) w := by
 have cf : ∀ o, w.cell? ⟨fb, o, none⟩ = #[.int .i64 y0, .int .u32 y1, .int .u32 y2, .int .i64 y3][o]? := Ya hf
 have ck : ∀ o, w.cell? ⟨kb, o, none⟩ = #[.bool k][o]? := Ya hk
 rw [Array.getD_eq_getD_getElem?] at h8 h9
 simp [results, Try.results55, go_sem, h8, h9, cf, ck]
def Ydm (w : World) : List Deferred :=
 [{ target := .fn (.func 70) #[], args := #[.pointer (some ⟨w.heap.size, 0, none⟩), .pointer (some ⟨w.heap.size + 1, 0, none⟩)] }]
theorem Yd0 (M : Mem) (a pb : Nat) (w w1 : World) (y r : Int) (tmps : Array Value) (R : Ending → World → Prop) (h8 : tmps.getD 8 undef = .pointer (some ⟨w.heap.size, 0, none⟩)) (h9 : tmps.getD 9 undef = .pointer (some ⟨w.heap.size + 1, 0, none⟩)) (hB : Yd6 M a pb w w1)
  (hR : ∀ w', Upd [pb] w w' → Yd w' a pb M → R (.returned (.tuple #[Yad y r, .bool false])) w') :
  Leaves Try.prog Try.f55 tmps R (Ydm w) (.panicking [{ v := .iface 119 (Yad y r), recovered := false }]) w1 := by
 have hal := hB.al
 have hpl := hB.pl
 refine leaves_cons (f := 70) (args := #[.pointer (some ⟨w.heap.size, 0, none⟩), .pointer (some ⟨w.heap.size + 1, 0, none⟩)]) (by simp) (by simp [go_sem]) ?_
 refine (Yb9 _ _ _ _ _ _ _ _ _ _ _ [] w1 hB.f hB.k (by omega)).mono ?_
 rintro e u' w2 ⟨rfl, rfl, hf, hk, hU⟩
 simp only [settle, List.dropWhile_nil]
 exact ⟨_, Ycp _ _ _ _ _ _ _ _ w2 h8 h9 hf hk, hR _ (hB.u.also hU (by simp <;> omega)) (hB.m.keep hU (by simp <;> omega) (by simp <;> omega))⟩
theorem Yez (w w1 : World) (tmps : Array Value) (R : Ending → World → Prop) (h8 : tmps.getD 8 undef = .pointer (some ⟨w.heap.size, 0, none⟩)) (h9 : tmps.getD 9 undef = .pointer (some ⟨w.heap.size + 1, 0, none⟩))
  (hf : w1.heap[w.heap.size]? = some (.cells #[.int .i64 0, .int .u32 0, .int .u32 0, .int .i64 0] 119 (0, 0)))
  (hk : w1.heap[w.heap.size + 1]? = some (.cells #[.bool true] 4 (0, 0)))
  (hR : R (.returned (.tuple #[.agg #[.int .i64 0, .int .u32 0, .int .u32 0, .int .i64 0], .bool true])) w1) :
  Leaves Try.prog Try.f55 tmps R (Ydm w) .returning w1 := by
 refine leaves_cons (f := 70) (args := #[.pointer (some ⟨w.heap.size, 0, none⟩), .pointer (some ⟨w.heap.size + 1, 0, none⟩)]) (by simp) (by simp [go_sem]) ?_
 refine (Ydk _ _ w1).mono ?_
 rintro e u' w2 ⟨rfl, rfl, rfl⟩
 simp only [settle]
 exact ⟨_, Ycp _ _ _ _ _ _ _ _ w1 h8 h9 hf hk, hR⟩
def Mem.writeF (M : Mem) (x bytes : Int) : Value :=
 match M.bad x 2 (Ys bytes).toNat with | none => .agg #[.int .i64 0, .int .u32 0, .int .u32 0, .int .i64 0] | some i => Yad (Yf x i) 2
def Mem.writeK (M : Mem) (x bytes : Int) : Bool := (M.bad x 2 (Ys bytes).toNat).isNone
def Mem.writeM (M : Mem) (x bytes v : Int) : Mem :=
 match M.bad x 2 (Ys bytes).toNat with | none => M.putN x v (Ys bytes).toNat | some _ => M
theorem Ycu (M : Mem) (a pb : Nat) (x bytes v : Int) (w : World) (hM : Yd w a pb M) (h0 : 0 ≤ x) (h1 : x < 4294967296) (hv0 : 0 ≤ v) (hv1 : v < 4294967296) :
  Calls Try.prog 55 #[.pointer (some ⟨a, 0, none⟩), .int .u32 x, .int .i64 bytes, .int .u32 v] w fun e w' =>
   e = .returned (.tuple #[M.writeF x bytes, .bool (M.writeK x bytes)]) ∧ Yd w' a pb (M.writeM x bytes v) ∧ Upd [pb] w w' := by
 have hal := hM.al
 have hpl := hM.pl
 have hw3 := Yde bytes
 obtain ⟨n, hn⟩ : ∃ n : Nat, Ys bytes = n := ⟨(Ys bytes).toNat, by omega⟩
 have HN := Yh_ hn
 have hn4 : n ≤ 4 := by omega
 have hn0 : 0 < n := by omega
 clear hw3 hn
 obtain ⟨i0, hi, hz0, hz1, hz2⟩ := info_parts info_pu8
 have HI := Yh_ (And.intro hi (And.intro hz0 (And.intro hz1 hz2)))
 clear hi hz0 hz1 hz2
 have hfinP : ∀ (j : Nat) (w' : World), j < n → (∀ t, t < j → M.can (Yf x t) 2 = true) → M.can (Yf x j) 2 = false → Upd [pb] w w' → Yd w' a pb M →
   (fun e w' => e = Ending.returned (.tuple #[M.writeF x bytes, .bool (M.writeK x bytes)]) ∧ Yd w' a pb (M.writeM x bytes v) ∧ Upd [pb] w w') (.returned (.tuple #[Yad (Yf x j) 2, .bool false])) w' := by
  intro j w' hj hc hb hU hm
  have hbad := Yfi M x 2 n j hj hc hb
  simp only [Mem.writeF, Mem.writeK, Mem.writeM, HN.out, Int.toNat_natCast, hbad]
  exact ⟨rfl, hm, hU⟩
 have HFP := Yh_ hfinP
 clear hfinP
 have hfinK : ∀ (w' : World), (∀ t, t < n → M.can (Yf x t) 2 = true) → Upd [pb] w w' → Yd w' a pb (M.putN x v n) →
   (fun e w' => e = Ending.returned (.tuple #[M.writeF x bytes, .bool (M.writeK x bytes)]) ∧ Yd w' a pb (M.writeM x bytes v) ∧ Upd [pb] w w') (.returned (.tuple #[.agg #[.int .i64 0, .int .u32 0, .int .u32 0, .int .i64 0], .bool true])) w' := by
  intro w' hc hU hm
  have hbad := Yfu M x 2 n hc
  simp only [Mem.writeF, Mem.writeK, Mem.writeM, HN.out, Int.toNat_natCast, hbad]
  exact ⟨rfl, hm, hU⟩
 have HFK := Yh_ hfinK
 clear hfinK
 have hstart : Yd6 M a pb w ((w.alloc (Obj.cells #[Value.int IntKind.i64 0, Value.int IntKind.u32 0, Value.int IntKind.u32 0, Value.int IntKind.i64 0] 119)).alloc (Obj.cells #[Value.bool false] 4)) := by
  refine ⟨heap_alloc2_old _ _ _, heap_alloc2_new _ _ _, ?_, ?_, hal, hpl⟩
  ·exact hM.keep (S := []) (((Upd.refl _ _).alloc _).alloc _) (by simp) (by simp)
  ·exact ((Upd.refl _ _).alloc _).alloc _
 have HS := Yh_ hstart
 clear hstart hM
 go_enter_defers Try.func55, Try.ntmps55
 go_wp2_with (go_at_call 71; refine (Ycd bytes _).mono ?_; rintro e w' ⟨rfl, rfl⟩; rw [HN.out])
 go_loopw [10, 11, 16] (fun s _ i wr => ∃ j : Nat, j ≤ n ∧ i = .int .i64 j ∧ (∀ t, t < j → M.can (Yf x t) 2 = true) ∧ Yd6 M a pb w wr ∧ wr.ownsRow (w.heap.size + 2) 138 1 s j (ptrs pb x j) ∧ w.heap.size + 2 ≤ wr.heap.size) (fun _ _ i _ => n - (intOf i).toNat)
 case atStart => exact ⟨0, Nat.zero_le _, rfl, by simp, HS.out, World.ownsRow_nil _ _ _ _, by simp⟩
 case round =>
  obtain ⟨j, hj, rfl, hcan, hB, hown, hsz⟩ := hrel
  have HC := Yh_ hcan
  have HB := Yh_ hB
  have HO := Yh_ hown
  clear hcan hB hown
  by_cases hlt : j < n
  ·cases hb : M.can (Yf x j) 2
   ·have HBad := Yh_ hb
    clear hb
    go_wp2_with (go_at_call 72; refine (Yef a pb (Yf x j) _ _ M HB.out.m (Yl x j) HBad.out).mono ?_; rintro e w2 ⟨rfl, rfl⟩)
    exact Yd0 M a pb w wr _ _ _ _ rfl rfl HB.out (fun w' hU hm => HFP.out j w' hlt HC.out HBad.out hU hm)
   ·have HGood := Yh_ hb
    clear hb
    go_wp2_with (first | (go_at_call 72; refine (at_ok a pb (Yf x j) _ _ M HB.out.m (Yl x j) HGood.out).mono ?_; rintro e w2 ⟨rfl, rfl⟩) | (at_builtin; refine wpList_append_own _ rfl _ _ 137 rfl (w.heap.size + 2) 138 i0 (.pointer none) 1 8 Try.underlying137 HI.out.1 HI.out.2.1 HI.out.2.2.1 HI.out.2.2.2 rfl (by decide) _ _ _ rfl (HO.out.alloc _) ⟨wr.heap.size, 0, none⟩ 1 1 [.pointer (some ⟨pb, Yap (Yf x j), none⟩)] rfl rfl ?_ ?_ ?_ ?_ ?_ ?_))
    ·intro t u hu
     rcases t with _ | t
     ·simp only [List.getElem?_cons_zero, Option.some.injEq] at hu
      subst hu
      rw [Addr.add_mid, Ya (heap_alloc_new _ _)]
      rfl
     ·simp at hu
    ·intro u hu
     simp only [List.mem_singleton] at hu
     subst hu; rfl
    ·unfold maxLen; omega
    ·omega
    ·simp; omega
    ·intro v' w1 hown' hgrow _
     have hU1 := Upd.of_grown hgrow
     have hB' : Yd6 M a pb w w1 := by
      have hlt' := HO.out.lt
      have hU2 : Upd u10.ownBlock.toList wr w1 := ((Upd.refl [] wr).alloc _).trans hU1 (by simp) (fun z hz => .inl hz)
      have hne : ∀ z, z ∈ u10.ownBlock.toList → w.heap.size + 2 ≤ z := fun z hz => (hlt' z (by simpa using hz)).1
      have hal := HB.out.al
      have hpl := HB.out.pl
      exact ⟨hU2.get HB.out.f (fun h => by have := hne _ h; omega), hU2.get HB.out.k (fun h => by have := hne _ h; omega), HB.out.m.keep hU2 (fun h => by have := hne _ h; omega) (fun h => by have := hne _ h; omega), HB.out.u.also hU2 (fun z hz => .inr (by have := hne z hz; omega)), hal, hpl⟩
     have hsz' := hgrow.size
     have HB' := Yh_ hB'
     have HO' := Yh_ hown'
     have HS' := Yh_ hsz'
     clear hB' hown' hgrow hU1 hsz'
     go_wp2_with fail
     go_roundw
     case rel => exact ⟨j + 1, by omega, by go_num, fun t ht => by
       by_cases e : t = j
       ·subst e; exact HGood.out
       ·exact HC.out t (by omega), HB'.out, by rw [Ygx]; exact HO'.out, by have := HS'.out; simp at this; omega⟩
     case measure => simp [intOf]; omega
  ·have e : j = n := by omega
   obtain ⟨hl, ⟨_, h⟩ | ⟨g, cap, cur, rfl, hg, hh, hc1, hc2, hc3, hc4⟩⟩ := HO.out
   ·omega
   ·subst e
    have hcell : ∀ t, t < j → cur[t]? = some (.pointer (some ⟨pb, Yap (Yf x t), none⟩)) := fun t ht => by
     have := ptrs_get pb x j t ht
     rw [← hc4, List.getElem?_take, if_pos (by omega), Array.getElem?_toList] at this
     exact this
    have HCell := Yh_ hcell
    have hstart2 : Ycx (M.putN x v 0) a pb w g cur wr := ⟨HB.out.f, HB.out.k, HB.out.m, HB.out.u, hh⟩
    have HS2 := Yh_ hstart2
    clear hh hcell hl hstart2 hc3 hc4 HO hsz
    go_wp2_with fail
    go_loopw [12, 13, 31] (fun _ _ i wr => ∃ t : Nat, t ≤ j ∧ i = .int .i64 t ∧ Ycx (M.putN x v t) a pb w g cur wr) (fun _ _ i _ => j - (intOf i).toNat)
    case atStart => exact ⟨0, Nat.zero_le _, rfl, HS2.out⟩
    case round =>
     obtain ⟨t, ht, rfl, hB2⟩ := hrel
     have HB2 := Yh_ hB2
     clear hB2
     by_cases hlt2 : t < j
     ·have cg : wr.cell? ⟨g, t, none⟩ = some (.pointer (some ⟨pb, Yap (Yf x t), none⟩)) := by rw [Ya HB2.out.g]; exact HCell.out t hlt2
      have hx := Yd3 (Yl x t) (HC.out t hlt2)
      have cb := HB2.out.m.cbyte _ (Yl x t) hx
      have fb : ∀ o, wr.frozen? ⟨pb, o, none⟩ = false := HB2.out.m.free
      go_wp2_with fail
      go_roundw
      case rel => exact ⟨t + 1, by omega, by go_num, HB2.out.store hal hpl (by omega) (Yl x t) hx (by omega) (by omega)⟩
      case measure => simp [intOf]; omega
     ·have e2 : t = j := by omega
      subst e2
      have cf : ∀ o, wr.cell? ⟨w.heap.size, o, none⟩ = #[.int .i64 0, .int .u32 0, .int .u32 0, .int .i64 0][o]? := Ya HB2.out.f
      have ff : ∀ o, wr.frozen? ⟨w.heap.size, o, none⟩ = false := Yh HB2.out.f
      have ck : ∀ o, wr.cell? ⟨w.heap.size + 1, o, none⟩ = #[.bool false][o]? := Ya HB2.out.k
      have fk : ∀ o, wr.frozen? ⟨w.heap.size + 1, o, none⟩ = false := Yh HB2.out.k
      go_wp2_with fail
      refine Yez w _ _ _ rfl rfl ?_ ?_ (HFK.out _ HC.out ?_ ?_)
      ·refine Yc _ (by simp) ?_
       have h := Ye (Ye (Ye (Ye HB2.out.f 0 (.int .i64 0)) 1 (.int .u32 0)) 2 (.int .u32 0)) 3 (.int .i64 0)
       exact h
      ·exact Ye (Yc _ (by simp) (Yc _ (by simp) (Yc _ (by simp) (Yc _ (by simp) HB2.out.k)))) 0 _
      ·exact ((((HB2.out.u.setCell (by simp) _).setCell (by simp) _).setCell (by simp) _).setCell (by simp) _).setCell (by simp) _
      ·exact HB2.out.m.keep (S := [w.heap.size, w.heap.size + 1]) (((((Upd.refl _ _).setCell (by simp) _).setCell (by simp) _).setCell (by simp) _).setCell (by simp) _ |>.setCell (by simp) _) (by simp <;> omega) (by simp <;> omega)
theorem Ygm : (Try.prog.info? 119).map (·.size) = some 4 := by kernel_rfl
structure Flt where
 k : Int
 pc : Int
 a : Int
 wt : Int
 deriving DecidableEq
def Flt.cells (f : Flt) : Array Value := #[.int .i64 f.k, .int .u32 f.pc, .int .u32 f.a, .int .i64 f.wt]
def Flt.val (f : Flt) : Value := .agg #[.int .i64 f.k, .int .u32 f.pc, .int .u32 f.a, .int .i64 f.wt]
def Flt.zero : Flt := ⟨0, 0, 0, 0⟩
def Mem.rdF (M : Mem) (x bytes right : Int) : Flt := match M.bad x (Yr right) (Ys bytes).toNat with | none => Flt.zero | some i => ⟨1, 0, Yf x i, Yr right⟩
def Mem.wrF (M : Mem) (x bytes : Int) : Flt := match M.bad x 2 (Ys bytes).toNat with | none => Flt.zero | some i => ⟨1, 0, Yf x i, 2⟩
theorem Mem.readF_val (M : Mem) (x bytes right : Int) : M.readF x bytes right = (M.rdF x bytes right).val := by
 unfold Mem.readF Mem.rdF; cases M.bad x (Yr right) (Ys bytes).toNat <;> rfl
theorem Mem.writeF_val (M : Mem) (x bytes : Int) : M.writeF x bytes = (M.wrF x bytes).val := by
 unfold Mem.writeF Mem.wrF; cases M.bad x 2 (Ys bytes).toNat <;> rfl
theorem Yaf.drew {w : World} {r : Nat} {M : Mem} (h : Yaf w r M) : Yaf w.drew r M := ⟨h.ex, h.ok⟩
structure Rep (v : Value) (l : List Value) (n : Nat) : Prop where
 eq : l = List.replicate n v
theorem Rep.append {v : Value} {l m : List Value} {a b : Nat} (h : Rep v l a) (k : Rep v m b) : Rep v (l.append m) (a + b) :=
 ⟨by rw [h.eq, k.eq]; exact List.replicate_append_replicate⟩
structure Rep2 (v u : Value) (l : List Value) (n m : Nat) : Prop where
 eq : l = List.replicate n v ++ List.replicate m u
theorem Rep2.append {v u : Value} {l l' : List Value} {n m m' : Nat} (h : Rep2 v u l n m) (k : Rep u l' m') : Rep2 v u (l.append l') n (m + m') :=
 ⟨by rw [h.eq, k.eq]; show (List.replicate n v ++ List.replicate m u) ++ List.replicate m' u = _; rw [List.append_assoc, List.replicate_append_replicate]⟩
theorem rat_one (M : Mem) (k : Nat) : (M.rat k).oneCell' = true := by
 unfold Mem.rat; split <;> rfl
theorem Yeq.one {C : Array Value} {M : Mem} (h : Yeq C M) : C.all (·.oneCell') = true := by
 rw [Array.all_eq_true]
 intro i hi
 have hi' : i < 16448 := by rw [← h.size]; exact hi
 have e := h.get i hi'
 rw [Array.getElem?_eq_getElem hi] at e
 injection e with e
 rw [e]
 exact rat_one M i
theorem Yaf.new {w : World} {C : Array Value} {M : Mem} (h : Yeq C M) (hok : M.Ok) : Yaf (w.alloc (.cells C 55 (0, 0))) w.heap.size M := ⟨⟨C, h, heap_alloc_new _ _⟩, hok⟩
section
open Go.WideShapes Go.ChangeShapes
def ByS0 (w : World) (v : Value) (l : List Int) (g : Nat) : Prop := (∃ a c, v = .slice a 0 c ∧ l = []) ∨ (l ≠ [] ∧ g < w.heap.size ∧ Ya3 w v l g)
theorem ByS0.keep {w w' : World} {v : Value} {l : List Int} {g : Nat} (h : ByS0 w v l g) (u : Upd [] w w') : ByS0 w' v l g := by
 rcases h with h | ⟨h0, h1, h2⟩
 ·exact .inl h
 ·exact .inr ⟨h0, Nat.lt_of_lt_of_le h1 u.size, h2.keep u (by simp)⟩
structure Ydb where
 wt : Int
 pg : Int
 ct : Int
 rt : Int
 nb : Int
 at_ : Int
 v : Int
 vb : Value
 vs : Value
 B : List Int
 S : List Yb2
 gb : Nat
 gs : Nat
def Ydb.cells (s : Ydb) : Array Value := #[.int .i64 s.wt, .int .i64 s.pg, .int .i64 s.ct, .int .i64 s.rt, .int .i64 s.nb, .int .u32 s.at_, .int .u32 s.v, s.vb, s.vs]
structure Ydb.Good (q : Ydb) (w : World) : Prop where
 pg : -9223372036854775808 ≤ q.pg ∧ q.pg ≤ 9223372036854775807
 ct : -9223372036854775808 ≤ q.ct ∧ q.ct ≤ 9223372036854775807
 nb : -9223372036854775808 ≤ q.nb ∧ q.nb ≤ 9223372036854775807
 at_ : 0 ≤ q.at_ ∧ q.at_ < 4294967296
 v : 0 ≤ q.v ∧ q.v < 4294967296
 b : ByS0 w q.vb q.B q.gb
 bl : ∀ i, 0 ≤ q.B.getD i 0 ∧ q.B.getD i 0 ≤ 255
 bn : q.B.length ≤ maxLen
 bf : ∃ b c, q.vb = .slice b q.B.length c
 sa : SArg w q.vs q.S q.gs
 sf : ∃ b c, q.vs = .slice b q.S.length c
theorem Ydb.Good.keep {s : Ydb} {w w' : World} (h : s.Good w) (u : Upd [] w w') : s.Good w' := ⟨h.pg, h.ct, h.nb, h.at_, h.v, h.b.keep u, h.bl, h.bn, h.bf, h.sa.keep u, h.sf⟩
end
theorem Yda (M : Mem) (a pb : Nat) (p n r : Int) (w : World) (hM : Yd w a pb M) (hn : -9223372036854775808 ≤ n) :
  Calls Try.prog 11 #[.pointer (some ⟨a, 0, none⟩), .int .i64 p, .int .i64 n, .int .i64 r] w fun e w' => e = .returned (.int .i64 (Ybr (M.mapB p n r) 61)) ∧ Yd w' a pb (M.mapM p n r) ∧ Upd [pb] w w' := by
 cases h : M.mapB p n r
 ·refine (Map_no M a pb p n r w hM hn h).mono ?_
  rintro e w' ⟨h1, h2⟩
  exact ⟨h1, by rw [Mem.mapM, h]; exact hM.keep h2 (by simp) (by simp), h2.mono (by simp)⟩
 ·refine (Map_yes M a pb p n r w hM hn h).mono ?_
  rintro e w' ⟨h1, h2, h3⟩
  exact ⟨h1, by rw [Mem.mapM, h]; exact h2, h3⟩
theorem Ye2 (M : Mem) (a pb : Nat) (p n : Int) (w : World) (hM : Yd w a pb M) (hn : -9223372036854775808 ≤ n) :
  Calls Try.prog 58 #[.pointer (some ⟨a, 0, none⟩), .int .i64 p, .int .i64 n] w fun e w' => e = .returned (.int .i64 (Ybr (M.unmapB p n) 61)) ∧ Yd w' a pb (M.unmapM p n) ∧ Upd [pb] w w' := by
 cases h : M.unmapB p n
 ·refine (Unmap_no M a pb p n w hM hn h).mono ?_
  rintro e w' ⟨h1, h2⟩
  exact ⟨h1, by rw [Mem.unmapM, h]; exact hM.keep h2 (by simp) (by simp), h2.mono (by simp)⟩
 ·refine (Ygr M a pb p n w hM hn h).mono ?_
  rintro e w' ⟨h1, h2, h3⟩
  exact ⟨h1, by rw [Mem.unmapM, h]; exact h2, h3⟩
theorem Ydh (M : Mem) (a pb : Nat) (p n r : Int) (w : World) (hM : Yd w a pb M) (hn : -9223372036854775808 ≤ n) :
  Calls Try.prog 59 #[.pointer (some ⟨a, 0, none⟩), .int .i64 p, .int .i64 n, .int .i64 r] w fun e w' => e = .returned (.int .i64 (Ybr (M.protB p n r) 61)) ∧ Yd w' a pb (M.protM p n r) ∧ Upd [pb] w w' := by
 cases h : M.protB p n r
 ·refine (Ygi M a pb p n r w hM hn h).mono ?_
  rintro e w' ⟨h1, h2⟩
  exact ⟨h1, by rw [Mem.protM, h]; exact hM.keep h2 (by simp) (by simp), h2.mono (by simp)⟩
 ·refine (Yf5 M a pb p n r w hM hn h).mono ?_
  rintro e w' ⟨h1, h2, h3⟩
  exact ⟨h1, by rw [Mem.protM, h]; exact h2, h3⟩
end Go.Proofs.Ytchoedlinimeaaa
