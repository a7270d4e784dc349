/-
  Package page: Copy (slices.Clone), Same (slices.Equal): each by its contract.
-/
import Derived.Test.YtoplekfnghkkdaaMg03
import Derived.Test.YtoplekfnghkkdaaMg08
import Derived.ChangeKeysEq
import Derived.Lib.SliceRun
import Derived.Test.YtoplekfnghkkdaaMg05
import Derived.Test.YtoplekfnghkkdaaMg07
import Derived.Deep.Cut
namespace Go.Proofs.Ytoplekfnghkkdaa
open Go Go.RowKit
set_option linter.unusedVariables false
set_option linter.unusedSimpArgs false

/-! ### Two pages held against one another -/
theorem eqItems_u8 {P : Program} (w : World) (d : Nat) {e : TypeId} (he : P.underlying e = some (.int .u8)) (xs ys : Array Value) (f g : Nat → Int) :
    ∀ is : List Nat, (∀ i, i ∈ is → xs[i]? = some (.int .u8 (f i)) ∧ ys[i]? = some (.int .u8 (g i))) → (Op.eqItems (d + 1) e 1 xs ys is).run P w = .ok (is.all fun i => f i == g i) w
  | [], _ => by simp [Op.eqItems]
  | i :: is, h => by
    have h1 := h i (by simp)
    have ih := eqItems_u8 w d he xs ys f g is (fun j hj => h j (by simp [hj]))
    have hp : P.plainKey e = true := by simp [Program.plainKey, he]
    simp only [Op.eqItems, Nat.mul_one, Sem.run_bind, run_part_plain w hp h1.1, run_part_plain w hp h1.2, Result.andThen_ok, run_equalIn_int w d e .u8 .u8 _ _ he, List.all_cons]
    cases hb : f i == g i
    · simp
    · simpa using ih

/-- Are the pages p of two memories alike? -/
def Mem.samePage (M N : Mem) (p : Nat) : Bool := (M.R p == N.R p) && (List.range 256).all fun j => M.B (p * 256 + j) == N.B (p * 256 + j)

theorem page_byte (M : Mem) (p j : Nat) (hj : j < 256) : (M.page p)[1 + j]? = some (.int .u8 (M.B (p * 256 + j))) := by
  have h : ¬ (p * 257 + (1 + j)) % 257 = 0 := by rw [Nat.mul_comm, Nat.mul_add_mod]; omega
  have h2 : (p * 257 + (1 + j)) / 257 = p := by omega
  have h3 : (p * 257 + (1 + j)) % 257 = 1 + j := by rw [Nat.mul_comm, Nat.mul_add_mod]; omega
  rw [Mem.page, Array.getElem?_map, Array.getElem?_range, if_pos (by omega)]
  have h4 : ¬ 1 + j = 0 := by omega
  have h5 : 1 + j - 1 = j := by omega
  simp only [Option.map_some, Mem.at_, h2, h3, h4, if_false, h5]

theorem run_equalIn_rows (X Y : Array Value) (r r' : Int) (f g : Nat → Int) (w : World) (d : Nat) (hX0 : X[0]? = some (.int .i64 r)) (hY0 : Y[0]? = some (.int .i64 r')) (hX : ∀ j, j < 256 → (X.extract 1 (1 + 256))[j]? = some (.int .u8 (f j))) (hY : ∀ j, j < 256 → (Y.extract 1 (1 + 256))[j]? = some (.int .u8 (g j))) :
    (Op.equalIn (d + 1 + 1 + 1) 156 (.agg X) (.agg Y)).run Try.prog w = .ok ((r == r') && (List.range 256).all fun j => f j == g j) w := by
  have hf : Try.prog.fieldsOf 156 = #[{ name := "rights", type := 3, offset := 0, embedded := false, tag := "", pkgPath := "ferryman/page", byteOffset := 0 }, { name := "b", type := 154, offset := 1, embedded := false, tag := "", pkgPath := "ferryman/page", byteOffset := 8 }] := by kernel_rfl
  have hu : Try.prog.underlying 156 = some (.struct (Try.prog.fieldsOf 156)) := by kernel_rfl
  have hp : Try.prog.plainKey 3 = true := by kernel_rfl
  have ha := fun xs : Array Value => part_range (P := Try.prog) (xs := xs) (t := 154) (i := Try.t154) (n := 256) (off := 1) w (Try.isAgg154 w) (by kernel_rfl) (by kernel_rfl)
  have hc : Try.prog.cellsOf 5 = 1 := by kernel_rfl
  have harr : (Op.equalIn (d + 1 + 1) 154 (.agg (X.extract 1 (1 + 256))) (.agg (Y.extract 1 (1 + 256)))).run Try.prog w = .ok ((List.range 256).all fun j => f j == g j) w := by
    rw [run_equalIn_array w (d + 1) (i := Try.t5) _ _ Try.underlying154 (by kernel_rfl), hc]
    exact eqItems_u8 w d Try.underlying5 _ _ f g _ (fun j hj => ⟨hX j (List.mem_range.1 hj), hY j (List.mem_range.1 hj)⟩)
  have hhead : (Op.equalIn (d + 1 + 1) 3 (.int .i64 r) (.int .i64 r')).run Try.prog w = .ok (r == r') w := run_equalIn_int w (d + 1) 3 .i64 .i64 _ _ Try.underlying3
  rw [run_equalIn_struct w _ 156 _ _ hu (Try.stoodInHeld156), hf]
  have hne1 : ("rights" ≠ "_") = True := by decide
  have hne2 : ("b" ≠ "_") = True := by decide
  simp only [Op.eqFields, hne1, hne2, if_true]
  generalize (List.range 256).all (fun j => f j == g j) = b at harr ⊢
  rw [Sem.run_bind, run_part_plain w hp hX0, Result.andThen_ok, Sem.run_bind, run_part_plain w hp hY0, Result.andThen_ok, Sem.run_bind, hhead, Result.andThen_ok]
  cases hb : r == r'
  · rfl
  · simp only [Bool.not_true, Bool.false_eq_true, if_false]
    rw [Sem.run_bind, ha, Result.andThen_ok, Sem.run_bind, ha, Result.andThen_ok, Sem.run_bind, harr, Result.andThen_ok]
    cases b <;> rfl

theorem page_bytes (K : Mem) (p j : Nat) (hj : j < 256) : ((K.page p).extract 1 (1 + 256))[j]? = some (.int .u8 (K.B (p * 256 + j))) := by
  rw [Array.getElem?_extract, if_pos (by rw [Mem.size_page]; omega), page_byte K p j hj]

theorem run_equalIn_page (M N : Mem) (p : Nat) (w : World) (d : Nat) : (Op.equalIn (d + 1 + 1 + 1) 156 (.agg (M.page p)) (.agg (N.page p))).run Try.prog w = .ok (M.samePage N p) w :=
  run_equalIn_rows _ _ _ _ (fun j => M.B (p * 256 + j)) (fun j => N.B (p * 256 + j)) w d (M.page0 p) (N.page0 p) (fun j hj => page_bytes M p j hj) (fun j hj => page_bytes N p j hj)

theorem run_neq_page (M N : Mem) (p : Nat) (w : World) : (binOp .neq 156 (.agg (M.page p)) (.agg (N.page p))).run Try.prog w = .ok (.bool (!M.samePage N p)) w := by
  have h := run_equalIn_page M N p w 9997
  rw [run_neq_struct]
  rw [show (10000 : Nat) = 9997 + 1 + 1 + 1 from rfl, h, Result.andThen_ok]

/-- An operation on two operands, by its run, where the guard says nothing. -/
theorem wp_binOp_run {P : Program} {op : Oper} {a : Act} {w : World} {K : Act → World → Prop} {Q : Exit → Act → World → Prop} (b : BinOp) (t t' : TypeId) (x y : Operand) (ho : op.op = .binOp b t x y t') (u v r : Value) (hx : a.eval x = u) (hy : a.eval y = v)
    (hg : (eqGuard b t x y u v).run P w = .ok () w) (hr : (binOp b t u v).run P w = .ok r w) (hK : K (a.put op.dst r) w) : op.wp P a w K Q := by
  unfold Oper.wp execOp
  simp only [ho, hx, hy, Sem.run_bind, hg, hr, Result.andThen_ok, Sem.run_pure]
  exact hK

def Mem.same (M N : Mem) : Bool := (List.range 64).all fun p => M.samePage N p

end Go.Proofs.Ytoplekfnghkkdaa

/-
  Structs held against one another, field by field; the guest's states. No condition.
-/
namespace Go.Proofs.Ytoplekfnghkkdaa
open Go Go.RowKit
set_option linter.unusedVariables false
set_option linter.unusedSimpArgs false

def St.eqB (s t : St) : Bool := (((List.range 8).all fun i => s.R i == t.R i) && ((s.pc == t.pc) && ((((s.cf == t.cf) && ((s.pf == t.pf) && ((s.af == t.af) && ((s.zf == t.zf) && ((s.sf == t.sf) && ((s.of_ == t.of_) && true))))))) && ((s.df == t.df) && ((s.f == t.f) && true)))))

theorem St.eqB_self (s : St) : s.eqB s = true := by simp [St.eqB]

theorem St.eqB_iff (s t : St) : s.eqB t = true ↔ (∀ i, i < 8 → s.R i = t.R i) ∧ s.pc = t.pc ∧ s.cf = t.cf ∧ s.pf = t.pf ∧ s.af = t.af ∧ s.zf = t.zf ∧ s.sf = t.sf ∧ s.of_ = t.of_ ∧ s.df = t.df ∧ s.f = t.f := by
  simp only [St.eqB, Bool.and_eq_true, List.all_eq_true, List.mem_range, beq_iff_eq, and_true]
  constructor
  · rintro ⟨h1, h2, ⟨h3, h4, h5, h6, h7, h8⟩, h9, h10⟩; exact ⟨h1, h2, h3, h4, h5, h6, h7, h8, h9, h10⟩
  · rintro ⟨h1, h2, h3, h4, h5, h6, h7, h8, h9, h10⟩; exact ⟨h1, h2, ⟨h3, h4, h5, h6, h7, h8⟩, h9, h10⟩

def flagsOf (s : St) : Array Value := #[.bool s.cf, .bool s.pf, .bool s.af, .bool s.zf, .bool s.sf, .bool s.of_]

theorem run_equalIn_flags (s t : St) (w : World) (d : Nat) : (Op.equalIn (d + 1 + 1) 76 (.agg (flagsOf s)) (.agg (flagsOf t))).run Try.prog w = .ok ((s.cf == t.cf) && ((s.pf == t.pf) && ((s.af == t.af) && ((s.zf == t.zf) && ((s.sf == t.sf) && ((s.of_ == t.of_) && true)))))) w := by
  have hf : Try.prog.fieldsOf 76 = #[{ name := "CF", type := 4, offset := 0, embedded := false, tag := "", pkgPath := "", byteOffset := 0 }, { name := "PF", type := 4, offset := 1, embedded := false, tag := "", pkgPath := "", byteOffset := 1 },
    { name := "AF", type := 4, offset := 2, embedded := false, tag := "", pkgPath := "", byteOffset := 2 }, { name := "ZF", type := 4, offset := 3, embedded := false, tag := "", pkgPath := "", byteOffset := 3 },
    { name := "SF", type := 4, offset := 4, embedded := false, tag := "", pkgPath := "", byteOffset := 4 }, { name := "OF", type := 4, offset := 5, embedded := false, tag := "", pkgPath := "", byteOffset := 5 }] := by kernel_rfl
  have hu : Try.prog.underlying 76 = some (.struct (Try.prog.fieldsOf 76)) := by kernel_rfl
  have hp : Try.prog.plainKey 4 = true := by kernel_rfl
  have hb := fun (a b : Bool) => run_equalIn_bool (P := Try.prog) w d 4 a b Try.underlying4
  rw [run_equalIn_struct w _ 76 _ _ hu (Try.stoodInHeld76), hf]
  exact eqFields_cons (by decide) (run_part_plain w hp rfl) (run_part_plain w hp rfl) (hb _ _) (eqFields_cons (by decide) (run_part_plain w hp rfl) (run_part_plain w hp rfl) (hb _ _) (eqFields_cons (by decide) (run_part_plain w hp rfl) (run_part_plain w hp rfl) (hb _ _) (eqFields_cons (by decide) (run_part_plain w hp rfl) (run_part_plain w hp rfl) (hb _ _) (eqFields_cons (by decide) (run_part_plain w hp rfl) (run_part_plain w hp rfl) (hb _ _) (eqFields_cons (by decide) (run_part_plain w hp rfl) (run_part_plain w hp rfl) (hb _ _) eqFields_nil)))))

theorem run_equalIn_state (s t : St) (w : World) (d : Nat) : (Op.equalIn (d + 1 + 1 + 1) 79 (.agg s.cells) (.agg t.cells)).run Try.prog w = .ok (s.eqB t) w := by
  have hf : Try.prog.fieldsOf 79 = #[{ name := "R", type := 74, offset := 0, embedded := false, tag := "", pkgPath := "", byteOffset := 0 }, { name := "PC", type := 24, offset := 8, embedded := false, tag := "", pkgPath := "", byteOffset := 32 },
    { name := "Fl", type := 76, offset := 9, embedded := false, tag := "", pkgPath := "", byteOffset := 36 }, { name := "DF", type := 4, offset := 15, embedded := false, tag := "", pkgPath := "", byteOffset := 42 }, { name := "F", type := 77, offset := 16, embedded := false, tag := "", pkgPath := "", byteOffset := 48 }] := by kernel_rfl
  have hu : Try.prog.underlying 79 = some (.struct (Try.prog.fieldsOf 79)) := by kernel_rfl
  have hpB : Try.prog.plainKey 4 = true := by kernel_rfl
  have hp32 : Try.prog.plainKey 24 = true := by kernel_rfl
  have hp64 : Try.prog.plainKey 77 = true := by kernel_rfl
  have hc : Try.prog.cellsOf 24 = 1 := by kernel_rfl
  have hpR := fun xs : Array Value => part_range (P := Try.prog) (xs := xs) (t := 74) (i := Try.t74) (n := 8) (off := 0) w (Try.isAgg74 w) (by kernel_rfl) (by kernel_rfl)
  have hpF := fun xs : Array Value => part_range (P := Try.prog) (xs := xs) (t := 76) (i := Try.t76) (n := 6) (off := 9) w (Try.isAgg76 w) (by kernel_rfl) (by kernel_rfl)
  have eF : ∀ s : St, s.cells.extract 9 (9 + 6) = flagsOf s := fun s => by simp [St.cells, flagsOf]
  have hR : (Op.equalIn (d + 1 + 1) 74 (.agg (s.cells.extract 0 (0 + 8))) (.agg (t.cells.extract 0 (0 + 8)))).run Try.prog w = .ok ((List.range 8).all fun i => s.R i == t.R i) w := by
    rw [run_equalIn_array w (d + 1) (i := Try.t24) _ _ Try.underlying74 (by kernel_rfl), hc]
    have e : ∀ (s : St) i, i < 8 → (s.cells.extract 0 (0 + 8))[i]? = some (.int .u32 (s.R i)) := fun s i hi => by
      rw [Array.getElem?_extract, if_pos (by rw [St.size]; omega), Nat.zero_add, St.cR s i hi]
    exact eqItems_int w d Try.underlying24 _ _ _ _ _ (fun i hi => ⟨e s i (List.mem_range.1 hi), e t i (List.mem_range.1 hi)⟩)
  have hF := run_equalIn_flags s t w d
  rw [← eF s, ← eF t] at hF
  rw [run_equalIn_struct w _ 79 _ _ hu (Try.stoodInHeld79), hf]
  exact eqFields_cons (by decide) (hpR _) (hpR _) hR (eqFields_cons (by decide) (run_part_plain w hp32 rfl) (run_part_plain w hp32 rfl) (run_equalIn_int w _ 24 .u32 .u32 _ _ Try.underlying24)
    (eqFields_cons (by decide) (hpF _) (hpF _) hF (eqFields_cons (by decide) (run_part_plain w hpB rfl) (run_part_plain w hpB rfl) (run_equalIn_bool w _ 4 _ _ Try.underlying4)
    (eqFields_cons (by decide) (run_part_plain w hp64 rfl) (run_part_plain w hp64 rfl) (run_equalIn_int w _ 77 .u64 .u64 _ _ Try.underlying77) eqFields_nil))))

theorem run_eql_state (s t : St) (w : World) : (binOp .eql 79 (.agg s.cells) (.agg t.cells)).run Try.prog w = .ok (.bool (s.eqB t)) w := by
  have h := run_equalIn_state s t w 9997
  rw [run_eql_struct]
  rw [show (10000 : Nat) = 9997 + 1 + 1 + 1 from rfl, h, Result.andThen_ok]

end Go.Proofs.Ytoplekfnghkkdaa

/-
  The check of known answers of the laws on operands, by its contract.
-/
namespace Go.Proofs.Ytoplekfnghkkdaa
open Go Go.RowKit
set_option linter.unusedVariables false
set_option linter.unusedSimpArgs false

def oM1 : Mem := Mem.zero.mapN (0 : Int).toNat (1 : Int).toNat 3
def oS : St := ⟨fun i => if i = 3 then 16 else if i = 1 then 2 else 0, 0, false, false, false, false, false, false, false, 0⟩
def oO : Opd := ⟨3, 0, 8, 3, 1, 4⟩
def oO2 : Opd := ⟨3, 0, 256, -1, -1, 1⟩
def oM2 : Mem := oM1.putN 32 77 4

theorem oS_ok : oS.Ok := ⟨fun i => by simp only [oS]; split <;> (try split) <;> omega, by simp [oS], by simp [oS]⟩
theorem oO_ok : oO.Ok := ⟨by simp [oO], by simp [oO]⟩
theorem oO2_ok : oO2.Ok := ⟨by simp [oO2], by simp [oO2]⟩

theorem kn12_map : Mem.zero.mapB 0 1 3 = true := by decide +kernel
theorem kn12_place : oS.place oO = 32 := by decide +kernel
theorem kn12_bad : oM1.bad 32 2 (widthI 4).toNat = none := by decide +kernel
theorem kn12_wF : opWF oM1 oS oO 4 = Flt.zero := by decide +kernel
theorem kn12_wK : opWK oM1 oS oO 4 = true := by decide +kernel
theorem kn12_wM : opM oM1 oS oO 4 77 = oM2 := by
  rw [opM, if_pos (by rfl), kn12_place, show wd 4 = 4 from rfl, Mem.writeM, kn12_bad]
  rfl
theorem kn12_rV : opV oM2 oS oO 4 = 77 := by decide +kernel
theorem kn12_rF : opF oM2 oS oO 4 = Flt.zero := by decide +kernel
theorem kn12_rK : opK oM2 oS oO 4 = true := by decide +kernel
theorem kn12_8F : oM2.canF 252 8 2 = ⟨1, 0, 256, 2⟩ := by decide +kernel
theorem kn12_8K : oM2.canK 252 8 2 = false := by decide +kernel
theorem kn12_8M : oM2.wr8M 252 1 = oM2 := by rw [Mem.wr8M, if_neg (by rw [kn12_8K]; simp)]
theorem kn12_cF : opCanF oM2 oS oO2 4 3 = ⟨1, 0, 256, 1⟩ := by decide +kernel
theorem kn12_cK : opCanK oM2 oS oO2 4 3 = false := by decide +kernel

end Go.Proofs.Ytoplekfnghkkdaa

/-
  The check of known answers of the laws on operands: the walk.
-/
namespace Go.Proofs.Ytoplekfnghkkdaa
open Go Go.RowKit
set_option linter.unusedVariables false
set_option linter.unusedSimpArgs false

/-- A new state in memory, laid whole. -/
theorem new_state {w0 w1 w' : World} {b : Nat} {S : List Nat} {Z : St} {L : Array Value} (hw : w1.setCells b 0 Z.cells.toList = w') (h : w1.heap[b]? = some (.cells L 79 (0, 0))) (hL : L.size = 17) (hu : Upd S w0 w1) (hb : w0.heap.size ≤ b) :
    w'.heap[b]? = some (.cells Z.cells 79 (0, 0)) ∧ Upd S w0 w' := by
  rw [← hw]
  exact ⟨heap_store_state Z h hL, hu.setCells (.inr hb) _ _⟩

structure K12 (w : World) (a pb bs bo : Nat) (M : Mem) (w1 : World) : Prop where
  m : IsMem w1 a pb M
  s : w1.heap[bs]? = some (.cells oS.cells 79 (0, 0))
  o : w1.heap[bo]? = some (.cells #[.int .i64 3, .int .i64 0, .int .u32 8, .int .i64 3, .int .i64 1, .int .u32 4] 26 (0, 0))
  u : Upd [] w w1

theorem K12.step {w : World} {a pb bs bo : Nat} {M M' : Mem} {w1 w2 : World} {S : List Nat} (h : K12 w a pb bs bo M w1) (u : Upd S w1 w2) (hm : IsMem w2 a pb M') (hs : bs ∉ S) (ho : bo ∉ S) (hS : ∀ x, x ∈ S → x ∈ ([] : List Nat) ∨ w.heap.size ≤ x) : K12 w a pb bs bo M' w2 :=
  ⟨hm, u.get h.s hs, u.get h.o ho, h.u.also u hS⟩

theorem k12_s {w2 : World} {b : Nat} (h : w2.heap[b]? = some (.cells St.zero.cells 79 (0, 0))) (o : Obj) :
    (((w2.setCell ⟨b, 3, none⟩ (.int .u32 16)).setCell ⟨b, 1, none⟩ (.int .u32 2)).alloc o).heap[b]? = some (.cells oS.cells 79 (0, 0)) :=
  heap_alloc_keep _ (heap_set_same (heap_set_same h 3 (.int .u32 16)) 1 (.int .u32 2))

theorem k12_at {w w1 w2 w3 : World} {a pb : Nat} {M M' : Mem} (hM : IsMem w1 a pb M) (hU : Upd [] w w1) (h2 : w2.heap[w1.heap.size]? = some (.cells St.zero.cells 79 (0, 0)) ∧ Upd [] w1 w2) (hp0 : w.heap.size ≤ pb) (hM3 : IsMem w3 a pb M')
    (hU3 : Upd [pb] (((w2.setCell ⟨w1.heap.size, 3, none⟩ (.int .u32 16)).setCell ⟨w1.heap.size, 1, none⟩ (.int .u32 2)).alloc (.cells #[.int .i64 3, .int .i64 0, .int .u32 8, .int .i64 3, .int .i64 1, .int .u32 4] 26)) w3) : K12 w a pb w1.heap.size w2.heap.size M' w3 := by
  have hp := hM.pl
  have hl := lt_of_heap h2.1
  have ho := heap_alloc_new ((w2.setCell ⟨w1.heap.size, 3, none⟩ (.int .u32 16)).setCell ⟨w1.heap.size, 1, none⟩ (.int .u32 2)) (.cells #[.int .i64 3, .int .i64 0, .int .u32 8, .int .i64 3, .int .i64 1, .int .u32 4] 26)
  rw [World.size_setCell, World.size_setCell] at ho
  have h1 := hU.size
  exact ⟨hM3, hU3.get (k12_s h2.1 _) (by simp; omega), hU3.get ho (by simp; omega), ((((hU.also h2.2 (by simp)).setCell (.inr h1) _).setCell (.inr h1) _).alloc _).also hU3 (fun x hx => .inr (by simp only [List.mem_singleton] at hx; omega))⟩

theorem z_one (w : World) : (w.alloc (.cells St.zero.cells 79)).heap[w.heap.size]? = some (.cells St.zero.cells 79 (0, 0)) := heap_alloc_new _ _
theorem z_two (w : World) (F : Obj) : ((w.alloc (.cells St.zero.cells 79)).alloc F).heap[w.heap.size]? = some (.cells St.zero.cells 79 (0, 0)) := heap_alloc_keep _ (heap_alloc_new _ _)

theorem z_step {w1 w2 : World} (hw2 : (w1.alloc (.cells St.zero.cells 79)).setCells w1.heap.size 0 St.zero.cells.toList = w2) :
    (w2.heap[w1.heap.size]? = some (.cells St.zero.cells 79 (0, 0)) ∧ Upd [] w1 w2) ∧ w2.cell? ⟨w1.heap.size, 3, none⟩ = some (.int .u32 0) ∧ w2.cell? ⟨w1.heap.size, 1, none⟩ = some (.int .u32 0) ∧ ∀ o, w2.frozen? ⟨w1.heap.size, o, none⟩ = false := by
  have h2 := new_state hw2 (z_one w1) rfl ((Upd.refl [] w1).alloc _) (Nat.le_refl _)
  exact ⟨h2, by rw [cells_of h2.1]; rfl, by rw [cells_of h2.1]; rfl, free_of h2.1⟩

theorem t_step {w3 w4 : World} (hw4 : ((w3.alloc (.cells St.zero.cells 79)).alloc (.cells #[.int .i64 0, .int .u32 0, .int .u32 0, .int .i64 0] 49)).setCells w3.heap.size 0 oS.cells.toList = w4) :
    (w4.heap[w3.heap.size]? = some (.cells oS.cells 79 (0, 0)) ∧ Upd [] w3 w4) ∧ w4.heap[w3.heap.size + 1]? = some (.cells #[.int .i64 0, .int .u32 0, .int .u32 0, .int .i64 0] 49 (0, 0)) := by
  have h4 := new_state hw4 (z_two w3 _) rfl (((Upd.refl [] w3).alloc _).alloc _) (Nat.le_refl _)
  exact ⟨h4, by rw [← hw4, heap_setCells_other (by omega)]; exact heap_alloc2_new _ _ _⟩

structure K12b (w : World) (a pb bs bo bt : Nat) (M : Mem) (w1 : World) : Prop where
  k : K12 w a pb bs bo M w1
  t : w1.heap[bt]? = some (.cells oS.cells 79 (0, 0))

theorem K12b.step {w : World} {a pb bs bo bt : Nat} {M M' : Mem} {w1 w2 : World} {S : List Nat} (h : K12b w a pb bs bo bt M w1) (u : Upd S w1 w2) (hm : IsMem w2 a pb M') (hs : bs ∉ S) (ho : bo ∉ S) (ht : bt ∉ S) (hS : ∀ x, x ∈ S → x ∈ ([] : List Nat) ∨ w.heap.size ≤ x) : K12b w a pb bs bo bt M' w2 :=
  ⟨h.k.step u hm hs ho hS, u.get h.t ht⟩

theorem k12_f {w4 : World} {g : Nat} (u0 u1 u2 u3 : Value) : Upd [g] w4 ((((w4.setCell ⟨g, 0, none⟩ u0).setCell ⟨g, 0 + 1, none⟩ u1).setCell ⟨g, 0 + 2, none⟩ u2).setCell ⟨g, 0 + 3, none⟩ u3) :=
  Upd_store4 (b := g) (Upd.refl _ _) (.inl (by simp)) _ _ _ _

theorem K12b.f {w : World} {a pb bs bo bt g : Nat} {M : Mem} {w1 : World} (h : K12b w a pb bs bo bt M w1) (h1 : bs ≠ g) (h2 : bo ≠ g) (h3 : bt ≠ g) (h4 : a ≠ g) (h5 : pb ≠ g) (h6 : w.heap.size ≤ g) (u0 u1 u2 u3 : Value) :
    K12b w a pb bs bo bt M ((((w1.setCell ⟨g, 0, none⟩ u0).setCell ⟨g, 0 + 1, none⟩ u1).setCell ⟨g, 0 + 2, none⟩ u2).setCell ⟨g, 0 + 3, none⟩ u3) :=
  h.step (k12_f u0 u1 u2 u3) (h.k.m.keep (k12_f u0 u1 u2 u3) (by simpa using h4) (by simpa using h5)) (by simpa using h1) (by simpa using h2) (by simpa using h3) (fun x hx => .inr (by simp only [List.mem_singleton] at hx; omega))

end Go.Proofs.Ytoplekfnghkkdaa

/-
  The law OperandPlaces: the plain part, and the walk.
-/
namespace Go.Proofs.Ytoplekfnghkkdaa
open Go Go.RowKit
set_option linter.unusedVariables false
set_option linter.unusedSimpArgs false

theorem op_regS (s : St) (b : Nat) (hb : b < 8) (v : Int) : opS s ⟨1, b, 0, 0, 0, 0⟩ 4 v = s.setR b v := by
  simp only [opS, if_true]
  rw [if_neg (by decide), show ((b : Int) % 8).toNat = b from by omega]

theorem op_regV (M : Mem) (s : St) (b : Nat) (hb : b < 8) : opV M s ⟨1, b, 0, 0, 0, 0⟩ 4 = s.R b := by
  simp only [opV, if_true]
  rw [if_neg (by decide), show ((b : Int) % 8).toNat = b from by omega]

theorem setR_same (s : St) (b : Nat) (v : Int) : (s.setR b v).R b = v := by simp [St.setR]

theorem op_place (s : St) (b x : Nat) (k imm : Int) (hb : b < 8) (hx : x < 8) : s.place ⟨3, 0, imm, b, x, k⟩ = (s.R b + s.R x * k + imm) % 4294967296 := by
  simp only [St.place, if_true, St.reg]
  rw [if_neg (by omega), if_neg (by omega), show ((b : Int) % 8).toNat = b from by omega, show ((x : Int) % 8).toNat = x from by omega]

theorem op_place0 (s : St) (imm : Int) (h0 : 0 ≤ imm) (h1 : imm < 4294967296) : s.place ⟨3, 0, imm, -1, -1, 1⟩ = imm := by
  simp only [St.place, if_true, St.reg]
  omega

theorem op_place2 (s : St) (imm : Int) : s.place ⟨2, 0, imm, 0, 0, 0⟩ = 0 := by
  simp [St.place]

structure PlB (w : World) (s : St) (bs a pb : Nat) (M : Mem) (w1 : World) : Prop where
  s : w1.heap[bs]? = some (.cells s.cells 79 (0, 0))
  m : IsMem w1 a pb M
  u : Upd [] w w1
  n : w.heap.size ≤ bs ∧ bs < pb ∧ bs < a

theorem PlB.step {w w1 w2 : World} {s : St} {bs a pb : Nat} {M : Mem} (h : PlB w s bs a pb M w1) (u : Upd [] w1 w2) : PlB w s bs a pb M w2 :=
  ⟨u.get h.s (by simp), h.m.keep u (by simp) (by simp), h.u.also u (by simp), h.n⟩

theorem PlB.mem {w w1 w2 : World} {s : St} {bs a pb : Nat} {M M' : Mem} (h : PlB w s bs a pb M w1) (u : Upd [pb] w1 w2) (hm : IsMem w2 a pb M') : PlB w s bs a pb M' w2 :=
  ⟨u.get h.s (by have := h.n; simp; omega), hm, h.u.also u (by have := h.n; simp; omega), h.n⟩

theorem PlB.far {w w1 w2 : World} {s : St} {bs a pb g : Nat} {M : Mem} (h : PlB w s bs a pb M w1) (u : Upd [g] w1 w2) (hg : a < g ∧ pb < g) : PlB w s bs a pb M w2 :=
  ⟨u.get h.s (by have := h.n; simp; omega), h.m.keep u (by simp; omega) (by simp; omega), h.u.also u (by have := h.n; simp; omega), h.n⟩

theorem PlB.lt {w w1 : World} {s : St} {bs a pb : Nat} {M : Mem} (h : PlB w s bs a pb M w1) : bs < w1.heap.size ∧ a < w1.heap.size ∧ pb < w1.heap.size := ⟨lt_of_heap h.s, h.m.al, h.m.pl⟩

theorem z_fst (w : World) (F : Array Value) : ((w.alloc (.cells F 49)).alloc (.cells St.zero.cells 79)).heap[w.heap.size + 1]? = some (.cells St.zero.cells 79 (0, 0)) := heap_alloc2_new _ _ _

theorem st3_new {w3 w4 : World} {Z : St} {F : Array Value} (hw4 : ((w3.alloc (.cells F 49)).alloc (.cells St.zero.cells 79)).setCells (w3.heap.size + 1) 0 Z.cells.toList = w4) :
    w4.heap[w3.heap.size + 1]? = some (.cells Z.cells 79 (0, 0)) ∧ Upd [] w3 w4 :=
  new_state hw4 (z_fst w3 F) rfl (((Upd.refl [] w3).alloc _).alloc _) (by omega)

/-- A state and a fault, both new, the state laid whole. -/
theorem st2_new {w3 w4 : World} {Z : St} {F : Array Value} (hw4 : ((w3.alloc (.cells St.zero.cells 79)).alloc (.cells F 49)).setCells w3.heap.size 0 Z.cells.toList = w4) :
    w4.heap[w3.heap.size]? = some (.cells Z.cells 79 (0, 0)) ∧ w4.heap[w3.heap.size + 1]? = some (.cells F 49 (0, 0)) ∧ Upd [] w3 w4 := by
  have h4 := new_state hw4 (z_two w3 _) rfl (((Upd.refl [] w3).alloc _).alloc _) (Nat.le_refl _)
  exact ⟨h4.1, by rw [← hw4, heap_setCells_other (by omega)]; exact heap_alloc2_new _ _ _, h4.2⟩

theorem st1_new {w3 w4 : World} {Z : St} (hw4 : (w3.alloc (.cells St.zero.cells 79)).setCells w3.heap.size 0 Z.cells.toList = w4) :
    w4.heap[w3.heap.size]? = some (.cells Z.cells 79 (0, 0)) ∧ Upd [] w3 w4 := by
  exact new_state hw4 (z_one w3) rfl ((Upd.refl [] w3).alloc _) (Nat.le_refl _)

def opCells (o : Opd) : Array Value := #[.int .i64 o.k, .int .i64 o.r, .int .u32 o.imm, .int .i64 o.b, .int .i64 o.x, .int .u32 o.sc]

structure PlO (bo : Nat) (o p : Opd) (w1 : World) : Prop where
  o : w1.heap[bo]? = some (.cells (opCells o) 26 (0, 0))
  p : w1.heap[bo + 1]? = some (.cells (opCells p) 26 (0, 0))

theorem PlO.step {bo : Nat} {o p : Opd} {w1 w2 : World} {S : List Nat} (h : PlO bo o p w1) (u : Upd S w1 w2) (hS : ∀ x, x ∈ S → x < bo ∨ bo + 1 < x) : PlO bo o p w2 :=
  ⟨u.get h.o (fun hh => by have := hS _ hh; omega), u.get h.p (fun hh => by have := hS _ hh; omega)⟩

theorem PlO.start (w : World) (o p : Opd) : PlO w.heap.size o p ((w.alloc (.cells (opCells o) 26)).alloc (.cells (opCells p) 26)) :=
  ⟨heap_alloc_keep _ (heap_alloc_new _ _), heap_alloc2_new _ _ _⟩

structure PlT (w : World) (s t : St) (bs bo bt a pb : Nat) (o p : Opd) (w1 : World) : Prop where
  b : PlB w s bs a pb Mem.zero w1
  ht : w1.heap[bt]? = some (.cells t.cells 79 (0, 0))
  o : PlO bo o p w1

theorem PlT.step {w w1 w2 : World} {s t : St} {bs bo bt a pb : Nat} {o p : Opd} (h : PlT w s t bs bo bt a pb o p w1) (u : Upd [] w1 w2) : PlT w s t bs bo bt a pb o p w2 :=
  ⟨h.b.step u, u.get h.ht (by simp), h.o.step u (by simp)⟩

theorem PlT.start {w w3 w4 : World} {s t : St} {bs bo a pb : Nat} {o p : Opd} (hb : PlB w s bs a pb Mem.zero w3) (ho : PlO bo o p w3) (hlt : bo + 1 < w3.heap.size)
    (h : w4.heap[w3.heap.size]? = some (.cells t.cells 79 (0, 0)) ∧ w4.heap[w3.heap.size + 1]? = some (.cells #[.int .i64 0, .int .u32 0, .int .u32 0, .int .i64 0] 49 (0, 0)) ∧ Upd [] w3 w4) (u0 u1 u2 u3 : Value) :
    PlT w s t bs bo w3.heap.size a pb o p ((((w4.setCell ⟨w3.heap.size + 1, 0, none⟩ u0).setCell ⟨w3.heap.size + 1, 0 + 1, none⟩ u1).setCell ⟨w3.heap.size + 1, 0 + 2, none⟩ u2).setCell ⟨w3.heap.size + 1, 0 + 3, none⟩ u3) := by
  have hl := hb.lt
  exact ⟨(hb.step h.2.2).far (k12_f u0 u1 u2 u3) (by omega), (k12_f u0 u1 u2 u3).get h.1 (by simp), (ho.step h.2.2 (by simp)).step (k12_f u0 u1 u2 u3) (by simp; omega)⟩

structure PlF (w : World) (s t : St) (bs bo bt bw : Nat) (o p : Opd) (w1 : World) : Prop where
  s : w1.heap[bs]? = some (.cells s.cells 79 (0, 0))
  o : w1.heap[bo]? = some (.cells (opCells o) 26 (0, 0))
  p : w1.heap[bo + 1]? = some (.cells (opCells p) 26 (0, 0))
  ht : w1.heap[bt]? = some (.cells t.cells 79 (0, 0))
  wt : w1.heap[bw]? = some (.cells t.cells 79 (0, 0))
  u : Upd [] w w1

theorem PlF.step {w w1 w2 : World} {s t : St} {bs bo bt bw : Nat} {o p : Opd} (h : PlF w s t bs bo bt bw o p w1) (u : Upd [] w1 w2) : PlF w s t bs bo bt bw o p w2 :=
  ⟨u.get h.s (by simp), u.get h.o (by simp), u.get h.p (by simp), u.get h.ht (by simp), u.get h.wt (by simp), h.u.also u (by simp)⟩

theorem u32_mul_run (a b : Int) (w : World) : (binOp .mul 24 (.int .u32 a) (.int .u32 b)).run Try.prog w = .ok (.int .u32 (a * b % 4294967296)) w := by
  simp [go_sem, IntKind.wrap, IntKind.signed, IntKind.bits]
theorem u32_add_run (a b : Int) (w : World) : (binOp .add 24 (.int .u32 a) (.int .u32 b)).run Try.prog w = .ok (.int .u32 ((a + b) % 4294967296)) w := by
  simp [go_sem, IntKind.wrap, IntKind.signed, IntKind.bits]
theorem u32_guard (o : BinOp) (a b : Int) (w : World) {x y : Operand} : (eqGuard o 24 x y (.int .u32 a) (.int .u32 b)).run Try.prog w = .ok () w := by
  simp [eqGuard, go_sem]

end Go.Proofs.Ytoplekfnghkkdaa
