/-
  The decoder reads nothing behind what it tells: plain facts. No condition; no program in sight.
-/
import Derived.Test.YteiplidhkelkbaaMg04
import Derived.Test.YteiplidhkelkbaaMg15
import Derived.Test.YteiplidhkelkbaaMg06
import Derived.Test.YteiplidhkelkbaaMg03
import Derived.ChangeKeysEq
import Derived.Lib.SliceRun
namespace Go.Proofs.Yteiplidhkelkbaa
open Go Go.RowKit
set_option linter.unusedVariables false
set_option linter.unusedSimpArgs false

/-- Another list that agrees on the first n. -/
def Agree (n : Nat) (L L' : List Int) : Prop := n ≤ L'.length ∧ ∀ i, i < n → L'.getD i 0 = L.getD i 0

theorem Agree.le {n m : Nat} {L L' : List Int} (h : Agree n L L') (hm : m ≤ n) : Agree m L L' :=
  ⟨Nat.le_trans hm h.1, fun i hi => h.2 i (by omega)⟩

/-- Reads at most n, and nothing behind. -/
def Loc {α : Type} (n : Nat) (f : List Int → Nat → DR α) : Prop := ∀ L k, k ≤ L.length → match f L k with
  | .ok v k' => k ≤ k' ∧ k' ≤ k + n ∧ k' ≤ L.length ∧ ∀ L', Agree k' L L' → f L' k = .ok v k'
  | .err c => 10 ≤ c ∧ (c = 10 ∨ ∀ L', Agree L.length L L' → f L' k = .err c)

theorem Loc.pure {α : Type} (v : α) : Loc 0 (fun _ k => .ok v k) := fun L k h => ⟨Nat.le_refl _, Nat.le_refl _, h, fun _ _ => rfl⟩
theorem Loc.fail {α : Type} {c : Int} (hc : 10 ≤ c) : Loc 0 (fun _ _ => (.err c : DR α)) := fun L k _ => ⟨hc, .inr fun _ _ => rfl⟩

theorem Loc.mono {α : Type} {n m : Nat} {f : List Int → Nat → DR α} (h : Loc n f) (hm : n ≤ m) : Loc m f := by
  intro L k hk
  have := h L k hk
  split <;> rename_i he <;> rw [he] at this
  · exact ⟨this.1, by omega, this.2.2⟩
  · exact this

theorem Loc.bind {α β : Type} {n m : Nat} {f : List Int → Nat → DR α} {g : α → List Int → Nat → DR β} (hf : Loc n f) (hg : ∀ v, Loc m (g v)) :
    Loc (n + m) (fun L k => (f L k).bind fun v k => g v L k) := by
  intro L k hk
  have h := hf L k hk
  cases hfk : f L k with
  | err c =>
    rw [hfk] at h
    simp only [hfk, DR.bind_err]
    refine ⟨h.1, ?_⟩
    rcases h.2 with h | h
    · exact .inl h
    · exact .inr fun L' hL => by rw [h L' hL]; rfl
  | ok v k' =>
    rw [hfk] at h
    simp only [hfk, DR.bind_ok]
    have h2 := hg v L k' h.2.2.1
    cases hgk : g v L k' with
    | err c =>
      rw [hgk] at h2
      simp only [hgk]
      refine ⟨h2.1, ?_⟩
      rcases h2.2 with h2 | h2
      · exact .inl h2
      · exact .inr fun L' hL => by rw [h.2.2.2 L' (hL.le h.2.2.1), DR.bind_ok, h2 L' hL]
    | ok u k2 =>
      rw [hgk] at h2
      simp only [hgk]
      exact ⟨by omega, by omega, h2.2.2.1, fun L' hL => by rw [h.2.2.2 L' (hL.le h2.1), DR.bind_ok, h2.2.2.2 L' hL]⟩

theorem Loc.ite {α : Type} {n : Nat} {p : Prop} [Decidable p] {f g : List Int → Nat → DR α} (hf : Loc n f) (hg : Loc n g) : Loc n (fun L k => if p then f L k else g L k) := by
  intro L k hk
  by_cases hp : p
  · have := hf L k hk
    simp only [if_pos hp]
    exact this
  · have := hg L k hk
    simp only [if_neg hp]
    exact this

theorem loc_byte : Loc 1 dcByte := by
  intro L k hk
  unfold dcByte
  by_cases h : k < L.length
  · simp only [if_pos h]
    refine ⟨by omega, by omega, by omega, fun L' hL => ?_⟩
    rw [if_pos (by have := hL.1; omega), hL.2 k (by omega)]
  · simp only [if_neg h]
    exact ⟨by decide, .inl trivial⟩

theorem loc_word : Loc 4 dcWord := by
  intro L k hk
  unfold dcWord
  by_cases h : k + 4 ≤ L.length
  · simp only [if_pos h]
    refine ⟨by omega, by omega, by omega, fun L' hL => ?_⟩
    rw [if_pos (by have := hL.1; omega), wordAt, wordAt, hL.2 k (by omega), hL.2 (k + 1) (by omega), hL.2 (k + 2) (by omega), hL.2 (k + 3) (by omega)]
  · simp only [if_neg h]
    exact ⟨by decide, .inl trivial⟩

theorem loc_imm8 : Loc 1 dcImm8 := Loc.bind loc_byte fun v => Loc.pure _
theorem loc_small : Loc 1 dcSmall := Loc.bind loc_byte fun v => Loc.pure _
theorem loc_imm32 : Loc 4 dcImm32 := Loc.bind loc_word fun v => Loc.pure _
theorem loc_mrm : Loc 1 dcMrm := Loc.bind loc_byte fun v => Loc.pure _

theorem loc_tail (mod base x sc : Int) : Loc 4 (fun L k => dcTail L mod base x sc k) :=
  Loc.ite ((Loc.bind loc_byte fun v => Loc.pure _).mono (by decide)) (Loc.ite (Loc.bind loc_word fun v => Loc.pure _) (Loc.ite (Loc.bind loc_word fun v => Loc.pure _) ((Loc.pure _).mono (by decide))))

theorem loc_place (m : Mrm) : Loc 5 (fun L k => dcPlace L m k) :=
  Loc.ite ((Loc.pure _).mono (by decide)) (Loc.ite (Loc.bind loc_byte fun v => loc_tail _ _ _ _) ((loc_tail _ _ _ _).mono (by decide)))

theorem loc_two (op : Int) (t : Bool) : Loc 6 (fun L k => dcTwo L op t k) := Loc.bind loc_mrm fun m => Loc.bind (loc_place m) fun o => Loc.pure _
theorem loc_one (op : Int) (m : Mrm) : Loc 5 (fun L k => dcOne L op m k) := Loc.bind (loc_place m) fun o => Loc.pure _

theorem loc_row (c : Int) : Loc 6 (fun L k => dcRow L c k) :=
  Loc.ite (loc_two _ _) (Loc.ite (loc_two _ _) (Loc.ite ((Loc.bind loc_imm32 fun v => Loc.pure _).mono (by decide)) ((Loc.fail (by decide)).mono (by decide))))

theorem loc_lea : Loc 6 (fun L k => dcLea L k) :=
  Loc.bind loc_mrm fun m => Loc.ite ((Loc.fail (by decide)).mono (by decide)) (Loc.bind (loc_place m) fun o => Loc.pure _)

theorem loc_lays (c : Int) : Loc 10 (fun L k => dcLays L c k) :=
  Loc.bind loc_mrm fun m => Loc.ite ((Loc.fail (by decide)).mono (by decide)) (Loc.bind (loc_place m) fun o => Loc.ite (Loc.bind loc_imm32 fun v => Loc.pure _) ((Loc.bind loc_small fun v => Loc.pure _).mono (by decide)))

theorem loc_shift (c : Int) : Loc 7 (fun L k => dcShift L c k) :=
  Loc.bind loc_mrm fun m => Loc.ite ((Loc.fail (by decide)).mono (by decide)) (Loc.bind (loc_place m) fun o => Loc.ite (Loc.bind loc_small fun v => Loc.pure _) (Loc.ite ((Loc.pure _).mono (by decide)) ((Loc.pure _).mono (by decide))))

theorem loc_number (c : Int) : Loc 6 (fun L k => dcNumber L c k) :=
  Loc.bind loc_mrm fun m => Loc.ite ((Loc.fail (by decide)).mono (by decide)) (loc_one _ m)

theorem loc_unary : Loc 10 (fun L k => dcUnary L k) :=
  Loc.bind loc_mrm fun m => Loc.ite (Loc.bind (loc_place m) fun o => Loc.bind loc_imm32 fun v => Loc.pure _) (Loc.ite ((loc_one _ m).mono (by decide)) ((Loc.fail (by decide)).mono (by decide)))

theorem loc_last : Loc 6 (fun L k => dcLast L k) :=
  Loc.bind loc_mrm fun m => Loc.ite (loc_one _ m) (Loc.ite ((Loc.fail (by decide)).mono (by decide)) ((Loc.fail (by decide)).mono (by decide)))

theorem loc_groups (c : Int) : Loc 10 (fun L k => dcGroups L c k) :=
  Loc.ite ((loc_shift _).mono (by decide)) (Loc.ite ((Loc.bind loc_small fun o => Loc.ite (Loc.pure _) (Loc.fail (by decide))).mono (by decide))
    (Loc.ite ((Loc.bind loc_byte fun x => Loc.ite (Loc.pure _) (Loc.ite (Loc.pure _) (Loc.fail (by decide)))).mono (by decide)) (Loc.ite ((loc_number _).mono (by decide))
    (Loc.ite ((Loc.bind loc_byte fun x => Loc.ite (Loc.pure _) (Loc.ite (Loc.pure _) (Loc.fail (by decide)))).mono (by decide)) (Loc.ite loc_unary (Loc.ite (loc_last.mono (by decide)) ((Loc.fail (by decide)).mono (by decide))))))))

theorem loc_plain (c : Int) : Loc 10 (fun L k => dcPlain L c k) :=
  Loc.ite ((Loc.pure _).mono (by decide)) (Loc.ite ((Loc.pure _).mono (by decide)) (Loc.ite ((Loc.pure _).mono (by decide)) (Loc.ite ((Loc.pure _).mono (by decide)) (Loc.ite ((Loc.pure _).mono (by decide))
    (Loc.ite ((Loc.pure _).mono (by decide)) (Loc.ite ((Loc.pure _).mono (by decide)) (Loc.ite ((Loc.bind loc_imm32 fun v => Loc.pure _).mono (by decide)) (Loc.ite ((Loc.bind loc_imm32 fun v => Loc.pure _).mono (by decide))
    (Loc.ite ((Loc.bind loc_imm8 fun v => Loc.pure _).mono (by decide)) (loc_groups _))))))))))

theorem loc_moves (c : Int) : Loc 10 (fun L k => dcMoves L c k) :=
  Loc.ite ((Loc.bind loc_imm32 fun v => Loc.pure _).mono (by decide)) (Loc.ite ((Loc.bind loc_imm8 fun v => Loc.pure _).mono (by decide))
    (Loc.ite (Loc.bind loc_mrm fun m => Loc.bind (loc_place m) fun o => Loc.bind loc_imm32 fun v => Loc.pure _) (Loc.ite ((Loc.bind loc_mrm fun m => Loc.bind (loc_place m) fun o => Loc.bind loc_imm8 fun v => Loc.pure _).mono (by decide))
    (Loc.ite ((loc_two _ _).mono (by decide)) (Loc.ite ((loc_two _ _).mono (by decide)) (Loc.ite ((loc_two _ _).mono (by decide)) (Loc.ite ((loc_two _ _).mono (by decide)) (Loc.ite ((loc_two _ _).mono (by decide)) (Loc.ite ((loc_two _ _).mono (by decide))
    (Loc.ite (loc_lea.mono (by decide)) (Loc.ite ((Loc.bind loc_imm32 fun v => Loc.pure _).mono (by decide)) (Loc.ite (loc_lays _) (loc_plain _)))))))))))))

theorem loc_second : Loc 8 (fun L k => dcSecond L k) :=
  (Loc.bind (n := 1) (m := 7) loc_byte fun c => Loc.ite ((Loc.fail (by decide)).mono (by decide)) (Loc.ite ((Loc.bind (loc_two _ _) fun i => Loc.pure _).mono (by decide)) (Loc.ite ((Loc.bind loc_imm32 fun v => Loc.pure _).mono (by decide))
    (Loc.ite ((Loc.bind loc_mrm fun m => Loc.ite ((Loc.fail (by decide)).mono (by decide)) (Loc.bind (loc_place m) fun o => Loc.pure _)).mono (by decide))
    (Loc.ite ((loc_two _ _).mono (by decide)) (Loc.ite ((loc_two _ _).mono (by decide)) (Loc.ite ((loc_two _ _).mono (by decide)) ((Loc.fail (by decide)).mono (by decide)))))))))

theorem loc_rest (c : Int) : Loc 10 (fun L k => dcRest L c k) :=
  (Loc.ite (loc_second.mono (by decide)) (Loc.ite ((loc_row _).mono (by decide)) (Loc.ite ((Loc.pure _).mono (by decide)) (Loc.ite ((Loc.pure _).mono (by decide)) (Loc.ite ((Loc.pure _).mono (by decide)) (Loc.ite ((Loc.pure _).mono (by decide))
    (Loc.ite ((Loc.bind loc_imm8 fun v => Loc.pure _).mono (by decide)) (Loc.ite ((Loc.bind loc_small fun v => Loc.pure _).mono (by decide)) (Loc.ite ((Loc.bind loc_imm32 fun v => Loc.pure _).mono (by decide)) (loc_moves _))))))))))

theorem loc_insn : Loc 11 dcInsn := Loc.bind (n := 1) (m := 10) loc_byte loc_rest

theorem insn_pos {L : List Int} {i : Ins} {k : Nat} (h : dcInsn L 0 = .ok i k) : 1 ≤ k := by
  unfold dcInsn dcByte at h
  by_cases hl : 0 < L.length
  · rw [if_pos hl, DR.bind_ok] at h
    have := loc_rest (L.getD 0 0) L 1 hl
    simp only [Nat.zero_add] at h
    simp only [h] at this
    exact this.1
  · rw [if_neg hl] at h
    cases h

theorem agree_take (L : List Int) (j n : Nat) (hn : n ≤ j) (hj : j ≤ L.length) : Agree n (L.take j) L :=
  ⟨by omega, fun i hi => by rw [List.getD_eq_getElem?_getD, List.getD_eq_getElem?_getD, List.getElem?_take, if_pos (by omega)]⟩

theorem front_cut (L : List Int) (h : decE L = 0) : 1 ≤ decN L ∧ decN L ≤ 15 ∧ decN L ≤ L.length ∧ (decI L).len = decN L ∧ ∀ j : Nat, (j : Int) < decN L → decE (L.take j) = 10 := by
  have hl := loc_insn L 0 (Nat.zero_le _)
  unfold decE at h
  unfold decN decI
  cases hd : dcInsn L 0 with
  | err c =>
    rw [hd] at h hl
    simp only at h
    have := hl.1
    omega
  | ok i k =>
    have hp := insn_pos hd
    rw [hd] at hl
    refine ⟨?_, ?_, ?_, rfl, fun j hj => ?_⟩
    · simp only; omega
    · simp only; omega
    · simp only; omega
    · simp only at hj
      have h2 := loc_insn (L.take j) 0 (Nat.zero_le _)
      have hlen : (L.take j).length = j := by rw [List.length_take]; omega
      unfold decE
      cases hd2 : dcInsn (L.take j) 0 with
      | ok i2 k2 =>
        rw [hd2] at h2
        have h3 := h2.2.2.2 L (agree_take L j k2 (by omega) (by omega))
        rw [hd] at h3
        injection h3 with h4 h5
        omega
      | err c =>
        rw [hd2] at h2
        simp only
        rcases h2.2 with h3 | h3
        · exact h3
        · have h4 := h3 L (by rw [hlen]; exact agree_take L j j (Nat.le_refl _) (by omega))
          rw [hd] at h4
          cases h4

end Go.Proofs.Yteiplidhkelkbaa

/-
  Package block: rows as plain data: findM; the copy of instructions. No condition.
-/
namespace Go.Proofs.Yteiplidhkelkbaa
open Go Go.RowKit
set_option linter.unusedVariables false
set_option linter.unusedSimpArgs false

/-- An instruction that is there has from one to fifteen bytes. -/
theorem fetchD_len (M : Mem) (pc : Int) (n : Nat) (L : List Int) (h : (fetchD M pc n L).k = true) : 1 ≤ (fetchD M pc n L).i.len ∧ (fetchD M pc n L).i.len ≤ 15 := by
  induction n generalizing L with
  | zero => simp [fetchD] at h
  | succ n ih =>
    unfold fetchD at h ⊢
    by_cases e0 : decE L = 0
    · rw [if_pos e0]
      obtain ⟨a, b, _, d, _⟩ := front_cut L e0
      simp only [d]
      omega
    rw [if_neg e0] at h ⊢
    by_cases e1 : decE L = 90
    · rw [if_pos e1] at h; simp at h
    rw [if_neg e1] at h ⊢
    by_cases e2 : decE L = 12
    · rw [if_pos e2] at h; simp at h
    rw [if_neg e2] at h ⊢
    by_cases hk : M.readK (plus pc L.length) 1 4 = true
    · rw [if_pos hk] at h ⊢
      exact ih _ h
    · rw [if_neg hk] at h; simp at h
theorem fetch_len {M : Mem} {pc : Int} (h : (fetchM M pc).k = true) : 1 ≤ (fetchM M pc).i.len ∧ (fetchM M pc).i.len ≤ 15 := fetchD_len M pc 16 [] h

/-- May the row go on at a place? -/
def goesOn (pc at_ : Int) (row : List Ins) : Bool := decide (row.length < 8) && (!endsI (row.getD (row.length - 1) Ins.zero) && ((at_ - 1) % 4294967296 / 256 == pc / 256))
/-- Does an instruction at a place belong to the row? -/
def belongs (pc at_ : Int) (r : FeR) : Bool := r.k && ((at_ + r.i.len - 1) % 4294967296 / 256 == pc / 256)

def findD (M : Mem) (pc : Int) : Nat → List Ins → Int → List Ins
  | 0, row, _ => row
  | n + 1, row, at_ => if goesOn pc at_ row = true ∧ belongs pc at_ (fetchM M at_) = true then findD M pc n (row ++ [(fetchM M at_).i]) ((at_ + (fetchM M at_).i.len) % 4294967296) else row

def findL (M : Mem) (pc : Int) : List Ins := if (fetchM M pc).k = true then findD M pc 8 [(fetchM M pc).i] ((pc + (fetchM M pc).i.len) % 4294967296) else []
def findF (M : Mem) (pc : Int) : Flt := if (fetchM M pc).k = true then Flt.zero else (fetchM M pc).f
def findK (M : Mem) (pc : Int) : Bool := (fetchM M pc).k

theorem run_buildOne (i : Ins) (w : World) : (Instr.buildSlice 30 1 #[(0, .agg i.cells)]).run Try.prog w = .ok (.slice (some ⟨w.heap.size, 0, none⟩) 1 1) (w.alloc (.cells i.cells 38)) := by
  unfold Ins.cells
  kernel_rfl

/-- Instructions copied: so many as there are, and room is. -/
theorem run_copy_ins (w : World) (ty : TypeId) (b o dLen dCap : Nat) (a : Addr) (sLen sCap : Nat) (cs : List Value) (hn : cs.length = Nat.min sLen dLen * 16)
    (hsrc : ∀ j v, cs[j]? = some v → w.cell? (a.add j) = some v) (hc : ∀ j, j < cs.length → (w.cell? ⟨b, o + j, none⟩).isSome = true) (hf : ∀ j, j < cs.length → w.frozen? ⟨b, o + j, none⟩ = false) (h1 : ∀ v ∈ cs, v.oneCell' = true) :
    (Builtin.copy_ #[30, 30] ty #[.slice (some ⟨b, o, none⟩) dLen dCap, .slice (some a) sLen sCap]).run Try.prog w = .ok (goInt (Nat.min sLen dLen)) (w.setCells b o cs) := by
  have hl := run_loadCells_list (P := Try.prog) w a cs hsrc
  have hst := run_storeCells_cells (P := Try.prog) b o cs 0 w (by simpa using hc) (by simpa using hf) h1
  have hi := ins_info
  cases hq : Try.prog.info? 38 with
  | none => simp [hq] at hi
  | some i =>
    have hi : i.size = 16 := by simpa [hq] using hi
    simp [Builtin.copy_, run_underlying Try.underlying30, Builtin.lenOf, Builtin.firstCells, sizeOf, typeInfo, hq, hi, ← hn, hl, hst]

theorem wp_buildOne {op : Oper} {a : Act} {w : World} {K : Act → World → Prop} {Q : Exit → Act → World → Prop} (i : Ins) (x : Operand) (ho : op.op = .buildSlice 30 1 #[(0, x)]) (hx : a.eval x = .agg i.cells)
    (hK : K (a.put op.dst (.slice (some ⟨w.heap.size, 0, none⟩) 1 1)) (w.alloc (.cells i.cells 38))) : op.wp Try.prog a w K Q := by
  unfold Oper.wp execOp
  simp only [ho, List.map_toArray, List.map_cons, List.map_nil, hx, Sem.run_bind, run_buildOne, Result.andThen_ok, Sem.run_pure]
  exact hK

theorem wpList_copy_ins {ops : Array Oper} {rest : List Oper} {o : Oper} {a : Act} {w : World} {Q : Exit → Act → World → Prop} (hgd : o.guard = none) (s x : Operand)
    (ho : o.op = .call { callee := .builtin .copy, args := #[s, x], argTypes := #[30, 30] })
    (b off dLen dCap : Nat) (ad : Addr) (sLen sCap : Nat) (cs : List Value) (hs : a.eval s = .slice (some ⟨b, off, none⟩) dLen dCap) (hx : a.eval x = .slice (some ad) sLen sCap) (hn : cs.length = Nat.min sLen dLen * 16)
    (hsrc : ∀ j v, cs[j]? = some v → w.cell? (ad.add j) = some v) (hc : ∀ j, j < cs.length → (w.cell? ⟨b, off + j, none⟩).isSome = true) (hf : ∀ j, j < cs.length → w.frozen? ⟨b, off + j, none⟩ = false) (h1 : ∀ v ∈ cs, v.oneCell' = true)
    (h : ∀ w', w.setCells b off cs = w' → wpList Try.prog ops Q rest (a.put o.dst (goInt (Nat.min sLen dLen))) w') : wpList Try.prog ops Q (o :: rest) a w := by
  refine wpList_plain hgd fun _ hK => ?_
  unfold Oper.wp execOp
  simp only [ho, resolve, invoke, builtin, Sem.run_bind, Sem.run_pure, Result.andThen_ok, List.map_toArray, List.map_cons, List.map_nil, hs, hx, run_copy_ins w o.type b off dLen dCap ad sLen sCap cs hn hsrc hc hf h1]
  exact hK _ _ (h _ rfl)

/-- Cells written over from a place on. -/
theorem wr_get' (c : Array Value) (o : Nat) (l : List Value) (h : o + l.length ≤ c.size) (k : Nat) : (wr c o l)[k]? = if o ≤ k ∧ k < o + l.length then l[k - o]? else c[k]? := wr_get l c o k h
end Go.Proofs.Yteiplidhkelkbaa

/-
  Package block: Find, by its contract. No condition.
-/
namespace Go.Proofs.Yteiplidhkelkbaa
open Go Go.RowKit
set_option linter.unusedVariables false
set_option linter.unusedSimpArgs false

def fltZ : Obj := .cells #[.int .i64 0, .int .u32 0, .int .u32 0, .int .i64 0] 32

theorem fetchM_flt (M : Mem) (pc : Int) : ∃ k p x t, (fetchM M pc).f = ⟨k, p, x, t⟩ := ⟨_, _, _, _, rfl⟩

/-- Two new variables, an instruction stored into the first. -/
theorem two_new {w1 w2 : World} {I : Ins} (hw : ((w1.alloc (.cells Ins.zero.cells 38)).alloc fltZ).setCells w1.heap.size 0 I.cells.toList = w2) :
    w2.heap[w1.heap.size]? = some (.cells I.cells 38 (0, 0)) ∧ w2.heap[w1.heap.size + 1]? = some (.cells #[.int .i64 0, .int .u32 0, .int .u32 0, .int .i64 0] 32 (0, 0)) ∧ Upd [] w1 w2 := by
  have u := ((Upd.refl [] w1).alloc (.cells Ins.zero.cells 38)).alloc fltZ
  obtain ⟨z1, z2⟩ := ins_new (S := []) (w0 := w1) hw (heap_alloc2_old w1 _ _) rfl u (.inr (Nat.le_refl _))
  obtain ⟨_, z3⟩ := ins_new (S := [w1.heap.size]) hw (heap_alloc2_old w1 _ _) rfl (Upd.refl _ _) (.inl (by simp))
  exact ⟨z1, z3.get (heap_alloc2_new w1 (.cells Ins.zero.cells 38) fltZ) (by simp), z2⟩

/-- Behind the first fetch. -/
structure BlF (w : World) (I : Ins) (F : Flt) (ib : Nat) (w3 : World) : Prop where
  i : w3.heap[ib]? = some (.cells I.cells 38 (0, 0))
  f : w3.heap[ib + 1]? = some (.cells #[.int .i64 F.k, .int .u32 F.pc, .int .u32 F.a, .int .i64 F.wt] 32 (0, 0))
  z : w3.heap[w.heap.size]? = some (.cells #[.int .i64 0, .int .u32 0, .int .u32 0, .int .i64 0] 32 (0, 0))
  u : Upd [] w w3
  l : w.heap.size < ib
theorem BlF.of {w w1 w2 : World} {I : Ins} (F : Flt) (hu : Upd [] (w.alloc fltZ) w1) (h2 : w2.heap[w1.heap.size]? = some (.cells I.cells 38 (0, 0)) ∧ w2.heap[w1.heap.size + 1]? = some (.cells #[.int .i64 0, .int .u32 0, .int .u32 0, .int .i64 0] 32 (0, 0)) ∧ Upd [] w1 w2) :
    BlF w I F w1.heap.size ((((w2.setCell ⟨w1.heap.size + 1, 0, none⟩ (.int .i64 F.k)).setCell ⟨w1.heap.size + 1, 1, none⟩ (.int .u32 F.pc)).setCell ⟨w1.heap.size + 1, 2, none⟩ (.int .u32 F.a)).setCell ⟨w1.heap.size + 1, 3, none⟩ (.int .i64 F.wt)) := by
  have hz : w1.heap[w.heap.size]? = some fltZ := hu.get (heap_alloc_new w fltZ) (by simp)
  have hl := lt_of_heap hz
  have u2 := ((Upd.refl [] w).alloc fltZ).also (hu.also h2.2.2 (by simp)) (by simp)
  have u4 := Upd_store4 (S := [w1.heap.size + 1]) (b := w1.heap.size + 1) (Upd.refl _ w2) (.inl (by simp)) (.int .i64 F.k) (.int .u32 F.pc) (.int .u32 F.a) (.int .i64 F.wt)
  exact ⟨u4.get h2.1 (by simp), store4 h2.2.1 _ _ _ _, u4.get (h2.2.2.get hz (by simp)) (by simp; omega), u2.also u4 (by simp; omega), hl⟩

set_option maxRecDepth 100000 in
set_option maxHeartbeats 4000000 in
theorem Find_no (M : Mem) (a pb : Nat) (pc : Int) (w : World) (hM : IsMem w a pb M) (h0 : 0 ≤ pc ∧ pc < 4294967296) (hk : (fetchM M pc).k = false) :
    Calls Try.prog 8 #[.pointer (some ⟨a, 0, none⟩), .int .u32 pc] w fun e w' => e = .returned (.tuple #[.slice none 0 0, (fetchM M pc).f.val, .bool false]) ∧ Upd [] w w' := by
  have HM := Lib.hid (And.intro hM h0)
  obtain ⟨I, hI⟩ : ∃ I, (fetchM M pc).i = I := ⟨_, rfl⟩
  obtain ⟨fk, fp, fa, fw, hF⟩ := fetchM_flt M pc
  have HR := Lib.hid (And.intro hI (And.intro hF hk))
  rw [hF]
  have tok : True := trivial
  clear hM h0 hk hI hF
  go_enter Try.func8, Try.ntmps8
  go_wp2_with (first | (have _t := tok; clear _t; go_at_call 16; refine (Fetch_any M a pb pc _ (HM.out.1.keep ((Upd.refl [] w).alloc _) (by simp) (by simp)) HM.out.2).mono ?_; rintro e w1 ⟨rfl, hu⟩; rw [HR.out.1, HR.out.2.1, HR.out.2.2]; unfold Flt.val; have U1 := Lib.hid hu; clear hu tok) | (have _t := U1; clear _t; refine at_store 38 rfl ?_; refine wpList_store_ins I w1.heap.size rfl _ _ rfl rfl rfl (heap_alloc2_old w1 (.cells Ins.zero.cells 38) fltZ) rfl ?_; intro w2 hw; have h2 := two_new hw; have H2 := Lib.hid (BlF.of ⟨fk, fp, fa, fw⟩ U1.out h2); have c2 := cells_of h2.2.1; have f2 := free_of h2.2.1; clear hw h2 U1))
  have h3 := H2.out
  clear c2 f2 H2
  generalize ((((w2.setCell ⟨w1.heap.size + 1, 0, none⟩ (.int .i64 fk)).setCell ⟨w1.heap.size + 1, 1, none⟩ (.int .u32 fp)).setCell ⟨w1.heap.size + 1, 2, none⟩ (.int .u32 fa)).setCell ⟨w1.heap.size + 1, 3, none⟩ (.int .i64 fw)) = w3 at h3 ⊢
  have H3 := Lib.hid h3
  clear h3
  refine wp_draw 2 (BlF w I ⟨fk, fp, fa, fw⟩ w1.heap.size) (fun _ _ => False) (by kernel_rfl) (by kernel_rfl) ⟨((Upd.refl [] w3).drew).get H3.out.i (by simp), ((Upd.refl [] w3).drew).get H3.out.f (by simp), ((Upd.refl [] w3).drew).get H3.out.z (by simp), H3.out.u.drew, H3.out.l⟩ (fun _ _ _ h => h.elim) ?_
  simp only [List.take_succ_cons, List.take_zero, List.drop_succ_cons, List.drop_zero]
  iterate 2
    apply headW_val rfl rfl
    · intro K hK w5 hB1
      have c5 := cells_of hB1.f
      have HB := Lib.hid hB1
      clear hB1
      go_wp2_with fail
      first
      | exact hK _ HB.out
      | exact HB.out
    · exact ⟨_, rfl⟩
  refine headW_nil (fun _ w5 hB1 => ?_)
  have c5 := cells_of hB1.z
  have f5 := free_of hB1.z
  have HB := Lib.hid hB1
  clear hB1
  go_wp2_with fail
  exact bodyPost_ret (results_three' rfl (res_tmp 4 rfl) (res_flt 5 w.heap.size ⟨fk, fp, fa, fw⟩ rfl (store4 HB.out.z _ _ _ _)) (res_tmp 6 rfl)) rfl ⟨rfl, Upd_store4 HB.out.u (.inr (Nat.le_refl _)) _ _ _ _⟩

/-- Along the loop: the row's variable holds the instructions so far. -/
structure BlS (w : World) (ib rb : Nat) (row : List Ins) (wr : World) : Prop where
  r : ∃ C : Array Value, wr.heap[rb]? = some (.cells C 57 (0, 0)) ∧ C.size = 128 ∧ ∀ (k : Nat) (u : Value), (insRow row)[k]? = some u → C[k]? = some u
  z : wr.heap[w.heap.size]? = some (.cells #[.int .i64 0, .int .u32 0, .int .u32 0, .int .i64 0] 32 (0, 0))
  u : Upd [] w wr
  l : w.heap.size < rb
  n : row.length ≤ 8

/-- Along the drawn region that copies one: operation k lays it. -/
structure BlD (w : World) (rb : Nat) (row : List Ins) (I : Ins) (xb k : Nat) (d : Nat → Bool) (r : Nat → Value) (wr : World) : Prop where
  s : BlS w xb rb row wr
  i : wr.heap[xb]? = some (.cells I.cells 38 (0, 0))
  x : d k = true → ∃ g, r k = .slice (some ⟨g, 0, none⟩) 1 1 ∧ g ≠ rb ∧ wr.heap[g]? = some (.cells I.cells 38 (0, 0))

section
variable {w w1 w2 : World} {ib rb xb k : Nat} {row : List Ins} {I : Ins} {d : Nat → Bool} {r : Nat → Value}
theorem BlS.step (h : BlS w ib rb row w1) (u : Upd [] w1 w2) : BlS w ib rb row w2 := by
  obtain ⟨C, h1, h2, h3⟩ := h.r
  exact ⟨⟨C, u.get h1 (by simp), h2, h3⟩, u.get h.z (by simp), h.u.also u (by simp), h.l, h.n⟩
theorem BlS.copy (h : BlS w ib rb row w1) (hn : row.length < 8) (hw : w1.setCells rb (row.length * 16) I.cells.toList = w2) : BlS w ib rb (row ++ [I]) w2 := by
  obtain ⟨C, h1, h2, h3⟩ := h.r
  have hl := ins_len I
  have hil := h.l
  have u : Upd [rb] w1 w2 := by subst hw; exact (Upd.refl [rb] w1).setCells (.inl (by simp)) _ _
  refine ⟨⟨Go.Proofs.Yteiplidhkelkbaa.wr C (row.length * 16) I.cells.toList, by subst hw; exact heap_setCells_same _ _ _ _ h1, by rw [wr_size]; exact h2, fun k v hk => ?_⟩, u.get h.z (by simp; omega), h.u.also u (by simp; omega), h.l, by simp; omega⟩
  rw [wr_get' _ _ _ (by omega)]
  rw [insRow_app, List.getElem?_append, insRow_len] at hk
  have e1 : insRow [I] = I.cells.toList := by simp [insRow]
  rw [e1] at hk
  by_cases hk1 : k < row.length * 16
  · rw [if_pos hk1] at hk
    rw [if_neg (by omega)]
    exact h3 _ _ hk
  · rw [if_neg hk1] at hk
    have := (List.getElem?_eq_some_iff.1 hk).1
    rw [if_pos (by omega)]
    exact hk
theorem BlS.cell (h : BlS w ib rb row w1) (hn : row.length < 8) (j : Nat) (hj : j < 16) : (w1.cell? ⟨rb, row.length * 16 + j, none⟩).isSome = true ∧ w1.frozen? ⟨rb, row.length * 16 + j, none⟩ = false := by
  obtain ⟨C, h1, h2, h3⟩ := h.r
  refine ⟨?_, free_of h1 _⟩
  rw [cells_of h1, Array.getElem?_eq_getElem (by omega)]
  rfl
theorem src_ins {g : Nat} (h : w1.heap[g]? = some (.cells I.cells 38 (0, 0))) : ∀ j v, I.cells.toList[j]? = some v → w1.cell? ((⟨g, 0, none⟩ : Addr).add j) = some v := by
  intro j v hv
  have := range_whole h j v hv
  unfold Addr.add
  by_cases e : j = 0
  · subst e; simpa using this
  · rw [if_neg e]; exact this
theorem BlD.start (h : BlS w xb rb row w1) (hi : w1.heap[xb]? = some (.cells I.cells 38 (0, 0))) (r : Nat → Value) : BlD w rb row I xb k (fun _ => false) r w1.drew :=
  ⟨h.step ((Upd.refl [] w1).drew), ((Upd.refl [] w1).drew).get hi (by simp), by simp⟩
theorem BlD.same (h : BlD w rb row I xb k d r w1) (q : Nat) (h1 : k ≠ q) : BlD w rb row I xb k (updD d q) r w1 := ⟨h.s, h.i, fun e => h.x (by rwa [bD_ne h1] at e)⟩
theorem BlD.lay (h : BlD w rb row I xb k d r w1) : BlD w rb row I xb k (updD d k) (updV r k (.slice (some ⟨w1.heap.size, 0, none⟩) 1 1)) (w1.alloc (.cells I.cells 38)) := by
  have u := (Upd.refl [] w1).alloc (.cells I.cells 38)
  obtain ⟨C, h1, _⟩ := h.s.r
  have := lt_of_heap h1
  exact ⟨h.s.step u, u.get h.i (by simp), fun _ => ⟨_, bV_eq, by omega, heap_alloc_new _ _⟩⟩
theorem BlS.at (h : BlS w ib rb row w1) {x : Ins} (hx : row[k]? = some x) : w1.rangeAt rb (k * 16) x.cells.toList := by
  obtain ⟨C, h1, h2, h3⟩ := h.r
  intro j v hv
  rw [cells_of h1]
  have hj := (List.getElem?_eq_some_iff.1 hv).1
  exact h3 _ _ (by rw [insRow_get hx j hj]; exact hv)
theorem wpList_load_insAt {ops : Array Oper} {rest : List Oper} {op : Oper} {a : Act} {w : World} {Q : Exit → Act → World → Prop} (o : Ins) (b off : Nat) (hgd : Region.wanted op (yielded ops a.tmps) = true) (x : Operand) (ho : op.op = .load 38 x) (hx : a.eval x = .pointer (some ⟨b, off, none⟩))
    (hb : w.rangeAt b off o.cells.toList) (h : wpList Try.prog ops Q rest (a.put op.dst (.agg o.cells)) w) : wpList Try.prog ops Q (op :: rest) a w :=
  wpList_want hgd fun _ hK => wp_load_mid 38 x ho b off hx o.cells.toList _ hb Try.underlying38 rfl (by rw [Array.length_toList, Ins.size]; exact ins_info) (by rw [Array.toArray_toList]; exact hK _ _ h)
theorem info_ins : ∃ i B, Try.prog.info? 38 = some i ∧ i.zero = some (.agg Ins.zero.cells) ∧ i.size = 16 ∧ i.bytes = B ∧ B ≤ 1000 := by
  have h : (Try.prog.info? 38).map (fun i => (i.zero, i.size, decide (i.bytes ≤ 1000))) = some (some (.agg Ins.zero.cells), 16, true) := by kernel_rfl
  cases hq : Try.prog.info? 38 with
  | none => simp [hq] at h
  | some i =>
    rw [hq] at h
    simp only [Option.map_some, Option.some.injEq, Prod.mk.injEq, decide_eq_true_eq] at h
    exact ⟨i, _, rfl, h.1, h.2.1, rfl, h.2.2⟩
theorem BlS.src (h : BlS w ib rb row w1) : ∀ j u, (insRow row)[j]? = some u → w1.cell? ((⟨rb, 0, none⟩ : Addr).add j) = some u := by
  obtain ⟨C, h1, h2, h3⟩ := h.r
  intro j u hu
  have e : (⟨rb, 0, none⟩ : Addr).add j = ⟨rb, j, none⟩ := by rcases j with _ | j <;> simp [Addr.add]
  rw [e, cells_of h1]
  exact h3 _ _ hu
theorem BlS.base (h : BlS w ib rb row w1) : w.heap.size + 1 ≤ w1.heap.size := by
  have := h.l
  obtain ⟨C, hq, _⟩ := h.r
  have := lt_of_heap hq
  omega
theorem isl_of_own {b n : Nat} {v : Value} (hn : n = row.length) (h1 : 1 ≤ row.length) (h : w1.ownsRow b 38 16 v n (insRow row)) : ∃ g, b ≤ g ∧ ISl w1 v row g := by
  subst hn
  rcases h.2 with ⟨_, h0⟩ | ⟨g, cap, cur, rfl, hg, hb, _, _, hs, ht⟩
  · omega
  · refine ⟨g, hg, .inr ⟨0, cap, cur, (0, 0), rfl, hb, fun k u hk => ?_⟩⟩
    have hl := (List.getElem?_eq_some_iff.1 hk).1
    rw [insRow_len] at hl
    rw [← ht, List.getElem?_take_of_lt (by omega), Array.getElem?_toList] at hk
    rw [Nat.zero_add]
    exact hk
end

structure BlX (w : World) (rb : Nat) (row : List Ins) (I : Ins) (xb : Nat) (d : Nat → Bool) (r : Nat → Value) (wr : World) : Prop where
  s : BlS w xb rb (if d 5 = true then row ++ [I] else row) wr
  i : wr.heap[xb]? = some (.cells I.cells 38 (0, 0))
  x : d 4 = true → ∃ g, r 4 = .slice (some ⟨g, 0, none⟩) 1 1 ∧ wr.heap[g]? = some (.cells I.cells 38 (0, 0))

section
variable {w w1 w2 : World} {ib rb xb k : Nat} {row : List Ins} {I : Ins} {d : Nat → Bool} {r : Nat → Value}
theorem BlS.ne (h : BlS w ib rb row w1) {g : Nat} {C : Array Value} {f : Nat × Nat} (hg : w1.heap[g]? = some (.cells C 38 f)) : g ≠ rb := by
  obtain ⟨C', hq, _⟩ := h.r
  intro e
  rw [← e, hg] at hq
  injection hq with hq
  injection hq with _ hq _
  exact absurd hq (by decide)
theorem BlX.start (h : BlS w ib rb row w1) (hi : w1.heap[xb]? = some (.cells I.cells 38 (0, 0))) (r : Nat → Value) : BlX w rb row I xb (fun _ => false) r w1.drew := by
  have g := h.step ((Upd.refl [] w1).drew)
  exact ⟨by rw [if_neg (by simp)]; exact ⟨g.r, g.z, g.u, g.l, g.n⟩, ((Upd.refl [] w1).drew).get hi (by simp), by simp⟩
theorem BlX.same (h : BlX w rb row I xb d r w1) (q : Nat) (h1 : 4 ≠ q) (h2 : 5 ≠ q) : BlX w rb row I xb (updD d q) r w1 := ⟨by rw [bD_ne h2]; exact h.s, h.i, fun e => h.x (by rwa [bD_ne h1] at e)⟩
theorem BlX.lay (h : BlX w rb row I xb d r w1) : BlX w rb row I xb (updD d 4) (updV r 4 (.slice (some ⟨w1.heap.size, 0, none⟩) 1 1)) (w1.alloc (.cells I.cells 38)) := by
  have u := (Upd.refl [] w1).alloc (.cells I.cells 38)
  exact ⟨by rw [bD_ne (by decide)]; exact h.s.step u, u.get h.i (by simp), fun _ => ⟨_, bV_eq, heap_alloc_new _ _⟩⟩
theorem BlX.was (h : BlX w rb row I xb d r w1) (hd : d 5 = false) : BlS w xb rb row w1 := by
  have := h.s
  rwa [if_neg (by simp [hd])] at this
theorem BlX.done (h : BlX w rb row I xb d r w1) (hd : d 5 = true) : BlS w xb rb (row ++ [I]) w1 := by
  have := h.s
  rwa [if_pos hd] at this
theorem BlX.copy (h : BlX w rb row I xb d r w1) (hd : d 5 = false) (hn : row.length < 8) (hw : w1.setCells rb (row.length * 16) I.cells.toList = w2) : BlX w rb row I xb (updD d 5) r w2 := by
  have g := h.was hd
  have o : ∀ (b : Nat) (C : Array Value) (f : Nat × Nat), w1.heap[b]? = some (.cells C 38 f) → w2.heap[b]? = some (.cells C 38 f) := fun b C f hb => by rw [← hw, heap_setCells_other (g.ne hb)]; exact hb
  refine ⟨by rw [if_pos bD_eq]; exact g.copy hn hw, o _ _ _ h.i, fun e => ?_⟩
  obtain ⟨q, e1, e2⟩ := h.x (by rwa [bD_ne (by decide)] at e)
  exact ⟨q, e1, o _ _ _ e2⟩
end
theorem wp_copy_ins {o : Oper} {a : Act} {w : World} {K : Act → World → Prop} {Q : Exit → Act → World → Prop} (s x : Operand)
    (ho : o.op = .call { callee := .builtin .copy, args := #[s, x], argTypes := #[30, 30] })
    (b off dLen dCap : Nat) (ad : Addr) (sLen sCap : Nat) (cs : List Value) (hs : a.eval s = .slice (some ⟨b, off, none⟩) dLen dCap) (hx : a.eval x = .slice (some ad) sLen sCap) (hn : cs.length = Nat.min sLen dLen * 16)
    (hsrc : ∀ j v, cs[j]? = some v → w.cell? (ad.add j) = some v) (hc : ∀ j, j < cs.length → (w.cell? ⟨b, off + j, none⟩).isSome = true) (hf : ∀ j, j < cs.length → w.frozen? ⟨b, off + j, none⟩ = false) (h1 : ∀ v ∈ cs, v.oneCell' = true)
    (h : ∀ w', w.setCells b off cs = w' → K (a.put o.dst (goInt (Nat.min sLen dLen))) w') : o.wp Try.prog a w K Q := by
  unfold Oper.wp execOp
  simp only [ho, resolve, invoke, builtin, Sem.run_bind, Sem.run_pure, Result.andThen_ok, List.map_toArray, List.map_cons, List.map_nil, hs, hx, run_copy_ins w o.type b off dLen dCap ad sLen sCap cs hn hsrc hc hf h1]
  exact h _ rfl

set_option maxRecDepth 100000 in
theorem sl_hi (w : World) (b n : Nat) (hn : n ≤ 8) : (Instr.sliceAt 57 (.pointer (some ⟨b, 0, none⟩)) none (some (.int .i64 n)) none).run Try.prog w = .ok (.slice (some ⟨b, 0, none⟩) n 8) w := by
  have h : n = 0 ∨ n = 1 ∨ n = 2 ∨ n = 3 ∨ n = 4 ∨ n = 5 ∨ n = 6 ∨ n = 7 ∨ n = 8 := by omega
  rcases h with rfl | rfl | rfl | rfl | rfl | rfl | rfl | rfl | rfl <;> rfl
set_option maxRecDepth 100000 in
theorem sl_lo (w : World) (b n : Nat) (hn : n ≤ 7) : (Instr.sliceAt 57 (.pointer (some ⟨b, 0, none⟩)) (some (.int .i64 n)) none none).run Try.prog w = .ok (.slice (some ⟨b, n * 16, none⟩) (8 - n) (8 - n)) w := by
  have h : n = 0 ∨ n = 1 ∨ n = 2 ∨ n = 3 ∨ n = 4 ∨ n = 5 ∨ n = 6 ∨ n = 7 := by omega
  rcases h with rfl | rfl | rfl | rfl | rfl | rfl | rfl | rfl <;> rfl

/-- Behind the last append. -/
structure BlE (w : World) (row : List Ins) (v : Value) (w1 : World) : Prop where
  s : ∃ g, w.heap.size < g ∧ ISl w1 v row g
  z : w1.heap[w.heap.size]? = some (.cells #[.int .i64 0, .int .u32 0, .int .u32 0, .int .i64 0] 32 (0, 0))
  u : Upd [] w w1
theorem BlE.of {w w1 w2 : World} {ib rb n : Nat} {row : List Ins} {v : Value} {xs : List Value} (h : BlS w ib rb row w1) (hn : n = row.length) (h1 : 1 ≤ row.length) (hx : xs = insRow row) (ho : w2.ownsRow (w.heap.size + 1) 38 16 v n xs) (hg : w1.grownBy w2 none) : BlE w row v w2 := by
  subst hx
  obtain ⟨g, hb, hI⟩ := isl_of_own hn h1 ho
  have u : Upd [] w1 w2 := Upd.of_grown (row := none) hg
  exact ⟨⟨g, by omega, hI⟩, u.get h.z (by simp), h.u.also u (by simp)⟩

theorem blE_end {w w1 : World} {L row : List Ins} {v : Value} {a b c d : Value} (h : BlE w row v w1) (e : L = row) :
    ∃ v' g, v = v' ∧ ISl ((((w1.setCell ⟨w.heap.size, 0, none⟩ a).setCell ⟨w.heap.size, 1, none⟩ b).setCell ⟨w.heap.size, 2, none⟩ c).setCell ⟨w.heap.size, 3, none⟩ d) v' L g ∧ w.heap.size ≤ g ∧ Upd [] w ((((w1.setCell ⟨w.heap.size, 0, none⟩ a).setCell ⟨w.heap.size, 1, none⟩ b).setCell ⟨w.heap.size, 2, none⟩ c).setCell ⟨w.heap.size, 3, none⟩ d) := by
  subst e
  obtain ⟨g, hg, hI⟩ := h.s
  refine ⟨v, g, rfl, hI.keep (Upd_store4 (S := [w.heap.size]) (Upd.refl _ w1) (.inl (by simp)) _ _ _ _) (by simp; omega), by omega, Upd_store4 h.u (.inr (Nat.le_refl _)) _ _ _ _⟩

set_option maxRecDepth 100000 in
set_option maxHeartbeats 4000000 in
theorem Find_yes (M : Mem) (a pb : Nat) (pc : Int) (w : World) (hM : IsMem w a pb M) (h0 : 0 ≤ pc ∧ pc < 4294967296) (hk : (fetchM M pc).k = true) :
    Calls Try.prog 8 #[.pointer (some ⟨a, 0, none⟩), .int .u32 pc] w fun e w' => ∃ v g, e = .returned (.tuple #[v, Flt.zero.val, .bool true]) ∧ ISl w' v (findL M pc) g ∧ w.heap.size ≤ g ∧ Upd [] w w' := by
  have HM := Lib.hid (And.intro hM h0)
  have hlen := fetch_len hk
  obtain ⟨i0, B0, hi0⟩ := info_ins
  have HI0 := Lib.hid hi0
  clear hi0
  obtain ⟨I, hI⟩ : ∃ I, (fetchM M pc).i = I := ⟨_, rfl⟩
  obtain ⟨fk, fp, fa, fw, hF⟩ := fetchM_flt M pc
  rw [hI] at hlen
  have HR := Lib.hid (And.intro hI (And.intro hF hk))
  have tok : True := trivial
  clear hM h0 hk hI hF
  go_enter Try.func8, Try.ntmps8
  go_wp2_with (first | (have _t := tok; clear _t; go_at_call 16; refine (Fetch_any M a pb pc _ (HM.out.1.keep ((Upd.refl [] w).alloc _) (by simp) (by simp)) HM.out.2).mono ?_; rintro e w1 ⟨rfl, hu⟩; rw [HR.out.1, HR.out.2.1, HR.out.2.2]; unfold Flt.val; have U1 := Lib.hid hu; clear hu tok) | (have _t := U1; clear _t; refine at_store 38 rfl ?_; refine wpList_store_ins I w1.heap.size rfl _ _ rfl rfl rfl (heap_alloc2_old w1 (.cells Ins.zero.cells 38) fltZ) rfl ?_; intro w2 hw; have h2 := two_new hw; have H2 := Lib.hid (BlF.of ⟨fk, fp, fa, fw⟩ U1.out h2); have c2 := cells_of h2.2.1; have f2 := free_of h2.2.1; clear hw h2 U1))
  have h3 := H2.out
  have hsz : ((((w2.setCell ⟨w1.heap.size + 1, 0, none⟩ (.int .i64 fk)).setCell ⟨w1.heap.size + 1, 1, none⟩ (.int .u32 fp)).setCell ⟨w1.heap.size + 1, 2, none⟩ (.int .u32 fa)).setCell ⟨w1.heap.size + 1, 3, none⟩ (.int .i64 fw)).heap.size = w2.heap.size := by simp
  clear c2 f2 H2
  generalize ((((w2.setCell ⟨w1.heap.size + 1, 0, none⟩ (.int .i64 fk)).setCell ⟨w1.heap.size + 1, 1, none⟩ (.int .u32 fp)).setCell ⟨w1.heap.size + 1, 2, none⟩ (.int .u32 fa)).setCell ⟨w1.heap.size + 1, 3, none⟩ (.int .i64 fw)) = w3 at h3 hsz ⊢
  rw [← hsz]
  have hS : BlS w w1.heap.size w3.heap.size [] (w3.alloc (.cells Try.zeroCells57 57)) := by
    have u := (Upd.refl [] w3).alloc (.cells Try.zeroCells57 57)
    have := lt_of_heap h3.z
    exact ⟨⟨_, heap_alloc_new _ _, by kernel_rfl, by simp [insRow]⟩, u.get h3.z (by simp), h3.u.also u (by simp), this, by simp⟩
  have H3 := Lib.hid (And.intro hS (((Upd.refl [] w3).alloc (.cells Try.zeroCells57 57)).get h3.i (by simp)))
  clear h3 hsz hS
  refine wp_drawE 3 (BlD w w3.heap.size [] I w1.heap.size 2) (fun _ _ => False) (by kernel_rfl) (by kernel_rfl) (fun r0 => BlD.start H3.out.1 H3.out.2 r0) (fun _ _ _ h => h.elim) ?_
  simp only [List.take_succ_cons, List.take_zero, List.drop_succ_cons, List.drop_zero]
  apply headE_val0 rfl rfl
  · intro d r0 K hd hdep hK w5 hB1
    have HB := Lib.hid hB1
    clear hB1 hdep
    go_wp2_with fail
    first
    | exact hK _ (HB.out.same _ (by decide))
    | exact HB.out.same _ (by decide)
  · exact ⟨_, rfl⟩
  apply headE_val0 rfl rfl
  · intro d r0 K hd hdep hK w5 hB1
    refine wp_load_ins I w1.heap.size _ rfl rfl hB1.i ?_
    exact hK _ (hB1.same _ (by decide))
  · exact ⟨_, rfl⟩
  refine headE_free rfl (fun _ => rfl) 28 rfl (by simp [Act.put]) ?_ ?_
  · intro d r0 K hd w5 hB1 hK
    refine wp_buildOne I _ rfl rfl ?_
    exact hK _ _ hB1.lay
  refine headE_nil (fun _ r0 w5 d hall hB1 => ?_)
  obtain ⟨g, e1, hg, hgI⟩ := hB1.x (hall 2 (by decide))
  show wpList _ _ _ _ (Act.put (fillE _ _ [] _) (some 28) (r0 2)) _
  rw [e1]
  simp only [fillE]
  have HB := Lib.hid (And.intro hB1.s hgI)
  have hi3 := hB1.i
  clear hB1 hgI
  have hne : w1.heap.size ≠ w3.heap.size := by
    obtain ⟨C, hq, _⟩ := HB.out.1.r
    intro e
    rw [← e, hi3] at hq
    injection hq with hq
    injection hq with _ hq _
    exact absurd hq (by decide)
  refine wpList_copy_ins rfl _ _ rfl w3.heap.size 0 8 8 ⟨g, 0, none⟩ 1 1 I.cells.toList rfl rfl rfl (src_ins HB.out.2) (fun j hj => ((HB.out.1.cell (by decide) j hj).1)) (fun j hj => ((HB.out.1.cell (by decide) j hj).2)) (fun v hv => insRow_one (l := [I]) v (by simpa [insRow] using hv)) ?_
  intro w6 hw6
  have H6 := Lib.hid (HB.out.1.copy (by decide) hw6)
  have hi6 : w6.heap[w1.heap.size]? = some (.cells I.cells 38 (0, 0)) := by rw [← hw6, heap_setCells_other hne]; exact hi3
  have c6 : w6.cell? ⟨w1.heap.size, 15, none⟩ = some (.int .i64 I.len) := cells_of hi6 15
  clear HB hw6 hi3 hi6
  go_wp2_with fail
  go_loopw [11, 12] (fun n t wr => ∃ (row : List Ins) (x : Int), 1 ≤ row.length ∧ row.length ≤ 8 ∧ n = .int .i64 row.length ∧ t = .int .u32 x ∧ (0 ≤ x ∧ x < 4294967296) ∧ BlS w w1.heap.size w3.heap.size row wr ∧ findL M pc = findD M pc (9 - row.length) row x) (fun n _ _ => 8 - (intOf n).toNat)
  case atStart => exact ⟨[I], (pc + I.len) % 4294967296, by simp, by simp, rfl, by go_num, by omega, H6.out, by rw [findL, if_pos HR.out.2.2, HR.out.1]; rfl⟩
  case round =>
    obtain ⟨row, x, hr1, hr8, rfl, rfl, hx, hS, hfin⟩ := hrel
    have HS := Lib.hid (And.intro hS hx)
    clear hS hx H6 c6
    have HX := Lib.hid hfin
    clear hfin
    have tZ : True := trivial
    have hsl := fun w' => sl_hi w' w3.heap.size row.length hr8
    have KB := Lib.hid (show (0 + row.length) * B0 ≤ 140737488355328 by have := HI0.out.2.2.2.2; have : (0 + row.length) * B0 ≤ 8 * 1000 := Nat.mul_le_mul (by omega) this; omega)
    by_cases h8 : row.length < 8
    · have d8 : decide ((row.length : Int) < 8) = true := by simp; omega
      have hso := fun w' => sl_lo w' w3.heap.size row.length (by omega)
      obtain ⟨last, hlast⟩ : ∃ last, row[row.length - 1]? = some last := ⟨row[row.length - 1]'(by omega), List.getElem?_eq_getElem (by omega)⟩
      have hgd : row.getD (row.length - 1) Ins.zero = last := by rw [List.getD_eq_getElem?_getD, hlast]; rfl
      have h9 : 9 - row.length = (8 - row.length) + 1 := by omega
      rw [h9] at HX
      have HL := Lib.hid hlast
      clear hlast
      cases he : endsI last
      · by_cases hp : (x - 1) % 4294967296 / 256 = pc / 256
        · have dp : decide ((x - 1) % 4294967296 / 256 = pc / 256) = true := by simp [hp]
          have hgo : goesOn pc x row = true := by simp only [goesOn, hgd, he]; simp [h8, hp]
          obtain ⟨J, hJ⟩ : ∃ J, (fetchM M x).i = J := ⟨_, rfl⟩
          obtain ⟨jk, jp, ja, jw, hJF⟩ := fetchM_flt M x
          have tB : True := trivial
          cases hk2 : (fetchM M x).k
          · have HRow := Lib.hid (show findL M pc = row by rw [HX.out]; simp [findD, belongs, hk2])
            have HJ := Lib.hid (And.intro hJ (And.intro hJF hk2))
            clear hJ hJF hk2 HX hgo hgd
            go_wp2_with (first | (have _t := HL; clear _t; refine wpList_load_insAt last w3.heap.size ((row.length - 1) * 16) rfl _ rfl rfl (HS.out.1.at HL.out) ?_; clear HL; have tA : True := trivial) | (have _t := tA; clear _t; go_at_call 17; refine (Ends_any last _).mono ?_; rintro e wA ⟨rfl, hu⟩; rw [he]; have HS2 := Lib.hid (And.intro (HS.out.1.step hu) HS.out.2); clear hu tA HS; have HS := HS2; clear HS2) | (go_at_call 18; refine (pageOf_any _ _ (by first | exact HM.out.2 | omega)).mono ?_; rintro e wB ⟨rfl, rfl⟩) | (have _t := tB; clear _t; go_at_call 16; refine (Fetch_any M a pb x _ (HM.out.1.keep HS.out.1.u (by simp) (by simp)) HS.out.2).mono ?_; rintro e wF ⟨rfl, hu⟩; rw [HJ.out.1, HJ.out.2.1, HJ.out.2.2]; unfold Flt.val; have HS2 := Lib.hid (And.intro (HS.out.1.step hu) HS.out.2); clear hu tB HS; have HS := HS2; clear HS2; have tC : True := trivial) | (have _t := tC; clear _t; refine at_store 38 rfl ?_; refine wpList_store_ins J wF.heap.size rfl _ _ rfl rfl rfl (heap_alloc2_old wF (.cells Ins.zero.cells 38) fltZ) rfl ?_; intro wG hw; have h2 := two_new hw; have c2 := cells_of h2.2.1; have f2 := free_of h2.2.1; have HS2 := Lib.hid (And.intro (HS.out.1.step (Upd_store4 (S := []) (b := wF.heap.size + 1) h2.2.2 (.inr (by simp)) (.int .i64 jk) (.int .u32 jp) (.int .u32 ja) (.int .i64 jw))) HS.out.2); have HG := Lib.hid ((Upd_store4 (S := [wF.heap.size + 1]) (b := wF.heap.size + 1) (Upd.refl _ wG) (.inl (by simp)) (.int .i64 jk) (.int .u32 jp) (.int .u32 ja) (.int .i64 jw)).get h2.1 (by simp)); have c15 := cells_of HG.out 15; rw [show (J.cells)[15]? = some (.int .i64 J.len) from rfl] at c15; clear h2 hw HS tC; have HS := HS2; clear HS2) | (have _t := tZ; clear _t; at_builtin; refine wpList_append_own _ rfl _ _ 30 rfl (w.heap.size + 1) 38 i0 (.agg Ins.zero.cells) 16 B0 Try.underlying30 HI0.out.1 HI0.out.2.1 HI0.out.2.2.1 HI0.out.2.2.2.1 rfl (by decide) _ _ _ rfl (World.ownsRow_nil _ _ _ _) ⟨w3.heap.size, 0, none⟩ row.length 8 (insRow row) (by first | rfl | (rw [hr8']; rfl)) (insRow_len row) HS.out.1.src insRow_one (by unfold maxLen; omega) KB.out HS.out.1.base ?_; intro v' w9 hv hg _; have hE := BlE.of HS.out.1 (Nat.zero_add _) hr1 (List.nil_append _) hv hg; have c9 := cells_of hE.z; have f9 := free_of hE.z; have HE := Lib.hid hE; clear hv hg hE HS tZ))
            exact bodyPost_ret (results_three' rfl (res_tmp 4 rfl) (res_flt 5 w.heap.size Flt.zero rfl (store4 HE.out.z _ _ _ _)) (res_tmp 6 rfl)) rfl (by obtain ⟨v, g, rfl, hh⟩ := blE_end (a := .int .i64 0) (b := .int .u32 0) (c := .int .u32 0) (d := .int .i64 0) HE.out HRow.out; exact ⟨_, g, rfl, hh⟩)
          · have hjl := fetch_len hk2
            rw [hJ] at hjl
            by_cases hq : (x + J.len - 1) % 4294967296 / 256 = pc / 256
            · have dq : decide ((x + J.len - 1) % 4294967296 / 256 = pc / 256) = true := by simp [hq]
              have HRow := Lib.hid (show findL M pc = findD M pc (8 - row.length) (row ++ [J]) ((x + J.len) % 4294967296) by rw [HX.out, findD, if_pos ⟨hgo, by simp [belongs, hk2, hJ, hq]⟩, hJ])
              have HJ := Lib.hid (And.intro hJ (And.intro hJF hk2))
              clear hJ hJF hk2 HX hgo hgd
              go_wp2_with (first | (have _t := HL; clear _t; refine wpList_load_insAt last w3.heap.size ((row.length - 1) * 16) rfl _ rfl rfl (HS.out.1.at HL.out) ?_; clear HL; have tA : True := trivial) | (have _t := tA; clear _t; go_at_call 17; refine (Ends_any last _).mono ?_; rintro e wA ⟨rfl, hu⟩; rw [he]; have HS2 := Lib.hid (And.intro (HS.out.1.step hu) HS.out.2); clear hu tA HS; have HS := HS2; clear HS2) | (go_at_call 18; refine (pageOf_any _ _ (by first | exact HM.out.2 | omega)).mono ?_; rintro e wB ⟨rfl, rfl⟩) | (have _t := tB; clear _t; go_at_call 16; refine (Fetch_any M a pb x _ (HM.out.1.keep HS.out.1.u (by simp) (by simp)) HS.out.2).mono ?_; rintro e wF ⟨rfl, hu⟩; rw [HJ.out.1, HJ.out.2.1, HJ.out.2.2]; unfold Flt.val; have HS2 := Lib.hid (And.intro (HS.out.1.step hu) HS.out.2); clear hu tB HS; have HS := HS2; clear HS2; have tC : True := trivial) | (have _t := tC; clear _t; refine at_store 38 rfl ?_; refine wpList_store_ins J wF.heap.size rfl _ _ rfl rfl rfl (heap_alloc2_old wF (.cells Ins.zero.cells 38) fltZ) rfl ?_; intro wG hw; have h2 := two_new hw; have c2 := cells_of h2.2.1; have f2 := free_of h2.2.1; have HS2 := Lib.hid (And.intro (HS.out.1.step (Upd_store4 (S := []) (b := wF.heap.size + 1) h2.2.2 (.inr (by simp)) (.int .i64 jk) (.int .u32 jp) (.int .u32 ja) (.int .i64 jw))) HS.out.2); have HG := Lib.hid ((Upd_store4 (S := [wF.heap.size + 1]) (b := wF.heap.size + 1) (Upd.refl _ wG) (.inl (by simp)) (.int .i64 jk) (.int .u32 jp) (.int .u32 ja) (.int .i64 jw)).get h2.1 (by simp)); have c15 := cells_of HG.out 15; rw [show (J.cells)[15]? = some (.int .i64 J.len) from rfl] at c15; clear h2 hw HS tC; have HS := HS2; clear HS2))
              have h4 := HS.out
              have g4 := HG.out
              clear HS HG c2 f2 c15
              generalize ((((wG.setCell ⟨wF.heap.size + 1, 0, none⟩ (.int .i64 jk)).setCell ⟨wF.heap.size + 1, 1, none⟩ (.int .u32 jp)).setCell ⟨wF.heap.size + 1, 2, none⟩ (.int .u32 ja)).setCell ⟨wF.heap.size + 1, 3, none⟩ (.int .i64 jw)) = w4 at h4 g4 ⊢
              have H4 := Lib.hid (And.intro h4.1 g4)
              have hx4 := h4.2
              clear h4 g4
              refine wp_drawE 6 (BlX w w3.heap.size row J wF.heap.size) (fun _ _ => False) (by kernel_rfl) (by kernel_rfl) (fun r0 => BlX.start H4.out.1 H4.out.2 r0) (fun _ _ _ h => h.elim) ?_
              simp only [List.take_succ_cons, List.take_zero, List.drop_succ_cons, List.drop_zero]
              iterate 3
                apply headE_val0 rfl rfl
                · intro d r0 K hd hdep hK w5 hB1
                  have HB := Lib.hid hB1
                  clear hB1 hdep
                  go_wp2_with fail
                  first
                  | exact hK _ (HB.out.same _ (by decide) (by decide))
                  | exact HB.out.same _ (by decide) (by decide)
                · exact ⟨_, rfl⟩
              apply headE_val0 rfl rfl
              · intro d r0 K hd hdep hK w5 hB1
                refine wp_load_ins J wF.heap.size _ rfl rfl hB1.i ?_
                exact hK _ (hB1.same _ (by decide) (by decide))
              · exact ⟨_, rfl⟩
              refine headE_free rfl (fun _ => rfl) 78 rfl (by simp [Act.put]) ?_ ?_
              · intro d r0 K hd w5 hB1 hK
                refine wp_buildOne J _ rfl rfl ?_
                exact hK _ _ hB1.lay
              have hmin : Nat.min 1 (8 - row.length) = 1 := Nat.min_eq_left (by omega)
              refine headE_val (a2 := fun r => (fillE _ r [4] _).put (some 79) (.int .i64 1)) rfl (fun _ => rfl) ?_ ⟨.int .i64 1, fun _ => rfl, rfl⟩ ?_
              · intro d r0 K hd hdep hK w5 hB1
                have d4 : d 4 = true := hdep ⟨4, .data⟩ (by simp) rfl
                obtain ⟨g2, e2, hgI⟩ := hB1.x d4
                refine wp_copy_ins _ _ rfl w3.heap.size (row.length * 16) (8 - row.length) (8 - row.length) ⟨g2, 0, none⟩ 1 1 J.cells.toList rfl e2 (by rw [hmin]; rfl) (src_ins hgI) (fun j hj => (((hB1.was hd).cell h8 j hj).1)) (fun j hj => (((hB1.was hd).cell h8 j hj).2)) (fun v hv => insRow_one (l := [J]) v (by simpa [insRow] using hv)) ?_
                intro w7 hw7
                rw [hmin]
                exact hK _ (hB1.copy hd h8 hw7)
              refine headE_nil (fun _ r0 w5 d hall hB1 => ?_)
              have H7 := Lib.hid (hB1.done (hall 5 (by decide)))
              have c7 : w5.cell? ⟨wF.heap.size, 15, none⟩ = some (.int .i64 J.len) := cells_of hB1.i 15
              clear hB1
              show wpList _ _ _ _ (Act.put (fillE _ _ [] _) (some 78) (r0 4)) _
              generalize r0 4 = v4
              simp only [fillE]
              go_wp2_with fail
              go_roundw
              case rel => exact ⟨row ++ [J], (x + J.len) % 4294967296, by simp, by simp <;> omega, by first | rfl | simp, by first | rfl | go_num, by omega, ⟨H7.out.r, H7.out.z, H7.out.u, H7.out.l, H7.out.n⟩, by rw [HRow.out, show 9 - (row ++ [J]).length = 8 - row.length from by simp <;> omega]⟩
              case measure => simp [intOf]; omega
            · have dq : decide ((x + J.len - 1) % 4294967296 / 256 = pc / 256) = false := by simp [hq]
              have HRow := Lib.hid (show findL M pc = row by rw [HX.out]; simp [findD, belongs, hJ, hq])
              have HJ := Lib.hid (And.intro hJ (And.intro hJF hk2))
              clear hJ hJF hk2 HX hgo hgd
              go_wp2_with (first | (have _t := HL; clear _t; refine wpList_load_insAt last w3.heap.size ((row.length - 1) * 16) rfl _ rfl rfl (HS.out.1.at HL.out) ?_; clear HL; have tA : True := trivial) | (have _t := tA; clear _t; go_at_call 17; refine (Ends_any last _).mono ?_; rintro e wA ⟨rfl, hu⟩; rw [he]; have HS2 := Lib.hid (And.intro (HS.out.1.step hu) HS.out.2); clear hu tA HS; have HS := HS2; clear HS2) | (go_at_call 18; refine (pageOf_any _ _ (by first | exact HM.out.2 | omega)).mono ?_; rintro e wB ⟨rfl, rfl⟩) | (have _t := tB; clear _t; go_at_call 16; refine (Fetch_any M a pb x _ (HM.out.1.keep HS.out.1.u (by simp) (by simp)) HS.out.2).mono ?_; rintro e wF ⟨rfl, hu⟩; rw [HJ.out.1, HJ.out.2.1, HJ.out.2.2]; unfold Flt.val; have HS2 := Lib.hid (And.intro (HS.out.1.step hu) HS.out.2); clear hu tB HS; have HS := HS2; clear HS2; have tC : True := trivial) | (have _t := tC; clear _t; refine at_store 38 rfl ?_; refine wpList_store_ins J wF.heap.size rfl _ _ rfl rfl rfl (heap_alloc2_old wF (.cells Ins.zero.cells 38) fltZ) rfl ?_; intro wG hw; have h2 := two_new hw; have c2 := cells_of h2.2.1; have f2 := free_of h2.2.1; have HS2 := Lib.hid (And.intro (HS.out.1.step (Upd_store4 (S := []) (b := wF.heap.size + 1) h2.2.2 (.inr (by simp)) (.int .i64 jk) (.int .u32 jp) (.int .u32 ja) (.int .i64 jw))) HS.out.2); have HG := Lib.hid ((Upd_store4 (S := [wF.heap.size + 1]) (b := wF.heap.size + 1) (Upd.refl _ wG) (.inl (by simp)) (.int .i64 jk) (.int .u32 jp) (.int .u32 ja) (.int .i64 jw)).get h2.1 (by simp)); have c15 := cells_of HG.out 15; rw [show (J.cells)[15]? = some (.int .i64 J.len) from rfl] at c15; clear h2 hw HS tC; have HS := HS2; clear HS2) | (have _t := tZ; clear _t; at_builtin; refine wpList_append_own _ rfl _ _ 30 rfl (w.heap.size + 1) 38 i0 (.agg Ins.zero.cells) 16 B0 Try.underlying30 HI0.out.1 HI0.out.2.1 HI0.out.2.2.1 HI0.out.2.2.2.1 rfl (by decide) _ _ _ rfl (World.ownsRow_nil _ _ _ _) ⟨w3.heap.size, 0, none⟩ row.length 8 (insRow row) (by first | rfl | (rw [hr8']; rfl)) (insRow_len row) HS.out.1.src insRow_one (by unfold maxLen; omega) KB.out HS.out.1.base ?_; intro v' w9 hv hg _; have hE := BlE.of HS.out.1 (Nat.zero_add _) hr1 (List.nil_append _) hv hg; have c9 := cells_of hE.z; have f9 := free_of hE.z; have HE := Lib.hid hE; clear hv hg hE HS tZ))
              exact bodyPost_ret (results_three' rfl (res_tmp 4 rfl) (res_flt 5 w.heap.size Flt.zero rfl (store4 HE.out.z _ _ _ _)) (res_tmp 6 rfl)) rfl (by obtain ⟨v, g, rfl, hh⟩ := blE_end (a := .int .i64 0) (b := .int .u32 0) (c := .int .u32 0) (d := .int .i64 0) HE.out HRow.out; exact ⟨_, g, rfl, hh⟩)
        · have dp : decide ((x - 1) % 4294967296 / 256 = pc / 256) = false := by simp [hp]
          have HRow := Lib.hid (show findL M pc = row by rw [HX.out]; simp [findD, goesOn, hp])
          clear hgd HX
          go_wp2_with (first | (have _t := HL; clear _t; refine wpList_load_insAt last w3.heap.size ((row.length - 1) * 16) rfl _ rfl rfl (HS.out.1.at HL.out) ?_; clear HL; have tA : True := trivial) | (have _t := tA; clear _t; go_at_call 17; refine (Ends_any last _).mono ?_; rintro e wA ⟨rfl, hu⟩; rw [he]; have HS2 := Lib.hid (And.intro (HS.out.1.step hu) HS.out.2); clear hu tA HS; have HS := HS2; clear HS2) | (go_at_call 18; refine (pageOf_any _ _ (by first | exact HM.out.2 | omega)).mono ?_; rintro e wB ⟨rfl, rfl⟩) | (have _t := tZ; clear _t; at_builtin; refine wpList_append_own _ rfl _ _ 30 rfl (w.heap.size + 1) 38 i0 (.agg Ins.zero.cells) 16 B0 Try.underlying30 HI0.out.1 HI0.out.2.1 HI0.out.2.2.1 HI0.out.2.2.2.1 rfl (by decide) _ _ _ rfl (World.ownsRow_nil _ _ _ _) ⟨w3.heap.size, 0, none⟩ row.length 8 (insRow row) (by first | rfl | (rw [hr8']; rfl)) (insRow_len row) HS.out.1.src insRow_one (by unfold maxLen; omega) KB.out HS.out.1.base ?_; intro v' w9 hv hg _; have hE := BlE.of HS.out.1 (Nat.zero_add _) hr1 (List.nil_append _) hv hg; have c9 := cells_of hE.z; have f9 := free_of hE.z; have HE := Lib.hid hE; clear hv hg hE HS tZ))
          exact bodyPost_ret (results_three' rfl (res_tmp 4 rfl) (res_flt 5 w.heap.size Flt.zero rfl (store4 HE.out.z _ _ _ _)) (res_tmp 6 rfl)) rfl (by obtain ⟨v, g, rfl, hh⟩ := blE_end (a := .int .i64 0) (b := .int .u32 0) (c := .int .u32 0) (d := .int .i64 0) HE.out HRow.out; exact ⟨_, g, rfl, hh⟩)
      · have HRow := Lib.hid (show findL M pc = row by rw [HX.out]; simp only [findD, goesOn, hgd, he]; simp)
        clear hgd HX
        go_wp2_with (first | (have _t := HL; clear _t; refine wpList_load_insAt last w3.heap.size ((row.length - 1) * 16) rfl _ rfl rfl (HS.out.1.at HL.out) ?_; clear HL; have tA : True := trivial) | (have _t := tA; clear _t; go_at_call 17; refine (Ends_any last _).mono ?_; rintro e wA ⟨rfl, hu⟩; rw [he]; have HS2 := Lib.hid (And.intro (HS.out.1.step hu) HS.out.2); clear hu tA HS; have HS := HS2; clear HS2) | (have _t := tZ; clear _t; at_builtin; refine wpList_append_own _ rfl _ _ 30 rfl (w.heap.size + 1) 38 i0 (.agg Ins.zero.cells) 16 B0 Try.underlying30 HI0.out.1 HI0.out.2.1 HI0.out.2.2.1 HI0.out.2.2.2.1 rfl (by decide) _ _ _ rfl (World.ownsRow_nil _ _ _ _) ⟨w3.heap.size, 0, none⟩ row.length 8 (insRow row) (by first | rfl | (rw [hr8']; rfl)) (insRow_len row) HS.out.1.src insRow_one (by unfold maxLen; omega) KB.out HS.out.1.base ?_; intro v' w9 hv hg _; have hE := BlE.of HS.out.1 (Nat.zero_add _) hr1 (List.nil_append _) hv hg; have c9 := cells_of hE.z; have f9 := free_of hE.z; have HE := Lib.hid hE; clear hv hg hE HS tZ))
        exact bodyPost_ret (results_three' rfl (res_tmp 4 rfl) (res_flt 5 w.heap.size Flt.zero rfl (store4 HE.out.z _ _ _ _)) (res_tmp 6 rfl)) rfl (by obtain ⟨v, g, rfl, hh⟩ := blE_end (a := .int .i64 0) (b := .int .u32 0) (c := .int .u32 0) (d := .int .i64 0) HE.out HRow.out; exact ⟨_, g, rfl, hh⟩)
    · have hr8' : row.length = 8 := by omega
      have HRow := Lib.hid (show findL M pc = row by rw [HX.out, hr8']; simp [findD, goesOn, hr8'])
      have d8 : decide ((row.length : Int) < 8) = false := by simp; omega
      go_wp2_with (first | (have _t := tZ; clear _t; at_builtin; refine wpList_append_own _ rfl _ _ 30 rfl (w.heap.size + 1) 38 i0 (.agg Ins.zero.cells) 16 B0 Try.underlying30 HI0.out.1 HI0.out.2.1 HI0.out.2.2.1 HI0.out.2.2.2.1 rfl (by decide) _ _ _ rfl (World.ownsRow_nil _ _ _ _) ⟨w3.heap.size, 0, none⟩ row.length 8 (insRow row) (by first | rfl | (rw [hr8']; rfl)) (insRow_len row) HS.out.1.src insRow_one (by unfold maxLen; omega) KB.out HS.out.1.base ?_; intro v' w9 hv hg _; have hE := BlE.of HS.out.1 (Nat.zero_add _) hr1 (List.nil_append _) hv hg; have c9 := cells_of hE.z; have f9 := free_of hE.z; have HE := Lib.hid hE; clear hv hg hE HS tZ))
      exact bodyPost_ret (results_three' rfl (res_tmp 4 rfl) (res_flt 5 w.heap.size Flt.zero rfl (store4 HE.out.z _ _ _ _)) (res_tmp 6 rfl)) rfl (by obtain ⟨v, g, rfl, hh⟩ := blE_end (a := .int .i64 0) (b := .int .u32 0) (c := .int .u32 0) (d := .int .i64 0) HE.out HRow.out; exact ⟨_, g, rfl, hh⟩)
end Go.Proofs.Yteiplidhkelkbaa

/-
  Package block: block.Find by its contract. No condition.
-/
namespace Go.Proofs.Yteiplidhkelkbaa
open Go Go.RowKit
set_option linter.unusedVariables false
set_option linter.unusedSimpArgs false

/-- block.Find: the row, the fault, the answer; the row's cells lie in new memory. -/
theorem Find_any (M : Mem) (a pb : Nat) (pc : Int) (w : World) (hM : IsMem w a pb M) (h0 : 0 ≤ pc ∧ pc < 4294967296) :
    Calls Try.prog 8 #[.pointer (some ⟨a, 0, none⟩), .int .u32 pc] w fun e w' => ∃ v g, e = .returned (.tuple #[v, (findF M pc).val, .bool (findK M pc)]) ∧ ISl w' v (findL M pc) g ∧ w.heap.size ≤ g ∧ Upd [] w w' := by
  cases hk : (fetchM M pc).k
  · refine (Find_no M a pb pc w hM h0 hk).mono ?_
    rintro e w' ⟨rfl, hu⟩
    exact ⟨_, w.heap.size, by rw [findF, findK, hk]; rfl, .inl ⟨rfl, by rw [findL, hk]; rfl⟩, Nat.le_refl _, hu⟩
  · refine (Find_yes M a pb pc w hM h0 hk).mono ?_
    rintro e w' ⟨v, g, rfl, h⟩
    exact ⟨v, g, by rw [findF, findK, hk]; rfl, h⟩
end Go.Proofs.Yteiplidhkelkbaa

/-
  Package page: Copy (slices.Clone), Same (slices.Equal): each by its contract.
-/
namespace Go.Proofs.Yteiplidhkelkbaa
open Go Go.RowKit
set_option linter.unusedVariables false
set_option linter.unusedSimpArgs false

/-! ### Two pages held against one another -/
/-- Are the pages p of two memories alike? -/
def Mem.samePage (M N : Mem) (p : Nat) : Bool := (M.R p == N.R p) && (List.range 256).all fun j => M.B (p * 256 + j) == N.B (p * 256 + j)

def Mem.same (M N : Mem) : Bool := (List.range 64).all fun p => M.samePage N p

end Go.Proofs.Yteiplidhkelkbaa
