/-
  Structs held against one another, field by field; the guest's states. No condition.
-/
import Derived.Test.YtncafchgdgmeaaaPgH
import Derived.Test.YtncafchgdgmeaaaStA
import Derived.Test.YtncafchgdgmeaaaEqG
namespace Go.Proofs.Ytncafchgdgmeaaa
open Go Go.RowKit
set_option linter.unusedVariables false
set_option linter.unusedSimpArgs false

def St.eqB (s t : St) : Bool := (((List.range 8).all fun i => s.R i == t.R i) && ((s.pc == t.pc) && ((((s.cf == t.cf) && ((s.pf == t.pf) && ((s.af == t.af) && ((s.zf == t.zf) && ((s.sf == t.sf) && ((s.of_ == t.of_) && true))))))) && ((s.df == t.df) && ((s.f == t.f) && true)))))

theorem St.eqB_self (s : St) : s.eqB s = true := by simp [St.eqB]

theorem St.eqB_iff (s t : St) : s.eqB t = true ↔ (∀ i, i < 8 → s.R i = t.R i) ∧ s.pc = t.pc ∧ s.cf = t.cf ∧ s.pf = t.pf ∧ s.af = t.af ∧ s.zf = t.zf ∧ s.sf = t.sf ∧ s.of_ = t.of_ ∧ s.df = t.df ∧ s.f = t.f := by
  simp only [St.eqB, Bool.and_eq_true, List.all_eq_true, List.mem_range, beq_iff_eq, and_true]
  constructor
  · rintro ⟨h1, h2, ⟨h3, h4, h5, h6, h7, h8⟩, h9, h10⟩; exact ⟨h1, h2, h3, h4, h5, h6, h7, h8, h9, h10⟩
  · rintro ⟨h1, h2, h3, h4, h5, h6, h7, h8, h9, h10⟩; exact ⟨h1, h2, ⟨h3, h4, h5, h6, h7, h8⟩, h9, h10⟩

def flagsOf (s : St) : Array Value := #[.bool s.cf, .bool s.pf, .bool s.af, .bool s.zf, .bool s.sf, .bool s.of_]

theorem run_equalIn_flags (s t : St) (w : World) (d : Nat) : (Op.equalIn (d + 1 + 1) 62 (.agg (flagsOf s)) (.agg (flagsOf t))).run Try.prog w = .ok ((s.cf == t.cf) && ((s.pf == t.pf) && ((s.af == t.af) && ((s.zf == t.zf) && ((s.sf == t.sf) && ((s.of_ == t.of_) && true)))))) w := by
  have hf : Try.prog.fieldsOf 62 = #[{ name := "CF", type := 4, offset := 0, embedded := false, tag := "", pkgPath := "", byteOffset := 0 }, { name := "PF", type := 4, offset := 1, embedded := false, tag := "", pkgPath := "", byteOffset := 1 },
    { name := "AF", type := 4, offset := 2, embedded := false, tag := "", pkgPath := "", byteOffset := 2 }, { name := "ZF", type := 4, offset := 3, embedded := false, tag := "", pkgPath := "", byteOffset := 3 },
    { name := "SF", type := 4, offset := 4, embedded := false, tag := "", pkgPath := "", byteOffset := 4 }, { name := "OF", type := 4, offset := 5, embedded := false, tag := "", pkgPath := "", byteOffset := 5 }] := by kernel_rfl
  have hu : Try.prog.underlying 62 = some (.struct (Try.prog.fieldsOf 62)) := by kernel_rfl
  have hp : Try.prog.plainKey 4 = true := by kernel_rfl
  have hb := fun (a b : Bool) => run_equalIn_bool (P := Try.prog) w d 4 a b Try.underlying4
  rw [run_equalIn_struct w _ 62 _ _ hu (Try.stoodInHeld62), hf]
  exact eqFields_cons (by decide) (run_part_plain w hp rfl) (run_part_plain w hp rfl) (hb _ _) (eqFields_cons (by decide) (run_part_plain w hp rfl) (run_part_plain w hp rfl) (hb _ _) (eqFields_cons (by decide) (run_part_plain w hp rfl) (run_part_plain w hp rfl) (hb _ _) (eqFields_cons (by decide) (run_part_plain w hp rfl) (run_part_plain w hp rfl) (hb _ _) (eqFields_cons (by decide) (run_part_plain w hp rfl) (run_part_plain w hp rfl) (hb _ _) (eqFields_cons (by decide) (run_part_plain w hp rfl) (run_part_plain w hp rfl) (hb _ _) eqFields_nil)))))

theorem run_equalIn_state (s t : St) (w : World) (d : Nat) : (Op.equalIn (d + 1 + 1 + 1) 65 (.agg s.cells) (.agg t.cells)).run Try.prog w = .ok (s.eqB t) w := by
  have hf : Try.prog.fieldsOf 65 = #[{ name := "R", type := 60, offset := 0, embedded := false, tag := "", pkgPath := "", byteOffset := 0 }, { name := "PC", type := 24, offset := 8, embedded := false, tag := "", pkgPath := "", byteOffset := 32 },
    { name := "Fl", type := 62, offset := 9, embedded := false, tag := "", pkgPath := "", byteOffset := 36 }, { name := "DF", type := 4, offset := 15, embedded := false, tag := "", pkgPath := "", byteOffset := 42 }, { name := "F", type := 63, offset := 16, embedded := false, tag := "", pkgPath := "", byteOffset := 48 }] := by kernel_rfl
  have hu : Try.prog.underlying 65 = some (.struct (Try.prog.fieldsOf 65)) := by kernel_rfl
  have hpB : Try.prog.plainKey 4 = true := by kernel_rfl
  have hp32 : Try.prog.plainKey 24 = true := by kernel_rfl
  have hp64 : Try.prog.plainKey 63 = true := by kernel_rfl
  have hc : Try.prog.cellsOf 24 = 1 := by kernel_rfl
  have hpR := fun xs : Array Value => part_range (P := Try.prog) (xs := xs) (t := 60) (i := Try.t60) (n := 8) (off := 0) w (Try.isAgg60 w) (by kernel_rfl) (by kernel_rfl)
  have hpF := fun xs : Array Value => part_range (P := Try.prog) (xs := xs) (t := 62) (i := Try.t62) (n := 6) (off := 9) w (Try.isAgg62 w) (by kernel_rfl) (by kernel_rfl)
  have eF : ∀ s : St, s.cells.extract 9 (9 + 6) = flagsOf s := fun s => by simp [St.cells, flagsOf]
  have hR : (Op.equalIn (d + 1 + 1) 60 (.agg (s.cells.extract 0 (0 + 8))) (.agg (t.cells.extract 0 (0 + 8)))).run Try.prog w = .ok ((List.range 8).all fun i => s.R i == t.R i) w := by
    rw [run_equalIn_array w (d + 1) (i := Try.t24) _ _ Try.underlying60 (by kernel_rfl), hc]
    have e : ∀ (s : St) i, i < 8 → (s.cells.extract 0 (0 + 8))[i]? = some (.int .u32 (s.R i)) := fun s i hi => by
      rw [Array.getElem?_extract, if_pos (by rw [St.size]; omega), Nat.zero_add, St.cR s i hi]
    exact eqItems_int w d Try.underlying24 _ _ _ _ _ (fun i hi => ⟨e s i (List.mem_range.1 hi), e t i (List.mem_range.1 hi)⟩)
  have hF := run_equalIn_flags s t w d
  rw [← eF s, ← eF t] at hF
  rw [run_equalIn_struct w _ 65 _ _ hu (Try.stoodInHeld65), hf]
  exact eqFields_cons (by decide) (hpR _) (hpR _) hR (eqFields_cons (by decide) (run_part_plain w hp32 rfl) (run_part_plain w hp32 rfl) (run_equalIn_int w _ 24 .u32 .u32 _ _ Try.underlying24)
    (eqFields_cons (by decide) (hpF _) (hpF _) hF (eqFields_cons (by decide) (run_part_plain w hpB rfl) (run_part_plain w hpB rfl) (run_equalIn_bool w _ 4 _ _ Try.underlying4)
    (eqFields_cons (by decide) (run_part_plain w hp64 rfl) (run_part_plain w hp64 rfl) (run_equalIn_int w _ 63 .u64 .u64 _ _ Try.underlying63) eqFields_nil))))

theorem run_eql_state (s t : St) (w : World) : (binOp .eql 65 (.agg s.cells) (.agg t.cells)).run Try.prog w = .ok (.bool (s.eqB t)) w := by
  have h := run_equalIn_state s t w 9997
  rw [run_eql_struct]
  rw [show (10000 : Nat) = 9997 + 1 + 1 + 1 from rfl, h, Result.andThen_ok]

end Go.Proofs.Ytncafchgdgmeaaa
