/-
  Package page: Copy (slices.Clone), Same (slices.Equal): each by its contract.
-/
import Derived.Test.YtncafchgdgmeaaaPgG
import Derived.Test.YtncafchgdgmeaaaEqG
import Derived.ChangeKeysEq
import Derived.Lib.SliceRun
namespace Go.Proofs.Ytncafchgdgmeaaa
open Go Go.RowKit
set_option linter.unusedVariables false
set_option linter.unusedSimpArgs false

/-! ### Two pages held against one another -/
theorem eqItems_u8 {P : Program} (w : World) (d : Nat) {e : TypeId} (he : P.underlying e = some (.int .u8)) (xs ys : Array Value) (f g : Nat → Int) :
    ∀ is : List Nat, (∀ i, i ∈ is → xs[i]? = some (.int .u8 (f i)) ∧ ys[i]? = some (.int .u8 (g i))) → (Op.eqItems (d + 1) e 1 xs ys is).run P w = .ok (is.all fun i => f i == g i) w
  | [], _ => by simp [Op.eqItems]
  | i :: is, h => by
    have h1 := h i (by simp)
    have ih := eqItems_u8 w d he xs ys f g is (fun j hj => h j (by simp [hj]))
    have hp : P.plainKey e = true := by simp [Program.plainKey, he]
    simp only [Op.eqItems, Nat.mul_one, Sem.run_bind, run_part_plain w hp h1.1, run_part_plain w hp h1.2, Result.andThen_ok, run_equalIn_int w d e .u8 .u8 _ _ he, List.all_cons]
    cases hb : f i == g i
    · simp
    · simpa using ih

/-- Are the pages p of two memories alike? -/
def Mem.samePage (M N : Mem) (p : Nat) : Bool := (M.R p == N.R p) && (List.range 256).all fun j => M.B (p * 256 + j) == N.B (p * 256 + j)

theorem page_byte (M : Mem) (p j : Nat) (hj : j < 256) : (M.page p)[1 + j]? = some (.int .u8 (M.B (p * 256 + j))) := by
  have h : ¬ (p * 257 + (1 + j)) % 257 = 0 := by rw [Nat.mul_comm, Nat.mul_add_mod]; omega
  have h2 : (p * 257 + (1 + j)) / 257 = p := by omega
  have h3 : (p * 257 + (1 + j)) % 257 = 1 + j := by rw [Nat.mul_comm, Nat.mul_add_mod]; omega
  rw [Mem.page, Array.getElem?_map, Array.getElem?_range, if_pos (by omega)]
  have h4 : ¬ 1 + j = 0 := by omega
  have h5 : 1 + j - 1 = j := by omega
  simp only [Option.map_some, Mem.at_, h2, h3, h4, if_false, h5]

theorem run_equalIn_rows (X Y : Array Value) (r r' : Int) (f g : Nat → Int) (w : World) (d : Nat) (hX0 : X[0]? = some (.int .i64 r)) (hY0 : Y[0]? = some (.int .i64 r')) (hX : ∀ j, j < 256 → (X.extract 1 (1 + 256))[j]? = some (.int .u8 (f j))) (hY : ∀ j, j < 256 → (Y.extract 1 (1 + 256))[j]? = some (.int .u8 (g j))) :
    (Op.equalIn (d + 1 + 1 + 1) 113 (.agg X) (.agg Y)).run Try.prog w = .ok ((r == r') && (List.range 256).all fun j => f j == g j) w := by
  have hf : Try.prog.fieldsOf 113 = #[{ name := "rights", type := 3, offset := 0, embedded := false, tag := "", pkgPath := "ferryman/page", byteOffset := 0 }, { name := "b", type := 111, offset := 1, embedded := false, tag := "", pkgPath := "ferryman/page", byteOffset := 8 }] := by kernel_rfl
  have hu : Try.prog.underlying 113 = some (.struct (Try.prog.fieldsOf 113)) := by kernel_rfl
  have hp : Try.prog.plainKey 3 = true := by kernel_rfl
  have ha := fun xs : Array Value => part_range (P := Try.prog) (xs := xs) (t := 111) (i := Try.t111) (n := 256) (off := 1) w (Try.isAgg111 w) (by kernel_rfl) (by kernel_rfl)
  have hc : Try.prog.cellsOf 5 = 1 := by kernel_rfl
  have harr : (Op.equalIn (d + 1 + 1) 111 (.agg (X.extract 1 (1 + 256))) (.agg (Y.extract 1 (1 + 256)))).run Try.prog w = .ok ((List.range 256).all fun j => f j == g j) w := by
    rw [run_equalIn_array w (d + 1) (i := Try.t5) _ _ Try.underlying111 (by kernel_rfl), hc]
    exact eqItems_u8 w d Try.underlying5 _ _ f g _ (fun j hj => ⟨hX j (List.mem_range.1 hj), hY j (List.mem_range.1 hj)⟩)
  have hhead : (Op.equalIn (d + 1 + 1) 3 (.int .i64 r) (.int .i64 r')).run Try.prog w = .ok (r == r') w := run_equalIn_int w (d + 1) 3 .i64 .i64 _ _ Try.underlying3
  rw [run_equalIn_struct w _ 113 _ _ hu (Try.stoodInHeld113), hf]
  have hne1 : ("rights" ≠ "_") = True := by decide
  have hne2 : ("b" ≠ "_") = True := by decide
  simp only [Op.eqFields, hne1, hne2, if_true]
  generalize (List.range 256).all (fun j => f j == g j) = b at harr ⊢
  rw [Sem.run_bind, run_part_plain w hp hX0, Result.andThen_ok, Sem.run_bind, run_part_plain w hp hY0, Result.andThen_ok, Sem.run_bind, hhead, Result.andThen_ok]
  cases hb : r == r'
  · rfl
  · simp only [Bool.not_true, Bool.false_eq_true, if_false]
    rw [Sem.run_bind, ha, Result.andThen_ok, Sem.run_bind, ha, Result.andThen_ok, Sem.run_bind, harr, Result.andThen_ok]
    cases b <;> rfl

theorem page_bytes (K : Mem) (p j : Nat) (hj : j < 256) : ((K.page p).extract 1 (1 + 256))[j]? = some (.int .u8 (K.B (p * 256 + j))) := by
  rw [Array.getElem?_extract, if_pos (by rw [Mem.size_page]; omega), page_byte K p j hj]

theorem run_equalIn_page (M N : Mem) (p : Nat) (w : World) (d : Nat) : (Op.equalIn (d + 1 + 1 + 1) 113 (.agg (M.page p)) (.agg (N.page p))).run Try.prog w = .ok (M.samePage N p) w :=
  run_equalIn_rows _ _ _ _ (fun j => M.B (p * 256 + j)) (fun j => N.B (p * 256 + j)) w d (M.page0 p) (N.page0 p) (fun j hj => page_bytes M p j hj) (fun j hj => page_bytes N p j hj)

theorem run_neq_page (M N : Mem) (p : Nat) (w : World) : (binOp .neq 113 (.agg (M.page p)) (.agg (N.page p))).run Try.prog w = .ok (.bool (!M.samePage N p)) w := by
  have h := run_equalIn_page M N p w 9997
  rw [run_neq_struct]
  rw [show (10000 : Nat) = 9997 + 1 + 1 + 1 from rfl, h, Result.andThen_ok]

/-- An operation on two operands, by its run, where the guard says nothing. -/
theorem wp_binOp_run {P : Program} {op : Oper} {a : Act} {w : World} {K : Act → World → Prop} {Q : Exit → Act → World → Prop} (b : BinOp) (t t' : TypeId) (x y : Operand) (ho : op.op = .binOp b t x y t') (u v r : Value) (hx : a.eval x = u) (hy : a.eval y = v)
    (hg : (eqGuard b t x y u v).run P w = .ok () w) (hr : (binOp b t u v).run P w = .ok r w) (hK : K (a.put op.dst r) w) : op.wp P a w K Q := by
  unfold Oper.wp execOp
  simp only [ho, hx, hy, Sem.run_bind, hg, hr, Result.andThen_ok, Sem.run_pure]
  exact hK

def Mem.same (M N : Mem) : Bool := (List.range 64).all fun p => M.samePage N p

set_option maxRecDepth 100000 in
set_option maxHeartbeats 4000000 in
theorem Equal_any (M N : Mem) (a b pb qb c d : Nat) (w : World) (hM : IsMem w a pb M) (hN : IsMem w b qb N) :
    Calls Try.prog 61 #[.slice (some ⟨pb, 0, none⟩) 64 c, .slice (some ⟨qb, 0, none⟩) 64 d] w fun e w' => e = .returned (.bool (M.same N)) ∧ Upd [] w w' := by
  have hmo : Try.prog.follows .mixedOrders = true := by kernel_rfl
  have HM := Lib.hid hM
  have HN := Lib.hid hN
  clear hM hN
  go_enter Try.func61, Try.ntmps61
  go_wp2_with fail
  go_loopw [5, 13] (fun _ i wr => ∃ k : Nat, k ≤ 64 ∧ i = .int .i64 k ∧ (∀ j, j < k → M.samePage N j = true) ∧ Upd [] w wr) (fun _ i _ => 64 - (intOf i).toNat)
  case atStart => exact ⟨0, Nat.zero_le _, rfl, by simp, Upd.refl _ _⟩
  case round =>
    obtain ⟨k, hk, rfl, hno, hU⟩ := hrel
    have HS := Lib.hid hno
    have HU := Lib.hid hU
    clear hno hU
    by_cases hlt : k < 64
    · have hd : decide ((k : Int) < 64) = true := by simp; omega
      cases hsp : M.samePage N k
      · have HSP := Lib.hid hsp
        clear hsp
        go_wp2_with fail
        refine wp_draw 9 (fun w1 => Upd [] w w1) (fun _ _ => False) (by kernel_rfl) (by kernel_rfl) HU.out.drew (fun _ _ _ h => h.elim) ?_
        simp only [List.take_succ_cons, List.take_zero, List.drop_succ_cons, List.drop_zero]
        apply headW_val rfl rfl
        · intro K hK w1 hB1
          go_wp2_with fail
          exact hB1
        · exact ⟨_, rfl⟩
        apply headW_val rfl rfl
        · intro K hK w1 hB1
          go_wp2_with fail
          exact hB1
        · exact ⟨_, rfl⟩
        apply headW_val rfl rfl
        · intro K hK w1 hB1
          go_wp2_with fail
          exact hB1
        · exact ⟨_, rfl⟩
        apply headW_val rfl rfl
        · intro K hK w1 hB1
          refine wp_load_mid 113 _ rfl pb (k * 257) rfl (M.page k).toList _ (page_range (HM.out.keep hB1 (by simp) (by simp)) k hlt) Try.underlying113 rfl (by rw [Array.length_toList, M.size_page]; exact page_info) ?_
          simp only [Array.toArray_toList]
          go_simp
          exact hK _ hB1
        · exact ⟨_, rfl⟩
        apply headW_val rfl rfl
        · intro K hK w1 hB1
          go_wp2_with fail
          exact hB1
        · exact ⟨_, rfl⟩
        apply headW_val rfl rfl
        · intro K hK w1 hB1
          go_wp2_with fail
          exact hB1
        · exact ⟨_, rfl⟩
        apply headW_val rfl rfl
        · intro K hK w1 hB1
          go_wp2_with fail
          exact hB1
        · exact ⟨_, rfl⟩
        apply headW_val rfl rfl
        · intro K hK w1 hB1
          refine wp_load_mid 113 _ rfl qb (k * 257) rfl (N.page k).toList _ (page_range (HN.out.keep hB1 (by simp) (by simp)) k hlt) Try.underlying113 rfl (by rw [Array.length_toList, N.size_page]; exact page_info) ?_
          simp only [Array.toArray_toList]
          go_simp
          exact hK _ hB1
        · exact ⟨_, rfl⟩
        apply headW_val rfl rfl
        · intro K hK w1 hB1
          refine wp_binOp_run .neq 113 _ _ _ rfl _ _ (.bool true) rfl rfl (run_eqGuard_agg w1 _ _ _ _ _ _ (by kernel_rfl)) (by have := run_neq_page M N k w1; rw [HSP.out] at this; exact this) ?_
          exact hK _ hB1
        · exact ⟨_, rfl⟩
        refine headW_nil (fun _ w1 hB1 => ?_)
        go_wp2_with fail
        go_ret
        refine ⟨?_, hB1⟩
        have hf : M.same N = false := by
          rw [Mem.same, List.all_eq_false]
          exact ⟨k, List.mem_range.2 hlt, by rw [HSP.out]; simp⟩
        rw [hf]
        rfl
      · have HSP := Lib.hid hsp
        clear hsp
        go_wp2_with fail
        refine wp_draw 9 (fun w1 => Upd [] w w1) (fun _ _ => False) (by kernel_rfl) (by kernel_rfl) HU.out.drew (fun _ _ _ h => h.elim) ?_
        simp only [List.take_succ_cons, List.take_zero, List.drop_succ_cons, List.drop_zero]
        apply headW_val rfl rfl
        · intro K hK w1 hB1
          go_wp2_with fail
          exact hB1
        · exact ⟨_, rfl⟩
        apply headW_val rfl rfl
        · intro K hK w1 hB1
          go_wp2_with fail
          exact hB1
        · exact ⟨_, rfl⟩
        apply headW_val rfl rfl
        · intro K hK w1 hB1
          go_wp2_with fail
          exact hB1
        · exact ⟨_, rfl⟩
        apply headW_val rfl rfl
        · intro K hK w1 hB1
          refine wp_load_mid 113 _ rfl pb (k * 257) rfl (M.page k).toList _ (page_range (HM.out.keep hB1 (by simp) (by simp)) k hlt) Try.underlying113 rfl (by rw [Array.length_toList, M.size_page]; exact page_info) ?_
          simp only [Array.toArray_toList]
          go_simp
          exact hK _ hB1
        · exact ⟨_, rfl⟩
        apply headW_val rfl rfl
        · intro K hK w1 hB1
          go_wp2_with fail
          exact hB1
        · exact ⟨_, rfl⟩
        apply headW_val rfl rfl
        · intro K hK w1 hB1
          go_wp2_with fail
          exact hB1
        · exact ⟨_, rfl⟩
        apply headW_val rfl rfl
        · intro K hK w1 hB1
          go_wp2_with fail
          exact hB1
        · exact ⟨_, rfl⟩
        apply headW_val rfl rfl
        · intro K hK w1 hB1
          refine wp_load_mid 113 _ rfl qb (k * 257) rfl (N.page k).toList _ (page_range (HN.out.keep hB1 (by simp) (by simp)) k hlt) Try.underlying113 rfl (by rw [Array.length_toList, N.size_page]; exact page_info) ?_
          simp only [Array.toArray_toList]
          go_simp
          exact hK _ hB1
        · exact ⟨_, rfl⟩
        apply headW_val rfl rfl
        · intro K hK w1 hB1
          refine wp_binOp_run .neq 113 _ _ _ rfl _ _ (.bool false) rfl rfl (run_eqGuard_agg w1 _ _ _ _ _ _ (by kernel_rfl)) (by have := run_neq_page M N k w1; rw [HSP.out] at this; exact this) ?_
          exact hK _ hB1
        · exact ⟨_, rfl⟩
        refine headW_nil (fun _ w1 hB1 => ?_)
        go_wp2_with fail
        go_roundw
        case rel =>
          refine ⟨k + 1, by omega, by go_num, fun j hj => ?_, hB1⟩
          by_cases e : j = k
          · subst e; exact HSP.out
          · exact HS.out j (by omega)
        case measure => simp [intOf]; omega
    · have hd : decide ((k : Int) < 64) = false := by simp; omega
      go_wp2_with fail
      go_ret
      refine ⟨?_, HU.out⟩
      have hf : M.same N = true := by
        rw [Mem.same, List.all_eq_true]
        exact fun j hj => HS.out j (by have := List.mem_range.1 hj; omega)
      rw [hf]
      rfl

set_option maxRecDepth 100000 in
set_option maxHeartbeats 4000000 in
theorem Same_any (M N : Mem) (a b pb qb : Nat) (w : World) (hM : IsMem w a pb M) (hN : IsMem w b qb N) :
    Calls Try.prog 19 #[.pointer (some ⟨a, 0, none⟩), .pointer (some ⟨b, 0, none⟩)] w fun e w' => e = .returned (.bool (M.same N)) ∧ Upd [] w w' := by
  have hmo : Try.prog.follows .mixedOrders = true := by kernel_rfl
  have HM := Lib.hid hM
  have HN := Lib.hid hN
  clear hM hN
  go_enter Try.func19, Try.ntmps19
  go_wp2_with fail
  refine wp_draw 9 (fun w1 => Upd [] w w1) (fun _ _ => False) (by kernel_rfl) (by kernel_rfl) (Upd.refl [] w).drew (fun _ _ _ h => h.elim) ?_
  simp only [List.take_succ_cons, List.take_zero, List.drop_succ_cons, List.drop_zero]
  obtain ⟨c, hc, h1⟩ := HM.out.hd
  obtain ⟨d, hd, h2⟩ := HN.out.hd
  have H1 := Lib.hid h1
  have H2 := Lib.hid h2
  clear h1 h2
  repeat
    apply headW_val rfl rfl
    · intro K hK w1 hB1
      have ca : w1.cell? ⟨a, 0, none⟩ = some (.slice (some ⟨pb, 0, none⟩) 64 c) := by rw [cells_of (hB1.get H1.out (by simp))]; rfl
      have cb : w1.cell? ⟨b, 0, none⟩ = some (.slice (some ⟨qb, 0, none⟩) 64 d) := by rw [cells_of (hB1.get H2.out (by simp))]; rfl
      have HB := Lib.hid hB1
      clear hB1
      go_wp2_with (go_at_call 61; refine (Equal_any M N a b pb qb c d _ (HM.out.keep HB.out (by simp) (by simp)) (HN.out.keep HB.out (by simp) (by simp))).mono ?_; rintro e w2 ⟨rfl, hu⟩)
      first
      | exact HB.out
      | exact HB.out.also hu (by simp)
    · exact ⟨_, rfl⟩
  refine headW_nil (fun _ w1 hB1 => ?_)
  go_wp2_with fail
  go_ret
  exact ⟨rfl, hB1⟩

end Go.Proofs.Ytncafchgdgmeaaa
