/-
  Package page: Write, by its contract.
-/
import Derived.Test.YtncafchgdgmeaaaPgD
import Derived.Test.YtncafchgdgmeaaaRow
namespace Go.Proofs.Ytncafchgdgmeaaa
open Go Go.RowKit
set_option linter.unusedVariables false
set_option linter.unusedSimpArgs false

/-- What holds of the world while Write asks for the bytes, and while it writes them. -/
structure WriteB (M : Mem) (a pb : Nat) (w : World) (w1 : World) : Prop where
  f : w1.heap[w.heap.size]? = some (.cells #[.int .i64 0, .int .u32 0, .int .u32 0, .int .i64 0] 32 (0, 0))
  k : w1.heap[w.heap.size + 1]? = some (.cells #[.bool false] 4 (0, 0))
  m : IsMem w1 a pb M
  u : Upd [pb] w w1
  al : a < w.heap.size
  pl : pb < w.heap.size

structure WriteC (M : Mem) (a pb : Nat) (w : World) (g : Nat) (cur : Array Value) (w1 : World) : Prop where
  f : w1.heap[w.heap.size]? = some (.cells #[.int .i64 0, .int .u32 0, .int .u32 0, .int .i64 0] 32 (0, 0))
  k : w1.heap[w.heap.size + 1]? = some (.cells #[.bool false] 4 (0, 0))
  m : IsMem w1 a pb M
  u : Upd [pb] w w1
  g : w1.heap[g]? = some (.cells cur 119 (0, 0))

theorem WriteC.store {M : Mem} {a pb : Nat} {w w1 : World} {g : Nat} {cur : Array Value} (h : WriteC M a pb w g cur w1) (ha : a < w.heap.size) (hp : pb < w.heap.size) (hg : w.heap.size ≤ g) {y : Int} (h0 : 0 ≤ y) (h1 : y < 16384) {b : Int} (hb0 : 0 ≤ b) (hb1 : b ≤ 255) :
    WriteC (M.setB y.toNat b) a pb w g cur (w1.setCell ⟨pb, cellOf y, none⟩ (.int .u8 b)) :=
  ⟨heap_set_keep _ (by simp <;> omega) h.f, heap_set_keep _ (by simp <;> omega) h.k, h.m.store h0 h1 hb0 hb1, h.u.setCell (by simp) _, heap_set_keep _ (by simp <;> omega) h.g⟩

/-- The bytes of a number laid from x on, j of them. -/
def Mem.putN (M : Mem) (x v : Int) : Nat → Mem
  | 0 => M
  | j + 1 => (M.putN x v j).setB (plus x j).toNat (v / 2 ^ (8 * j) % 256)

theorem Mem.putN_ok {M : Mem} (h : M.Ok) (x v : Int) : ∀ j, (M.putN x v j).Ok
  | 0 => h
  | j + 1 => Mem.setB_ok (Mem.putN_ok h x v j) _ (by omega) (by omega)

theorem Mem.putN_R (M : Mem) (x v : Int) : ∀ j, (M.putN x v j).R = M.R
  | 0 => rfl
  | j + 1 => Mem.putN_R M x v j

def ptrs (pb : Nat) (x : Int) (j : Nat) : List Value := (List.range j).map fun t => .pointer (some ⟨pb, cellOf (plus x t), none⟩)

theorem ptrs_succ (pb : Nat) (x : Int) (j : Nat) : ptrs pb x (j + 1) = ptrs pb x j ++ [.pointer (some ⟨pb, cellOf (plus x j), none⟩)] := by
  simp [ptrs, List.range_succ]

theorem ptrs_get (pb : Nat) (x : Int) (n j : Nat) (hj : j < n) : (ptrs pb x n)[j]? = some (.pointer (some ⟨pb, cellOf (plus x j), none⟩)) := by
  simp [ptrs, hj]

theorem info_pu8 : (Try.prog.info? 119).map (fun i => (i.zero, i.size, i.bytes)) = some (some (.pointer none), 1, 8) := by kernel_rfl

theorem write_results (tmps : Array Value) (fb kb : Nat) (y0 y1 y2 y3 : Int) (k : Bool) (w : World) (h8 : tmps.getD 8 undef = .pointer (some ⟨fb, 0, none⟩)) (h9 : tmps.getD 9 undef = .pointer (some ⟨kb, 0, none⟩))
    (hf : w.heap[fb]? = some (.cells #[.int .i64 y0, .int .u32 y1, .int .u32 y2, .int .i64 y3] 32 (0, 0))) (hk : w.heap[kb]? = some (.cells #[.bool k] 4 (0, 0))) :
    (results Try.f18 tmps).run Try.prog w = .ok (.tuple #[.agg #[.int .i64 y0, .int .u32 y1, .int .u32 y2, .int .i64 y3], .bool k]) w := by
  have cf : ∀ o, w.cell? ⟨fb, o, none⟩ = #[.int .i64 y0, .int .u32 y1, .int .u32 y2, .int .i64 y3][o]? := cells_of hf
  have ck : ∀ o, w.cell? ⟨kb, o, none⟩ = #[.bool k][o]? := cells_of hk
  rw [Array.getD_eq_getD_getElem?] at h8 h9
  simp [results, Try.results18, go_sem, h8, h9, cf, ck]

def writeDefers (w : World) : List Deferred :=
  [{ target := .fn (.func 58) #[], args := #[.pointer (some ⟨w.heap.size, 0, none⟩), .pointer (some ⟨w.heap.size + 1, 0, none⟩)] }]

theorem write_door_panic (M : Mem) (a pb : Nat) (w w1 : World) (y r : Int) (tmps : Array Value) (R : Ending → World → Prop) (h8 : tmps.getD 8 undef = .pointer (some ⟨w.heap.size, 0, none⟩)) (h9 : tmps.getD 9 undef = .pointer (some ⟨w.heap.size + 1, 0, none⟩)) (hB : WriteB M a pb w w1)
    (hR : ∀ w', Upd [pb] w w' → IsMem w' a pb M → R (.returned (.tuple #[pageFault y r, .bool false])) w') :
    Leaves Try.prog Try.f18 tmps R (writeDefers w) (.panicking [{ v := .iface 32 (pageFault y r), recovered := false }]) w1 := by
  have hal := hB.al
  have hpl := hB.pl
  refine leaves_cons (f := 58) (args := #[.pointer (some ⟨w.heap.size, 0, none⟩), .pointer (some ⟨w.heap.size + 1, 0, none⟩)]) (by simp) (by simp [go_sem]) ?_
  refine (caught_panicking _ _ _ _ _ _ _ _ _ _ _ [] w1 hB.f hB.k (by omega)).mono ?_
  rintro e u' w2 ⟨rfl, rfl, hf, hk, hU⟩
  simp only [settle, List.dropWhile_nil]
  exact ⟨_, write_results _ _ _ _ _ _ _ _ w2 h8 h9 hf hk, hR _ (hB.u.also hU (by simp <;> omega)) (hB.m.keep hU (by simp <;> omega) (by simp <;> omega))⟩

theorem write_door_ret (w w1 : World) (tmps : Array Value) (R : Ending → World → Prop) (h8 : tmps.getD 8 undef = .pointer (some ⟨w.heap.size, 0, none⟩)) (h9 : tmps.getD 9 undef = .pointer (some ⟨w.heap.size + 1, 0, none⟩))
    (hf : w1.heap[w.heap.size]? = some (.cells #[.int .i64 0, .int .u32 0, .int .u32 0, .int .i64 0] 32 (0, 0)))
    (hk : w1.heap[w.heap.size + 1]? = some (.cells #[.bool true] 4 (0, 0)))
    (hR : R (.returned (.tuple #[.agg #[.int .i64 0, .int .u32 0, .int .u32 0, .int .i64 0], .bool true])) w1) :
    Leaves Try.prog Try.f18 tmps R (writeDefers w) .returning w1 := by
  refine leaves_cons (f := 58) (args := #[.pointer (some ⟨w.heap.size, 0, none⟩), .pointer (some ⟨w.heap.size + 1, 0, none⟩)]) (by simp) (by simp [go_sem]) ?_
  refine (caught_idle _ _ w1).mono ?_
  rintro e u' w2 ⟨rfl, rfl, rfl⟩
  simp only [settle]
  exact ⟨_, write_results _ _ _ _ _ _ _ _ w1 h8 h9 hf hk, hR⟩

/-- What Write tells, and leaves. -/
def Mem.writeF (M : Mem) (x bytes : Int) : Value :=
  match M.bad x 2 (widthI bytes).toNat with | none => .agg #[.int .i64 0, .int .u32 0, .int .u32 0, .int .i64 0] | some i => pageFault (plus x i) 2
def Mem.writeK (M : Mem) (x bytes : Int) : Bool := (M.bad x 2 (widthI bytes).toNat).isNone
def Mem.writeM (M : Mem) (x bytes v : Int) : Mem :=
  match M.bad x 2 (widthI bytes).toNat with | none => M.putN x v (widthI bytes).toNat | some _ => M

theorem Mem.writeM_ok {M : Mem} (h : M.Ok) (x bytes v : Int) : (M.writeM x bytes v).Ok := by
  unfold Mem.writeM; split; exact Mem.putN_ok h _ _ _; exact h

set_option maxRecDepth 100000 in
set_option maxHeartbeats 4000000 in
theorem Write_any (M : Mem) (a pb : Nat) (x bytes v : Int) (w : World) (hM : IsMem w a pb M) (h0 : 0 ≤ x) (h1 : x < 4294967296) (hv0 : 0 ≤ v) (hv1 : v < 4294967296) :
    Calls Try.prog 18 #[.pointer (some ⟨a, 0, none⟩), .int .u32 x, .int .i64 bytes, .int .u32 v] w fun e w' =>
      e = .returned (.tuple #[M.writeF x bytes, .bool (M.writeK x bytes)]) ∧ IsMem w' a pb (M.writeM x bytes v) ∧ Upd [pb] w w' := by
  have hal := hM.al
  have hpl := hM.pl
  have hw3 := width_cases bytes
  obtain ⟨n, hn⟩ : ∃ n : Nat, widthI bytes = n := ⟨(widthI bytes).toNat, by omega⟩
  have HN := Lib.hid hn
  have hn4 : n ≤ 4 := by omega
  have hn0 : 0 < n := by omega
  clear hw3 hn
  obtain ⟨i0, hi, hz0, hz1, hz2⟩ := info_parts info_pu8
  have HI := Lib.hid (And.intro hi (And.intro hz0 (And.intro hz1 hz2)))
  clear hi hz0 hz1 hz2
  have hfinP : ∀ (j : Nat) (w' : World), j < n → (∀ t, t < j → M.can (plus x t) 2 = true) → M.can (plus x j) 2 = false → Upd [pb] w w' → IsMem w' a pb M →
      (fun e w' => e = Ending.returned (.tuple #[M.writeF x bytes, .bool (M.writeK x bytes)]) ∧ IsMem w' a pb (M.writeM x bytes v) ∧ Upd [pb] w w') (.returned (.tuple #[pageFault (plus x j) 2, .bool false])) w' := by
    intro j w' hj hc hb hU hm
    have hbad := bad_some M x 2 n j hj hc hb
    simp only [Mem.writeF, Mem.writeK, Mem.writeM, HN.out, Int.toNat_natCast, hbad]
    exact ⟨rfl, hm, hU⟩
  have HFP := Lib.hid hfinP
  clear hfinP
  have hfinK : ∀ (w' : World), (∀ t, t < n → M.can (plus x t) 2 = true) → Upd [pb] w w' → IsMem w' a pb (M.putN x v n) →
      (fun e w' => e = Ending.returned (.tuple #[M.writeF x bytes, .bool (M.writeK x bytes)]) ∧ IsMem w' a pb (M.writeM x bytes v) ∧ Upd [pb] w w') (.returned (.tuple #[.agg #[.int .i64 0, .int .u32 0, .int .u32 0, .int .i64 0], .bool true])) w' := by
    intro w' hc hU hm
    have hbad := bad_none M x 2 n hc
    simp only [Mem.writeF, Mem.writeK, Mem.writeM, HN.out, Int.toNat_natCast, hbad]
    exact ⟨rfl, hm, hU⟩
  have HFK := Lib.hid hfinK
  clear hfinK
  have hstart : WriteB M a pb w ((w.alloc (Obj.cells #[Value.int IntKind.i64 0, Value.int IntKind.u32 0, Value.int IntKind.u32 0, Value.int IntKind.i64 0] 32)).alloc (Obj.cells #[Value.bool false] 4)) := by
    refine ⟨heap_alloc2_old _ _ _, heap_alloc2_new _ _ _, ?_, ?_, hal, hpl⟩
    · exact hM.keep (S := []) (((Upd.refl _ _).alloc _).alloc _) (by simp) (by simp)
    · exact ((Upd.refl _ _).alloc _).alloc _
  have HS := Lib.hid hstart
  clear hstart hM
  go_enter_defers Try.func18, Try.ntmps18
  go_wp2_with (go_at_call 59; refine (width_any bytes _).mono ?_; rintro e w' ⟨rfl, rfl⟩; rw [HN.out])
  go_loopw [10, 11, 16] (fun s _ i wr => ∃ j : Nat, j ≤ n ∧ i = .int .i64 j ∧ (∀ t, t < j → M.can (plus x t) 2 = true) ∧ WriteB M a pb w wr ∧ wr.ownsRow (w.heap.size + 2) 119 1 s j (ptrs pb x j) ∧ w.heap.size + 2 ≤ wr.heap.size) (fun _ _ i _ => n - (intOf i).toNat)
  case atStart => exact ⟨0, Nat.zero_le _, rfl, by simp, HS.out, World.ownsRow_nil _ _ _ _, by simp⟩
  case round =>
    obtain ⟨j, hj, rfl, hcan, hB, hown, hsz⟩ := hrel
    have HC := Lib.hid hcan
    have HB := Lib.hid hB
    have HO := Lib.hid hown
    clear hcan hB hown
    by_cases hlt : j < n
    · cases hb : M.can (plus x j) 2
      · have HBad := Lib.hid hb
        clear hb
        go_wp2_with (go_at_call 60; refine (at_bad a pb (plus x j) _ _ M HB.out.m (plus_nn x j) HBad.out).mono ?_; rintro e w2 ⟨rfl, rfl⟩)
        exact write_door_panic M a pb w wr _ _ _ _ rfl rfl HB.out (fun w' hU hm => HFP.out j w' hlt HC.out HBad.out hU hm)
      · have HGood := Lib.hid hb
        clear hb
        go_wp2_with (first | (go_at_call 60; refine (at_ok a pb (plus x j) _ _ M HB.out.m (plus_nn x j) HGood.out).mono ?_; rintro e w2 ⟨rfl, rfl⟩) | (at_builtin; refine wpList_append_own _ rfl _ _ 118 rfl (w.heap.size + 2) 119 i0 (.pointer none) 1 8 Try.underlying118 HI.out.1 HI.out.2.1 HI.out.2.2.1 HI.out.2.2.2 rfl (by decide) _ _ _ rfl (HO.out.alloc _) ⟨wr.heap.size, 0, none⟩ 1 1 [.pointer (some ⟨pb, cellOf (plus x j), none⟩)] rfl rfl ?_ ?_ ?_ ?_ ?_ ?_))
        · intro t u hu
          rcases t with _ | t
          · simp only [List.getElem?_cons_zero, Option.some.injEq] at hu
            subst hu
            rw [Addr.add_mid, cells_of (heap_alloc_new _ _)]
            rfl
          · simp at hu
        · intro u hu
          simp only [List.mem_singleton] at hu
          subst hu; rfl
        · unfold maxLen; omega
        · omega
        · simp; omega
        · intro v' w1 hown' hgrow _
          have hU1 := Upd.of_grown hgrow
          have hB' : WriteB M a pb w w1 := by
            have hlt' := HO.out.lt
            have hU2 : Upd u10.ownBlock.toList wr w1 := ((Upd.refl [] wr).alloc _).trans hU1 (by simp) (fun z hz => .inl hz)
            have hne : ∀ z, z ∈ u10.ownBlock.toList → w.heap.size + 2 ≤ z := fun z hz => (hlt' z (by simpa using hz)).1
            have hal := HB.out.al
            have hpl := HB.out.pl
            exact ⟨hU2.get HB.out.f (fun h => by have := hne _ h; omega), hU2.get HB.out.k (fun h => by have := hne _ h; omega), HB.out.m.keep hU2 (fun h => by have := hne _ h; omega) (fun h => by have := hne _ h; omega), HB.out.u.also hU2 (fun z hz => .inr (by have := hne z hz; omega)), hal, hpl⟩
          have hsz' := hgrow.size
          have HB' := Lib.hid hB'
          have HO' := Lib.hid hown'
          have HS' := Lib.hid hsz'
          clear hB' hown' hgrow hU1 hsz'
          go_wp2_with fail
          go_roundw
          case rel => exact ⟨j + 1, by omega, by go_num, fun t ht => by
              by_cases e : t = j
              · subst e; exact HGood.out
              · exact HC.out t (by omega), HB'.out, by rw [ptrs_succ]; exact HO'.out, by have := HS'.out; simp at this; omega⟩
          case measure => simp [intOf]; omega
    · have e : j = n := by omega
      obtain ⟨hl, ⟨_, h⟩ | ⟨g, cap, cur, rfl, hg, hh, hc1, hc2, hc3, hc4⟩⟩ := HO.out
      · omega
      · subst e
        have hcell : ∀ t, t < j → cur[t]? = some (.pointer (some ⟨pb, cellOf (plus x t), none⟩)) := fun t ht => by
          have := ptrs_get pb x j t ht
          rw [← hc4, List.getElem?_take, if_pos (by omega), Array.getElem?_toList] at this
          exact this
        have HCell := Lib.hid hcell
        have hstart2 : WriteC (M.putN x v 0) a pb w g cur wr := ⟨HB.out.f, HB.out.k, HB.out.m, HB.out.u, hh⟩
        have HS2 := Lib.hid hstart2
        clear hh hcell hl hstart2 hc3 hc4 HO hsz
        go_wp2_with fail
        go_loopw [12, 13, 31] (fun _ _ i wr => ∃ t : Nat, t ≤ j ∧ i = .int .i64 t ∧ WriteC (M.putN x v t) a pb w g cur wr) (fun _ _ i _ => j - (intOf i).toNat)
        case atStart => exact ⟨0, Nat.zero_le _, rfl, HS2.out⟩
        case round =>
          obtain ⟨t, ht, rfl, hB2⟩ := hrel
          have HB2 := Lib.hid hB2
          clear hB2
          by_cases hlt2 : t < j
          · have cg : wr.cell? ⟨g, t, none⟩ = some (.pointer (some ⟨pb, cellOf (plus x t), none⟩)) := by rw [cells_of HB2.out.g]; exact HCell.out t hlt2
            have hx := can_lt (plus_nn x t) (HC.out t hlt2)
            have cb := HB2.out.m.cbyte _ (plus_nn x t) hx
            have fb : ∀ o, wr.frozen? ⟨pb, o, none⟩ = false := HB2.out.m.free
            go_wp2_with fail
            go_roundw
            case rel => exact ⟨t + 1, by omega, by go_num, HB2.out.store hal hpl (by omega) (plus_nn x t) hx (by omega) (by omega)⟩
            case measure => simp [intOf]; omega
          · have e2 : t = j := by omega
            subst e2
            have cf : ∀ o, wr.cell? ⟨w.heap.size, o, none⟩ = #[.int .i64 0, .int .u32 0, .int .u32 0, .int .i64 0][o]? := cells_of HB2.out.f
            have ff : ∀ o, wr.frozen? ⟨w.heap.size, o, none⟩ = false := free_of HB2.out.f
            have ck : ∀ o, wr.cell? ⟨w.heap.size + 1, o, none⟩ = #[.bool false][o]? := cells_of HB2.out.k
            have fk : ∀ o, wr.frozen? ⟨w.heap.size + 1, o, none⟩ = false := free_of HB2.out.k
            go_wp2_with fail
            refine write_door_ret w _ _ _ rfl rfl ?_ ?_ (HFK.out _ HC.out ?_ ?_)
            · refine heap_set_keep _ (by simp) ?_
              have h := heap_set_same (heap_set_same (heap_set_same (heap_set_same HB2.out.f 0 (.int .i64 0)) 1 (.int .u32 0)) 2 (.int .u32 0)) 3 (.int .i64 0)
              exact h
            · exact heap_set_same (heap_set_keep _ (by simp) (heap_set_keep _ (by simp) (heap_set_keep _ (by simp) (heap_set_keep _ (by simp) HB2.out.k)))) 0 _
            · exact ((((HB2.out.u.setCell (by simp) _).setCell (by simp) _).setCell (by simp) _).setCell (by simp) _).setCell (by simp) _
            · exact HB2.out.m.keep (S := [w.heap.size, w.heap.size + 1]) (((((Upd.refl _ _).setCell (by simp) _).setCell (by simp) _).setCell (by simp) _).setCell (by simp) _ |>.setCell (by simp) _) (by simp <;> omega) (by simp <;> omega)
end Go.Proofs.Ytncafchgdgmeaaa
