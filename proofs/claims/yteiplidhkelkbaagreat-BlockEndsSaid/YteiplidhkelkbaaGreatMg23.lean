/-
  Parts of the proof (their names shortened by a program). No condition.
-/
import Derived.Test.YteiplidhkelkbaaGreatMg01
import Derived.Test.YteiplidhkelkbaaGreatMg22
import Derived.Test.YteiplidhkelkbaaGreatMg15
namespace Go.Proofs.YteiplidhkelkbaaGreat
open Go Go.RowKit
set_option linter.unusedVariables false
set_option linter.unusedSimpArgs false
set_option maxRecDepth 100000
set_option maxHeartbeats 16000000
theorem Ybf (L : List Int) (c : Int) (k : Nat) (sh T B : Bool) (hl : 1 < L.length) (ht : Ya5 c (L.getD 1 0 / 8 % 8) (L.getD 1 0 / 64) = T) (hb : (if c = 198 ∨ c = 199 then L.getD 1 0 / 8 % 8 != 0 else if c = 255 ∧ L.getD 1 0 / 8 % 8 = 7 then true else false) = B) :
  Ycz L c ⟨k, sh, false⟩ = ⟨Ins.zero, T, ⟨k, if T || B then false else sh, B⟩⟩ := by
 unfold Ycz
 rw [if_neg (by omega)]
 dsimp only
 rw [ht, hb]
theorem Ysc (d g : Nat) (k : Nat) (sh : Bool) (v : Value) (L : List Int) (w : World) (hD : Yl w d v L g ⟨k, sh, false⟩) (c : Int) (hc : Yh0.contains c = true) :
  Calls Tryz.prog 74 #[.pointer (some ⟨d, 0, none⟩), .int .u8 c] w (Yr d v L g w (Ycz L c ⟨k, sh, false⟩)) := by
 by_cases hl : L.length < 2
 ·rw [show Ycz L c ⟨k, sh, false⟩ = ⟨Ins.zero, false, ⟨k, sh, false⟩⟩ from by unfold Ycz; rw [if_pos hl]]
  exact Ysy d g _ v L w hD c hl
 replace hl : 1 < L.length := by omega
 have hm : c = 129 ∨ c = 131 ∨ c = 133 ∨ c = 135 ∨ c = 136 ∨ c = 137 ∨ c = 138 ∨ c = 139 ∨ c = 141 ∨ c = 193 ∨ c = 198 ∨ c = 199 ∨ c = 209 ∨ c = 211 ∨ c = 217 ∨ c = 220 ∨ c = 221 ∨ c = 247 ∨ c = 255 := by simpa [Yh0] using hc
 rcases hm with rfl | rfl | rfl | rfl | rfl | rfl | rfl | rfl | rfl | rfl | rfl | rfl | rfl | rfl | rfl | rfl | rfl | rfl | rfl
 ·rw [Ybf L 129 k sh false false hl (by rfl) (by rfl)]
  exact Yg31.1 d g _ v L w hD k sh rfl hl
 ·rw [Ybf L 131 k sh false false hl (by rfl) (by rfl)]
  exact Yg31.2.1 d g _ v L w hD k sh rfl hl
 ·rw [Ybf L 133 k sh false false hl (by rfl) (by rfl)]
  exact Yg31.2.2.1 d g _ v L w hD k sh rfl hl
 ·rw [Ybf L 135 k sh false false hl (by rfl) (by rfl)]
  exact Yg31.2.2.2.1 d g _ v L w hD k sh rfl hl
 ·rw [Ybf L 136 k sh false false hl (by rfl) (by rfl)]
  exact Yg31.2.2.2.2.1 d g _ v L w hD k sh rfl hl
 ·rw [Ybf L 137 k sh false false hl (by rfl) (by rfl)]
  exact Yg31.2.2.2.2.2.1 d g _ v L w hD k sh rfl hl
 ·rw [Ybf L 138 k sh false false hl (by rfl) (by rfl)]
  exact Yg31.2.2.2.2.2.2.1 d g _ v L w hD k sh rfl hl
 ·rw [Ybf L 139 k sh false false hl (by rfl) (by rfl)]
  exact Yg31.2.2.2.2.2.2.2 d g _ v L w hD k sh rfl hl
 ·rw [Ybf L 141 k sh false false hl (by rfl) (by rfl)]
  exact Yrq d g _ v L w hD k sh rfl hl
 ·by_cases h : Yaa (L.getD 1 0 / 8 % 8) = 0
  ·rw [Ybf L 193 k sh true false hl (by simp [Ya5, -List.getD_eq_getElem?_getD, h]) (by simp [Ya5, -List.getD_eq_getElem?_getD, h])]
   exact Yg32.1 d g _ v L w hD k sh rfl hl h
  ·rw [Ybf L 193 k sh false false hl (by simp [Ya5, -List.getD_eq_getElem?_getD, h]) (by simp [Ya5, -List.getD_eq_getElem?_getD, h])]
   exact Yg33.1 d g _ v L w hD k sh rfl hl h
 ·by_cases h : L.getD 1 0 / 8 % 8 = 0
  ·rw [Ybf L 198 k sh false false hl (by simp [Ya5, -List.getD_eq_getElem?_getD, h]) (by simp [Ya5, -List.getD_eq_getElem?_getD, h])]
   exact Yg34.1 d g _ v L w hD k sh rfl hl h
  ·rw [Ybf L 198 k sh false true hl (by simp [Ya5, -List.getD_eq_getElem?_getD, h]) (by simp [Ya5, -List.getD_eq_getElem?_getD, h])]
   exact Yg35.1 d g _ v L w hD k sh rfl hl h
 ·by_cases h : L.getD 1 0 / 8 % 8 = 0
  ·rw [Ybf L 199 k sh false false hl (by simp [Ya5, -List.getD_eq_getElem?_getD, h]) (by simp [Ya5, -List.getD_eq_getElem?_getD, h])]
   exact Yg34.2 d g _ v L w hD k sh rfl hl h
  ·rw [Ybf L 199 k sh false true hl (by simp [Ya5, -List.getD_eq_getElem?_getD, h]) (by simp [Ya5, -List.getD_eq_getElem?_getD, h])]
   exact Yg35.2 d g _ v L w hD k sh rfl hl h
 ·by_cases h : Yaa (L.getD 1 0 / 8 % 8) = 0
  ·rw [Ybf L 209 k sh true false hl (by simp [Ya5, -List.getD_eq_getElem?_getD, h]) (by simp [Ya5, -List.getD_eq_getElem?_getD, h])]
   exact Yg32.2.1 d g _ v L w hD k sh rfl hl h
  ·rw [Ybf L 209 k sh false false hl (by simp [Ya5, -List.getD_eq_getElem?_getD, h]) (by simp [Ya5, -List.getD_eq_getElem?_getD, h])]
   exact Yg33.2.1 d g _ v L w hD k sh rfl hl h
 ·by_cases h : Yaa (L.getD 1 0 / 8 % 8) = 0
  ·rw [Ybf L 211 k sh true false hl (by simp [Ya5, -List.getD_eq_getElem?_getD, h]) (by simp [Ya5, -List.getD_eq_getElem?_getD, h])]
   exact Yg32.2.2 d g _ v L w hD k sh rfl hl h
  ·rw [Ybf L 211 k sh false false hl (by simp [Ya5, -List.getD_eq_getElem?_getD, h]) (by simp [Ya5, -List.getD_eq_getElem?_getD, h])]
   exact Yg33.2.2 d g _ v L w hD k sh rfl hl h
 ·rw [Ybf L 217 k sh true false hl (by rfl) (by rfl)]
  exact Ysv d g _ v L w hD k sh rfl hl
 ·by_cases h : Yar (L.getD 1 0 / 8 % 8) = 0
  ·rw [Ybf L 220 k sh true false hl (by simp [Ya5, -List.getD_eq_getElem?_getD, h]) (by simp [Ya5, -List.getD_eq_getElem?_getD, h])]
   exact Ymo d g _ v L w hD k sh rfl hl h
  ·by_cases h3 : L.getD 1 0 / 64 = 3
   ·rw [Ybf L 220 k sh true false hl (by simp [Ya5, -List.getD_eq_getElem?_getD, h, h3]) (by simp [Ya5, -List.getD_eq_getElem?_getD, h, h3])]
    exact Yn2 d g _ v L w hD k sh rfl hl ⟨h, h3⟩
   ·rw [Ybf L 220 k sh false false hl (by simp [Ya5, -List.getD_eq_getElem?_getD, h, h3]) (by simp [Ya5, -List.getD_eq_getElem?_getD, h, h3])]
    exact Ynl d g _ v L w hD k sh rfl hl ⟨h, h3⟩
 ·by_cases h : L.getD 1 0 / 8 % 8 = 0
  ·rw [Ybf L 221 k sh false false hl (by simp [Ya5, -List.getD_eq_getElem?_getD, h]) (by simp [Ya5, -List.getD_eq_getElem?_getD, h])]
   exact Yn4 d g _ v L w hD k sh rfl hl h
  ·by_cases h3 : L.getD 1 0 / 8 % 8 = 3
   ·rw [Ybf L 221 k sh false false hl (by simp [Ya5, -List.getD_eq_getElem?_getD, h3]) (by simp [Ya5, -List.getD_eq_getElem?_getD, h3])]
    exact Yn9 d g _ v L w hD k sh rfl hl h3
   ·rw [Ybf L 221 k sh true false hl (by simp [Ya5, -List.getD_eq_getElem?_getD, h, h3]) (by simp [Ya5, -List.getD_eq_getElem?_getD, h, h3])]
    exact Yn6 d g _ v L w hD k sh rfl hl ⟨h, h3⟩
 ·by_cases h : L.getD 1 0 / 8 % 8 = 1
  ·rw [Ybf L 247 k sh true false hl (by simp [Ya5, -List.getD_eq_getElem?_getD, h]) (by simp [Ya5, -List.getD_eq_getElem?_getD, h])]
   exact Ymx d g _ v L w hD k sh rfl hl h
  ·rw [Ybf L 247 k sh false false hl (by simp [Ya5, -List.getD_eq_getElem?_getD, h]) (by simp [Ya5, -List.getD_eq_getElem?_getD, h])]
   exact Yoj d g _ v L w hD k sh rfl hl h
 ·by_cases h3 : L.getD 1 0 / 8 % 8 = 3
  ·rw [Ybf L 255 k sh true false hl (by simp [Ya5, -List.getD_eq_getElem?_getD, h3]) (by simp [Ya5, -List.getD_eq_getElem?_getD, h3])]
   exact Yok d g _ v L w hD k sh rfl hl h3
  by_cases h5 : L.getD 1 0 / 8 % 8 = 5
  ·rw [Ybf L 255 k sh true false hl (by simp [Ya5, -List.getD_eq_getElem?_getD, h5]) (by simp [Ya5, -List.getD_eq_getElem?_getD, h5])]
   exact Yne d g _ v L w hD k sh rfl hl h5
  by_cases h7 : L.getD 1 0 / 8 % 8 = 7
  ·rw [Ybf L 255 k sh false true hl (by simp [Ya5, -List.getD_eq_getElem?_getD, h7]) (by simp [Ya5, -List.getD_eq_getElem?_getD, h7])]
   exact Yms d g _ v L w hD k sh rfl hl h7
  rw [Ybf L 255 k sh false false hl (by simp [Ya5, -List.getD_eq_getElem?_getD, h3, h5, h7]) (by simp [Ya5, -List.getD_eq_getElem?_getD, h3, h5, h7])]
  exact Ynk d g _ v L w hD k sh rfl hl ⟨h3, h5, h7⟩
theorem Yff (d g : Nat) (s : Rd) (v : Value) (L : List Int) (w : World) (hD : Yl w d v L g s) (c : Int) (o : Opd) (n : Int) (hn : 0 ≤ n ∧ n < 8) (hc : c = 198 ∨ c = 199 ∨ c = 217 ∨ c = 220 ∨ c = 221 ∨ c = 247 ∨ c = 255) :
  Calls Tryz.prog 76 #[.pointer (some ⟨d, 0, none⟩), .int .u8 c, .agg #[.int .i64 o.k, .int .i64 o.r, .int .u32 o.imm, .int .i64 o.b, .int .i64 o.x, .int .u32 o.sc], .int .i64 n] w (Yr d v L g w (Ya9 L c o n s)) := by
 rcases hc with rfl | rfl | rfl | rfl | rfl | rfl | rfl
 ·by_cases h : n = 0
  ·rw [show Ya9 L 198 o n s = ⟨⟨2, 0, o, Yac (reB L { s with bd := false }), false, 0⟩, false, Ym L { s with bd := false }⟩ from by simp [Ya9, h]]
   exact Yqn d g s v L w hD o n h
  ·rw [show Ya9 L 198 o n s = ⟨Ins.zero, false, { s with bd := true }⟩ from by simp [Ya9, h]]
   exact Yo5 d g s v L w hD o n h
 ·by_cases h : n = 0
  ·rw [show Ya9 L 199 o n s = ⟨⟨1, 0, o, Yac (reW L { s with bd := false }), false, 0⟩, false, Yb1 L { s with bd := false }⟩ from by simp [Ya9, h]]
   exact Yo2 d g s v L w hD o n h
  ·rw [show Ya9 L 199 o n s = ⟨Ins.zero, false, { s with bd := true }⟩ from by simp [Ya9, h]]
   exact Yoz d g s v L w hD o n h
 ·by_cases h4 : n = 4
  ·cases e0 : o.eqB (Yn 0)
   ·cases e1 : o.eqB (Yn 1)
    ·rw [show Ya9 L 217 o n s = ⟨Yaj 52, true, s⟩ from by simp [Ya9, e0, e1]]
     exact Yqs d g s v L w hD o n e0 h4 e1
    ·rw [show Ya9 L 217 o n s = ⟨Yaj 52, false, s⟩ from by simp [Ya9, e0, e1, h4]]
     exact Ype d g s v L w hD o n e0 h4 e1
   ·rw [show Ya9 L 217 o n s = ⟨Yaj 51, false, s⟩ from by simp [Ya9, e0, h4]]
    exact Yqt d g s v L w hD o n e0 h4
  ·have h4' : (n == 4) = false := by simpa using h4
   have e : Ya9 L 217 o n s = ⟨Yaj 52, true, s⟩ := by simp [Ya9, h4]
   rw [e]
   cases e0 : o.eqB (Yn 0)
   ·cases e1 : o.eqB (Yn 1)
    ·exact Yp9 d g s v L w hD o n e0 h4 e1
    ·exact Yov d g s v L w hD o n e0 h4 e1
   ·have e1 : o.eqB (Yn 1) = false := by
     rw [Opd.eqB_iff] at e0
     subst e0
     rfl
    exact Ypv d g s v L w hD o n e0 h4 e1
 ·by_cases h : Yar n = 0
  ·rw [show Ya9 L 220 o n s = ⟨⟨0, 0, o, Opd.none, false, 0⟩, true, s⟩ from by simp [Ya9, h]]
   exact Yo6 d g s v L w hD o n hn h
  by_cases hk : o.k = 1
  ·rw [show Ya9 L 220 o n s = ⟨⟨Yar n, 0, o, Opd.none, false, 0⟩, true, s⟩ from by simp [Ya9, h, hk]]
   exact Yo4 d g s v L w hD o n hn h hk
  ·rw [show Ya9 L 220 o n s = ⟨⟨Yar n, 0, o, Opd.none, false, 0⟩, false, s⟩ from by simp [Ya9, h, hk]]
   exact Yo0 d g s v L w hD o n hn h hk
 ·by_cases h3 : n = 3
  ·by_cases hk : o.k = 1
   ·rw [show Ya9 L 221 o n s = ⟨⟨46, 0, o, Opd.none, false, 0⟩, true, s⟩ from by simp [Ya9, h3, hk]]
    exact Ymn d g s v L w hD o n h3 hk
   ·rw [show Ya9 L 221 o n s = ⟨⟨46, 0, o, Opd.none, false, 0⟩, false, s⟩ from by simp [Ya9, h3, hk]]
    exact Yoi d g s v L w hD o n h3 hk
  by_cases h0 : n = 0
  ·by_cases hk : o.k = 1
   ·rw [show Ya9 L 221 o n s = ⟨⟨45, 0, o, Opd.none, false, 0⟩, true, s⟩ from by simp [Ya9, h0, hk]]
    exact Yop d g s v L w hD o n h0 hk
   ·rw [show Ya9 L 221 o n s = ⟨⟨45, 0, o, Opd.none, false, 0⟩, false, s⟩ from by simp [Ya9, h0, hk]]
    exact Yoq d g s v L w hD o n h0 hk
  ·rw [show Ya9 L 221 o n s = ⟨⟨45, 0, o, Opd.none, false, 0⟩, true, s⟩ from by simp [Ya9, h0, h3]]
   exact Yq1 d g s v L w hD o n h0 h3
 ·by_cases h0 : n = 0
  ·rw [show Ya9 L 247 o n s = ⟨⟨11, 0, o, Yac (reW L s), false, 0⟩, false, Yb1 L s⟩ from by simp [Ya9, h0]]
   exact You d g s v L w hD o n h0
  by_cases h : Ybd n = 0
  ·rw [show Ya9 L 247 o n s = ⟨⟨0, 0, o, Opd.none, false, 0⟩, true, s⟩ from by simp [Ya9, h0, h]]
   exact Ypc d g s v L w hD o n hn h0 h
  ·rw [show Ya9 L 247 o n s = ⟨⟨Ybd n, 0, o, Opd.none, false, 0⟩, false, s⟩ from by simp [Ya9, h0, h]]
   exact Ypq d g s v L w hD o n hn h0 h
 ·by_cases h7 : n = 7
  ·rw [show Ya9 L 255 o n s = ⟨⟨0, 0, o, Opd.none, false, 0⟩, true, { s with bd := true }⟩ from by subst h7; rfl]
   exact Yq2 d g s v L w hD o n hn h7
  have e7 : (n == 7) = false := by simpa using h7
  by_cases h : Ycn n = 0
  ·rw [show Ya9 L 255 o n s = ⟨⟨0, 0, o, Opd.none, false, 0⟩, true, { s with bd := false }⟩ from by simp [Ya9, h, e7]]
   exact Ypx d g s v L w hD o n hn h7 h
  ·rw [show Ya9 L 255 o n s = ⟨⟨Ycn n, 0, o, Opd.none, false, 0⟩, false, { s with bd := false }⟩ from by simp [Ya9, h, e7]]
   exact Yqh d g s v L w hD o n hn h7 h
def Rd.at (k : Nat) : Rd := ⟨k, false, false⟩
def Rel (r : DR Ins) (q : RI) : Prop :=
 match r with
 |.ok i k => q = ⟨i, false, Rd.at k⟩ ∧ isB i = true ∧ i.len = 0
 |.err c => c = 10 ∧ q.s.sh = true ∨ c = 90 ∧ q.s.sh = false ∧ q.s.bd = true ∨ c = 12 ∧ q.s.sh = false ∧ q.s.bd = false ∧ (q.e = true ∨ isB q.i = false)
theorem Rel.ok {i : Ins} {k : Nat} (h : isB i = true) (h0 : i.len = 0) : Rel (.ok i k) ⟨i, false, Rd.at k⟩ := ⟨rfl, h, h0⟩
theorem Rel.e10 {q : RI} (h : q.s.sh = true) : Rel (.err 10) q := .inl ⟨rfl, h⟩
theorem Rel.e90 {q : RI} (h : q.s.sh = false) (h1 : q.s.bd = true) : Rel (.err 90) q := .inr (.inl ⟨rfl, h, h1⟩)
theorem Rel.e12 {q : RI} (h : q.s.sh = false) (h1 : q.s.bd = false) (h2 : q.e = true ∨ isB q.i = false) : Rel (.err 12) q := .inr (.inr ⟨rfl, h, h1, h2⟩)
theorem Yev (L : List Int) (k : Nat) : Yz L k = .ok (reB L (Rd.at k)) (k + 1) ∧ Ym L (Rd.at k) = Rd.at (k + 1) ∨ Yz L k = .err 10 ∧ (Ym L (Rd.at k)).sh = true := by
 unfold Yz reB Ym Rd.at
 by_cases h : k < L.length
 ·left; simp [h]
 ·right; simp [h, Rd.short]
theorem Yej (L : List Int) (s : Rd) (h : s.sh = true) : (Ym L s).sh = true := by unfold Ym; split <;> simp [Rd.short, h]
theorem Yrb (L : List Int) (s : Rd) (h : s.sh = true) : (Yb1 L s).sh = true := Yej _ _ (Yej _ _ (Yej _ _ (Yej _ _ h)))
theorem Ye8 (L : List Int) (s : Rd) : (Ym L s).bd = s.bd := by unfold Ym; split <;> rfl
theorem Yq9 (L : List Int) (s : Rd) : (Yb1 L s).bd = s.bd := by simp only [Yb1, Ye8]
theorem Yka (L : List Int) (k : Nat) : Ycl L k = .ok (reW L (Rd.at k)) (k + 4) ∧ Yb1 L (Rd.at k) = Rd.at (k + 4) ∨ Ycl L k = .err 10 ∧ (Yb1 L (Rd.at k)).sh = true := by
 by_cases h : k + 4 ≤ L.length
 ·left
  have e : ∀ j, j < L.length → Ym L (Rd.at j) = Rd.at (j + 1) ∧ reB L (Rd.at j) = L.getD j 0 := fun j hj => by simp [Ym, reB, Rd.at, hj]
  have e0 := e k (by omega)
  have e1 := e (k + 1) (by omega)
  have e2 := e (k + 1 + 1) (by omega)
  have e3 := e (k + 1 + 1 + 1) (by omega)
  unfold Ycl reW Yb1 Yb0
  rw [if_pos h, e0.1, e1.1, e2.1, e3.1, e0.2, e1.2, e2.2, e3.2]
  exact ⟨rfl, rfl⟩
 ·right
  refine ⟨by unfold Ycl; rw [if_neg h], ?_⟩
  have st : ∀ s : Rd, (Ym L s).sh = true ∨ (Ym L s).k = s.k + 1 ∧ s.k < L.length := fun s => by
   unfold Ym
   split
   ·exact .inr ⟨rfl, by assumption⟩
   ·exact .inl rfl
  unfold Yb1
  rcases st (Rd.at k) with h0 | ⟨h0, l0⟩
  ·exact Yej _ _ (Yej _ _ (Yej _ _ h0))
  rcases st (Ym L (Rd.at k)) with h1 | ⟨h1, l1⟩
  ·exact Yej _ _ (Yej _ _ h1)
  rcases st (Ym L (Ym L (Rd.at k))) with h2 | ⟨h2, l2⟩
  ·exact Yej _ _ h2
  rcases st (Ym L (Ym L (Ym L (Rd.at k)))) with h3 | ⟨h3, l3⟩
  ·exact h3
  ·have : (Rd.at k).k = k := rfl
   omega
theorem Yfg {L : List Int} (hL : BOk L) (s : Rd) : 0 ≤ reB L s ∧ reB L s ≤ 255 := by
 unfold reB
 split
 ·exact hL _
 ·decide
theorem Ykd (L : List Int) (mod base x sc : Int) (hm : mod ≠ 3) (h0 : 0 ≤ mod ∧ mod < 4) (k : Nat) :
  (∃ k2, Yak L mod base x sc k = .ok (reT L mod base x sc (Rd.at k)) k2 ∧ Ydz L mod base x sc (Rd.at k) = Rd.at k2) ∨ Yak L mod base x sc k = .err 10 ∧ (Ydz L mod base x sc (Rd.at k)).sh = true := by
 unfold Yak reT Ydz
 by_cases h1 : mod = 1
 ·rw [if_pos h1, if_neg (by omega), if_pos h1, if_neg (by omega), if_pos h1]
  rcases Yev L k with ⟨a, b⟩ | ⟨a, b⟩
  ·rw [a]; exact .inl ⟨_, rfl, b⟩
  ·rw [a]; exact .inr ⟨rfl, b⟩
 by_cases h2 : mod = 2
 ·rw [if_neg h1, if_pos h2, if_neg (by omega), if_neg h1, if_pos h2, if_neg (by omega), if_neg h1, if_pos h2]
  rcases Yka L k with ⟨a, b⟩ | ⟨a, b⟩
  ·rw [a]; exact .inl ⟨_, rfl, b⟩
  ·rw [a]; exact .inr ⟨rfl, b⟩
 have h3 : mod = 0 := by omega
 by_cases h5 : base = 5
 ·rw [if_neg h1, if_neg h2, if_pos h5, if_pos ⟨h3, h5⟩, if_pos ⟨h3, h5⟩]
  rcases Yka L k with ⟨a, b⟩ | ⟨a, b⟩
  ·rw [a]; exact .inl ⟨_, rfl, b⟩
  ·rw [a]; exact .inr ⟨rfl, b⟩
 ·rw [if_neg h1, if_neg h2, if_neg h5, if_neg (by omega), if_neg h1, if_neg h2, if_neg (by omega), if_neg h1, if_neg h2]
  exact .inl ⟨_, rfl, rfl⟩
theorem Yls (L : List Int) (mod base x sc : Int) (s : Rd) (hb : 0 ≤ base ∧ base < 8) (hx : -1 ≤ x ∧ x < 8 ∧ x ≠ 4) (hs : sc = 1 ∨ 0 ≤ x ∧ (sc = 2 ∨ sc = 4 ∨ sc = 8)) :
  Ya7 (reT L mod base x sc s) = true ∧ (reT L mod base x sc s).k = 3 := by
 have h : ∀ (v b : Int), -1 ≤ b ∧ b < 8 → Ya7 ⟨3, 0, v, b, x, sc⟩ = true := fun v b hb => by
  simp only [Ya7, Bool.and_eq_true, Bool.or_eq_true, beq_iff_eq, bne_iff_ne, decide_eq_true_eq, ne_eq]
  obtain ⟨h1, h2, h3⟩ := hx
  refine ⟨⟨⟨⟨⟨⟨⟨trivial, trivial⟩, hb.1⟩, hb.2⟩, h1⟩, h2⟩, h3⟩, ?_⟩
  rcases hs with h | ⟨h, g⟩
  ·exact .inl h
  ·exact .inr ⟨h, by rcases g with g | g | g <;> simp [g]⟩
 unfold reT
 split
 ·exact ⟨h _ _ (by omega), rfl⟩
 split
 ·exact ⟨h _ _ (by omega), rfl⟩
 split
 ·exact ⟨h _ _ (by omega), rfl⟩
 ·exact ⟨h _ _ (by omega), rfl⟩
theorem Yc5 (r : Int) (h : 0 ≤ r ∧ r < 8) : Yw (Yn r) = true := by
 have e : (Yn r).r = r := rfl
 have e1 : (Yn r).k = 1 := rfl
 rw [Yw, e, e1, Opd.eqB_self]
 simp [h.1, h.2]
theorem Yck (v : Int) : Ya0 (Yac v) = true := by
 rw [Ya0, show (Yac v).imm = v from rfl, Opd.eqB_self]; rfl
theorem Ygb {L : List Int} (hL : BOk L) (k : Nat) :
  (∃ m, Yai L k = .ok m (k + 1) ∧ m = Ycm (L.getD k 0) ∧ k < L.length ∧ reN L (Rd.at k) = m.reg ∧ (0 ≤ m.reg ∧ m.reg < 8) ∧ (0 ≤ m.mod ∧ m.mod < 4) ∧
   ((∃ k2, Ya6 L m (k + 1) = .ok (reM L (Rd.at k)) k2 ∧ Yab L (Rd.at k) = Rd.at k2) ∨ Ya6 L m (k + 1) = .err 10 ∧ (Yab L (Rd.at k)).sh = true ∧ m.mod ≠ 3) ∧
   (m.mod = 3 ∧ reM L (Rd.at k) = Yn m.rm ∧ (0 ≤ m.rm ∧ m.rm < 8) ∨ m.mod ≠ 3 ∧ (reM L (Rd.at k)).k = 3 ∧ Ya7 (reM L (Rd.at k)) = true)) ∨
  Yai L k = .err 10 ∧ (Yab L (Rd.at k)).sh = true ∧ L.length ≤ k := by
 by_cases hk : k < L.length
 ·left
  have hb : reB L (Rd.at k) = L.getD k 0 := by simp [reB, Rd.at, hk]
  have hb' : Ym L (Rd.at k) = Rd.at (k + 1) := by simp [Ym, Rd.at, hk]
  have hr := Yfg hL (Rd.at k)
  refine ⟨Ycm (L.getD k 0), by simp [Yai, Yz, hk, DR.bind], rfl, hk, by rw [reN, hb]; rfl, ?_, ?_, ?_, ?_⟩
  ·rw [hb] at hr; simp only [Ycm]; omega
  ·rw [hb] at hr; simp only [Ycm]; omega
  ·unfold reM Yab Ya6 Ycm
   rw [hb, hb']
   rw [hb] at hr
   obtain ⟨c, hc⟩ : ∃ c, L.getD k 0 = c := ⟨_, rfl⟩
   rw [hc] at hr ⊢
   dsimp only
   by_cases h3 : c / 64 = 3
   ·rw [if_pos h3, if_pos h3, if_pos h3]; exact .inl ⟨_, rfl, rfl⟩
   rw [if_neg h3, if_neg h3, if_neg h3]
   by_cases h4 : c % 8 = 4
   ·rw [if_pos h4, if_pos h4, if_pos h4]
    rcases Yev L (k + 1) with ⟨a, b⟩ | ⟨a, b⟩
    ·rw [a, b, DR.bind_ok]
     by_cases h5 : reB L (Rd.at (k + 1)) / 8 % 8 = 4
     ·simp only [if_pos h5]
      rcases Ykd L (c / 64) (reB L (Rd.at (k + 1)) % 8) (-1) 1 h3 (by omega) (k + 1 + 1) with h | h
      ·exact .inl h
      ·exact .inr ⟨h.1, h.2, h3⟩
     ·simp only [if_neg h5]
      rcases Ykd L (c / 64) (reB L (Rd.at (k + 1)) % 8) (reB L (Rd.at (k + 1)) / 8 % 8) (2 ^ (reB L (Rd.at (k + 1)) / 64).toNat) h3 (by omega) (k + 1 + 1) with h | h
      ·exact .inl h
      ·exact .inr ⟨h.1, h.2, h3⟩
    ·rw [a, DR.bind_err]
     refine .inr ⟨rfl, ?_, h3⟩
     have st : ∀ (mod base x sc : Int) (s : Rd), s.sh = true → (Ydz L mod base x sc s).sh = true := fun mod base x sc s h => by
      unfold Ydz
      split
      ·exact Yrb _ _ h
      split
      ·exact Yej _ _ h
      split
      ·exact Yrb _ _ h
      ·exact h
     split <;> exact st _ _ _ _ _ b
   ·rw [if_neg h4, if_neg h4, if_neg h4]
    rcases Ykd L (c / 64) (c % 8) (-1) 1 h3 (by omega) (k + 1) with h | h
    ·exact .inl h
    ·exact .inr ⟨h.1, h.2, h3⟩
  ·unfold reM Ycm
   rw [hb, hb']
   rw [hb] at hr
   obtain ⟨c, hc⟩ : ∃ c, L.getD k 0 = c := ⟨_, rfl⟩
   rw [hc] at hr ⊢
   dsimp only
   by_cases h3 : c / 64 = 3
   ·rw [if_pos h3]; exact .inl ⟨h3, rfl, by omega⟩
   rw [if_neg h3]
   refine .inr ⟨h3, ?_⟩
   have ht := Yfg hL (Rd.at (k + 1))
   by_cases h4 : c % 8 = 4
   ·rw [if_pos h4]
    by_cases h5 : reB L (Rd.at (k + 1)) / 8 % 8 = 4
    ·rw [if_pos h5]
     exact (Yls L _ _ _ _ _ (by omega) (by omega) (.inl rfl)).symm
    ·rw [if_neg h5]
     refine (Yls L _ _ _ _ _ (by omega) (by omega) ?_).symm
     have : reB L (Rd.at (k + 1)) / 64 = 0 ∨ reB L (Rd.at (k + 1)) / 64 = 1 ∨ reB L (Rd.at (k + 1)) / 64 = 2 ∨ reB L (Rd.at (k + 1)) / 64 = 3 := by omega
     rcases this with h | h | h | h <;> rw [h]
     ·exact .inl rfl
     ·exact .inr ⟨by omega, .inl rfl⟩
     ·exact .inr ⟨by omega, .inr (.inl rfl)⟩
     ·exact .inr ⟨by omega, .inr (.inr rfl)⟩
   ·rw [if_neg h4]
    exact (Yls L _ _ _ _ _ (by omega) (by omega) (.inl rfl)).symm
 ·right
  refine ⟨by simp [Yai, Yz, hk, DR.bind], ?_, by omega⟩
  have hb : reB L (Rd.at k) = 0 := by simp [reB, Rd.at, hk]
  have hb' : (Ym L (Rd.at k)).sh = true := by simp [Ym, Rd.at, hk, Rd.short]
  unfold Yab
  rw [hb]
  simp [Ydz, hb']
theorem Ylh (L : List Int) (mod base x sc : Int) (s : Rd) : (Ydz L mod base x sc s).bd = s.bd := by
 unfold Ydz
 split
 ·exact Yq9 _ _
 split
 ·exact Ye8 _ _
 split
 ·exact Yq9 _ _
 ·rfl
theorem Yiw (L : List Int) (s : Rd) : (Yab L s).bd = s.bd := by
 unfold Yab
 dsimp only
 split
 ·exact Ye8 _ _
 split
 ·split
  ·rw [Ylh, Ye8, Ye8]
  ·rw [Ylh, Ye8, Ye8]
 ·rw [Ylh, Ye8]
structure MO (m : Mrm) (o : Opd) : Prop where
 reg : 0 ≤ m.reg ∧ m.reg < 8
 mod : 0 ≤ m.mod ∧ m.mod < 4
 o : m.mod = 3 ∧ o = Yn m.rm ∧ (0 ≤ m.rm ∧ m.rm < 8) ∨ m.mod ≠ 3 ∧ o.k = 3 ∧ Ya7 o = true
theorem MO.rm {m : Mrm} {o : Opd} (h : MO m o) : rmB o = true := by
 rcases h.o with ⟨_, rfl, hr⟩ | ⟨_, _, hr⟩
 ·rw [rmB, Yc5 _ hr]; rfl
 ·rw [rmB, hr, Bool.or_true]
theorem MO.kind {m : Mrm} {o : Opd} (h : MO m o) : (o.k == 1) = (m.mod == 3) := by
 rcases h.o with ⟨h1, rfl, hr⟩ | ⟨h1, h2, hr⟩
 ·rw [h1]; rfl
 ·have : (m.mod == 3) = false := by simp [h1]
  rw [h2, this]; rfl
theorem MO.mem {m : Mrm} {o : Opd} (h : MO m o) (h3 : m.mod ≠ 3) : Ya7 o = true := by
 rcases h.o with ⟨h1, _⟩ | ⟨_, _, hr⟩
 ·exact absurd h1 h3
 ·exact hr
theorem Ys3 (L : List Int) (c : Int) (s : Rd) (hl : 1 < L.length) (hs : s.bd = false) (ht : Ya5 c (Ycm (L.getD 1 0)).reg (Ycm (L.getD 1 0)).mod = true) (hb : Yeo c (Ycm (L.getD 1 0)).reg = false) :
  (Ycz L c s).e = true ∧ (Ycz L c s).s.sh = false ∧ (Ycz L c s).s.bd = false := by
 unfold Ycz
 rw [if_neg (by omega)]
 simp only [Ycm] at ht hb
 dsimp only
 rw [ht]
 refine ⟨rfl, rfl, ?_⟩
 unfold Yeo at hb
 split
 ·rename_i h; rw [if_pos h] at hb; exact hb
 ·rename_i h
  rw [if_neg h] at hb
  split
  ·rename_i h2; rw [if_pos h2.1, h2.2] at hb; cases hb
  ·exact hs
theorem Yud (L : List Int) (c : Int) (s : Rd) (hl : 1 < L.length) (hb : Yeo c (Ycm (L.getD 1 0)).reg = true) : (Ycz L c s).s.sh = false ∧ (Ycz L c s).s.bd = true := by
 unfold Ycz
 rw [if_neg (by omega)]
 simp only [Ycm] at hb
 dsimp only
 have : (if c = 198 ∨ c = 199 then L.getD 1 0 / 8 % 8 != 0 else if c = 255 ∧ L.getD 1 0 / 8 % 8 = 7 then true else s.bd) = true := by
  unfold Yeo at hb
  split
  ·rename_i h; rw [if_pos h] at hb; exact hb
  ·rename_i h
   rw [if_neg h] at hb
   split at hb
   ·rename_i h2; rw [if_pos ⟨h2, by simpa using hb⟩]
   ·cases hb
 rw [this]
 simp
theorem early_no (L : List Int) (c : Int) (s : Rd) (hs : s.bd = false) (hsh : s.sh = true) (ht : Ya5 c (Ycm (L.getD 1 0)).reg (Ycm (L.getD 1 0)).mod = false) (hb : Yeo c (Ycm (L.getD 1 0)).reg = false) :
  (Ycz L c s).s.sh = true := by
 unfold Ycz
 split
 ·exact hsh
 simp only [Ycm] at ht hb
 dsimp only
 have : (if c = 198 ∨ c = 199 then L.getD 1 0 / 8 % 8 != 0 else if c = 255 ∧ L.getD 1 0 / 8 % 8 = 7 then true else s.bd) = false := by
  unfold Yeo at hb
  split
  ·rename_i h; rw [if_pos h] at hb; exact hb
  ·rename_i h
   rw [if_neg h] at hb
   split
   ·rename_i h2; rw [if_pos h2.1, h2.2] at hb; cases hb
   ·exact hs
 rw [this, ht]
 simp [hsh]
theorem Yu5 (L : List Int) (c : Int) (s : Rd) (hsh : s.sh = true) (h : L.length ≤ 1) : (Ycz L c s).s.sh = true := by
 unfold Ycz
 rw [if_pos (by omega)]
 exact hsh
theorem Ydc {L : List Int} (hL : BOk L) (c : Int) (hc : Yh0.contains c = true) (h15 : c ≠ 15) (D : DR Ins) (F : Mrm → Nat → DR Ins) (hD : D = (Yai L 1).bind F)
  (hearly : ∀ m : Mrm, (0 ≤ m.reg ∧ m.reg < 8) → m.mod ≠ 3 → Ya6 L m 2 = .err 10 → Ya5 c m.reg m.mod = true ∧ Yeo c m.reg = false ∧ F m 2 = .err 12 ∨ Yeo c m.reg = true ∧ F m 2 = .err 90 ∨ Ya5 c m.reg m.mod = false ∧ Yeo c m.reg = false ∧ F m 2 = .err 10)
  (hrest : ∀ (m : Mrm) (o : Opd) (k : Nat), MO m o → Ya6 L m 2 = .ok o k → Rel (F m 2) (Yav L c o m.reg (Rd.at k))) : Rel D (Ybk L c (Rd.at 1)) := by
 subst hD
 unfold Ybk
 rw [if_neg h15, if_pos hc]
 rcases Ygb hL 1 with ⟨m, h1, hm, hl, hn, hr, hmod, hp, ho⟩ | ⟨h1, h2, h3⟩
 ·rw [h1, DR.bind_ok, hn]
  rcases hp with ⟨k2, hp, hs⟩ | ⟨hp, hs, h3⟩
  ·rw [hs, if_neg (by simp [Rd.at])]
   exact hrest m _ k2 ⟨hr, hmod, ho⟩ hp
  ·rw [if_pos hs]
   have hb : (Yab L (Rd.at 1)).bd = false := Yiw _ _
   have he := hearly m hr h3 hp
   rw [hm] at he ⊢
   rcases he with ⟨a, b, e⟩ | ⟨a, e⟩ | ⟨a, b, e⟩
   ·rw [show (1 : Nat) + 1 = 2 from rfl, e]
    obtain ⟨x, y, z⟩ := Ys3 L c _ hl hb a b
    exact Rel.e12 y z (.inl x)
   ·rw [show (1 : Nat) + 1 = 2 from rfl, e]
    obtain ⟨y, z⟩ := Yud L c (Yab L (Rd.at 1)) hl a
    exact Rel.e90 y z
   ·rw [show (1 : Nat) + 1 = 2 from rfl, e]
    exact Rel.e10 (early_no L c _ hb hs a b)
 ·rw [h1, DR.bind_err, if_pos h2]
  exact Rel.e10 (Yu5 L c _ h2 h3)
theorem Ybt (op : Int) (a b : Opd) (h : Yo op a b = true) : isB ⟨op, 0, a, b, false, 0⟩ = true := by simp [isB, h]
theorem Yi4 (op cond : Int) (a b : Opd) (hc : 0 ≤ cond ∧ cond ≤ 15) (ho : op = 33 ∨ op = 34 ∨ op = 35) (h : Yo op a b = true) : isB ⟨op, cond, a, b, false, 0⟩ = true := by
 unfold isB
 rw [if_neg (by simp), if_neg (by simp only; omega)]
 exact h
theorem Yrj (op : Int) (ho : op = 1 ∨ 3 ≤ op ∧ op ≤ 10) {o : Opd} {r : Int} (h : rmB o = true) (hr : 0 ≤ r ∧ r < 8) : Yo op o (Yn r) = true := by
 rw [Yo, if_pos ho, h, Yc5 r hr]; rfl
theorem Yq4 (op : Int) (ho : op = 1 ∨ 3 ≤ op ∧ op ≤ 10) {o : Opd} {r : Int} (h : rmB o = true) (hr : 0 ≤ r ∧ r < 8) : Yo op (Yn r) o = true := by
 rw [Yo, if_pos ho, rmB, Yc5 r hr]
 rw [rmB, Bool.or_eq_true] at h
 rcases h with h | h <;> simp [h]
theorem Yjk (op : Int) (ho : op = 1 ∨ 3 ≤ op ∧ op ≤ 10) {o : Opd} (v : Int) (h : rmB o = true) : Yo op o (Yac v) = true := by
 rw [Yo, if_pos ho, h, Yck]; simp
theorem Yke (op : Int) (ho : 21 ≤ op ∧ op ≤ 25) {o : Opd} (v : Int) (hv : 0 ≤ v ∧ v < 256) (h : rmB o = true) : Yo op o (Yac v) = true ∧ Yo op o (Yn 1) = true := by
 have e : ∀ b, Yo op o b = (rmB o && (Yca b || Yw b && b.r == 1)) := fun b => by
  rw [Yo, if_neg (by omega), if_neg (by omega), if_neg (by omega), if_neg (by omega), if_neg (by omega), if_neg (by omega), if_pos ho]
 rw [e, e, h, Yca, Yck, show (Yac v).imm = v from rfl, Yc5 1 (by decide)]
 exact ⟨by simp; omega, by simp [Yn]⟩
theorem Yjh (op : Int) (ho : 12 ≤ op ∧ op ≤ 17 ∨ op = 19 ∨ op = 20 ∨ op = 34) {o : Opd} (h : rmB o = true) : Yo op o Opd.none = true := by
 rw [Yo, if_neg (by omega), if_neg (by omega), if_neg (by omega), if_neg (by omega), if_pos ho, h]; rfl
theorem Yfs (op : Int) (ho : op = 28 ∨ op = 30 ∨ op = 32) {o : Opd} (h : rmB o = true ∨ Ya0 o = true) : Yo op o Opd.none = true := by
 rw [Yo, if_neg (by omega), if_neg (by omega), if_neg (by omega), if_neg (by omega), if_neg (by omega), if_neg (by omega), if_neg (by omega), if_neg (by omega), if_pos ho]
 rcases h with h | h <;> simp [h] <;> rfl
theorem of_num (op : Int) (ho : op = 45 ∨ op = 46 ∨ 47 ≤ op ∧ op ≤ 50 ∨ op = 53) {o : Opd} (h : Ya7 o = true) : Yo op o Opd.none = true := by
 rw [Yo, if_neg (by omega), if_neg (by omega), if_neg (by omega), if_neg (by omega), if_neg (by omega), if_neg (by omega), if_neg (by omega), if_neg (by omega), if_neg (by omega), if_neg (by omega), if_neg (by omega), if_neg (by omega), if_pos ho, h]
 rfl
theorem Yk7 (op : Int) (ho : op = 18 ∨ op = 35 ∨ op = 36 ∨ op = 37) {o : Opd} {r : Int} (hr : 0 ≤ r ∧ r < 8) (h : rmB o = true) : Yo op (Yn r) o = true := by
 rw [Yo, if_neg (by omega), if_neg (by omega), if_neg (by omega), if_neg (by omega), if_neg (by omega), if_pos ho, Yc5 r hr, h]; rfl
theorem Yk6 (r : Int) (h : 0 ≤ r ∧ r < 8) : rmB (Yn r) = true := by rw [rmB, Yc5 r h]; rfl
theorem Ydv (L : List Int) (k : Nat) (f : Opd → Ins) (h : ∀ v, isB (f (Yac v)) = true ∧ (f (Yac v)).len = 0) :
  Rel ((Yas L k).bind fun i k => .ok (f i) k) ⟨f (Yac (reW L (Rd.at k))), false, Yb1 L (Rd.at k)⟩ := by
 unfold Yas
 rcases Yka L k with ⟨a, b⟩ | ⟨a, b⟩
 ·rw [a, b]; exact Rel.ok (h _).1 (h _).2
 ·rw [a]; exact Rel.e10 b
theorem Yjb (L : List Int) (k : Nat) (f : Opd → Ins) (h : ∀ v, isB (f (Yac v)) = true ∧ (f (Yac v)).len = 0) :
  Rel ((Yce L k).bind fun i k => .ok (f i) k) ⟨f (Yac (sx8 (reB L (Rd.at k)))), false, Ym L (Rd.at k)⟩ := by
 unfold Yce
 rcases Yev L k with ⟨a, b⟩ | ⟨a, b⟩
 ·rw [a, b]; exact Rel.ok (h _).1 (h _).2
 ·rw [a]; exact Rel.e10 b
theorem Yjm {L : List Int} (hL : BOk L) (k : Nat) (f : Opd → Ins) (h : ∀ v, 0 ≤ v ∧ v < 256 → isB (f (Yac v)) = true ∧ (f (Yac v)).len = 0) :
  Rel ((Ybu L k).bind fun i k => .ok (f i) k) ⟨f (Yac (reB L (Rd.at k))), false, Ym L (Rd.at k)⟩ := by
 unfold Ybu
 have hr := Yfg hL (Rd.at k)
 rcases Yev L k with ⟨a, b⟩ | ⟨a, b⟩
 ·rw [a, b]; exact Rel.ok (h _ (by omega)).1 (h _ (by omega)).2
 ·rw [a]; exact Rel.e10 b
theorem Ykm (n : Int) (h : 0 ≤ n ∧ n < 8) : Yag n = 1 ∨ 3 ≤ Yag n ∧ Yag n ≤ 10 := by unfold Yag; omega
theorem Yhs (c op : Int) (t : Bool) {L : List Int} (hL : BOk L) (hc : Yh0.contains c = true) (h15 : c ≠ 15) (hE : ∀ n mod, Ya5 c n mod = false ∧ Yeo c n = false)
  (hR : ∀ o n s, Yav L c o n s = ⟨if t = true then ⟨op, 0, Yn n, o, false, 0⟩ else ⟨op, 0, o, Yn n, false, 0⟩, false, s⟩)
  (hB : ∀ (o : Opd) r, rmB o = true → 0 ≤ r ∧ r < 8 → Yo op (if t = true then Yn r else o) (if t = true then o else Yn r) = true) : Rel (Yaz L op t 1) (Ybk L c (Rd.at 1)) := by
 refine Ydc hL c hc h15 _ _ rfl (fun m hr h3 hp => .inr (.inr ⟨(hE m.reg m.mod).1, (hE m.reg m.mod).2, by rw [hp]; rfl⟩)) (fun m o k hm hp => ?_)
 rw [hp, hR]
 have := hB o m.reg hm.rm hm.reg
 cases t
 ·exact Rel.ok (Ybt _ _ _ this) rfl
 ·exact Rel.ok (Ybt _ _ _ this) rfl
theorem Yhr (c : Int) (h : c = 129 ∨ c = 131 ∨ c = 133 ∨ c = 135 ∨ c = 136 ∨ c = 137 ∨ c = 138 ∨ c = 139 ∨ c = 141) (n mod : Int) : Ya5 c n mod = false ∧ Yeo c n = false := by
 unfold Ya5 Yeo
 rcases h with rfl | rfl | rfl | rfl | rfl | rfl | rfl | rfl | rfl <;> exact ⟨rfl, rfl⟩
theorem moves_of (L : List Int) (c : Int) (h : 96 ≤ c ∧ ¬(112 ≤ c ∧ c < 128) ∧ ¬(176 ≤ c ∧ c < 192)) (k : Nat) : Yde L c k = Ya2 L c k := by
 unfold Yde
 rw [if_neg (by omega), if_neg (by omega), if_neg (by omega), if_neg (by omega), if_neg (by omega), if_neg (by omega), if_neg (by omega), if_neg (by omega), if_neg (by omega)]
theorem rel_129 {L : List Int} (hL : BOk L) : Rel (Ya2 L 129 1) (Ybk L 129 (Rd.at 1)) := by
 refine Ydc hL 129 rfl (by decide) _ (fun m k => (Ya6 L m k).bind fun o k => (Yas L k).bind fun i k => .ok ⟨Yag m.reg, 0, o, i, false, 0⟩ k) rfl
  (fun m hr h3 hp => .inr (.inr ⟨rfl, rfl, by rw [hp]; rfl⟩)) (fun m o k hm hp => ?_)
 rw [hp]
 exact Ydv L k (fun i => ⟨Yag m.reg, 0, o, i, false, 0⟩) (fun v => ⟨Ybt _ _ _ (Yjk _ (Ykm _ hm.reg) v hm.rm), rfl⟩)
theorem rel_131 {L : List Int} (hL : BOk L) : Rel (Ya2 L 131 1) (Ybk L 131 (Rd.at 1)) := by
 refine Ydc hL 131 rfl (by decide) _ (fun m k => (Ya6 L m k).bind fun o k => (Yce L k).bind fun i k => .ok ⟨Yag m.reg, 0, o, i, false, 0⟩ k) rfl
  (fun m hr h3 hp => .inr (.inr ⟨rfl, rfl, by rw [hp]; rfl⟩)) (fun m o k hm hp => ?_)
 rw [hp]
 exact Yjb L k (fun i => ⟨Yag m.reg, 0, o, i, false, 0⟩) (fun v => ⟨Ybt _ _ _ (Yjk _ (Ykm _ hm.reg) v hm.rm), rfl⟩)
theorem rel_133 {L : List Int} (hL : BOk L) : Rel (Ya2 L 133 1) (Ybk L 133 (Rd.at 1)) :=
 Yhs 133 11 false hL rfl (by decide) (Yhr _ (by decide)) (fun _ _ _ => rfl) (fun o r h hr => by simp [Yo, h, Yc5 r hr])
theorem rel_135 {L : List Int} (hL : BOk L) : Rel (Ya2 L 135 1) (Ybk L 135 (Rd.at 1)) :=
 Yhs 135 27 false hL rfl (by decide) (Yhr _ (by decide)) (fun _ _ _ => rfl) (fun o r h hr => by simp [Yo, h, Yc5 r hr])
theorem rel_136 {L : List Int} (hL : BOk L) : Rel (Ya2 L 136 1) (Ybk L 136 (Rd.at 1)) :=
 Yhs 136 2 false hL rfl (by decide) (Yhr _ (by decide)) (fun _ _ _ => rfl) (fun o r h hr => by simp [Yo, h, Yc5 r hr])
theorem rel_138 {L : List Int} (hL : BOk L) : Rel (Ya2 L 138 1) (Ybk L 138 (Rd.at 1)) :=
 Yhs 138 2 true hL rfl (by decide) (Yhr _ (by decide)) (fun _ _ _ => rfl) (fun o r h hr => by
  rw [rmB, Bool.or_eq_true] at h
  rcases h with h | h <;> simp [Yo, rmB, h, Yc5 r hr])
theorem rel_137 {L : List Int} (hL : BOk L) : Rel (Ya2 L 137 1) (Ybk L 137 (Rd.at 1)) :=
 Yhs 137 1 false hL rfl (by decide) (Yhr _ (by decide)) (fun _ _ _ => rfl) (fun o r h hr => Yrj 1 (.inl rfl) h hr)
theorem rel_139 {L : List Int} (hL : BOk L) : Rel (Ya2 L 139 1) (Ybk L 139 (Rd.at 1)) :=
 Yhs 139 1 true hL rfl (by decide) (Yhr _ (by decide)) (fun _ _ _ => rfl) (fun o r h hr => Yq4 1 (.inl rfl) h hr)
theorem rel_141 {L : List Int} (hL : BOk L) : Rel (Ya2 L 141 1) (Ybk L 141 (Rd.at 1)) := by
 refine Ydc hL 141 rfl (by decide) _ (fun m k => if m.mod = 3 then .err 90 else (Ya6 L m k).bind fun o k => .ok ⟨26, 0, Yn m.reg, o, false, 0⟩ k) rfl
  (fun m hr h3 hp => .inr (.inr ⟨rfl, rfl, by rw [if_neg h3, hp]; rfl⟩)) (fun m o k hm hp => ?_)
 rw [hp, show Yav L 141 o m.reg (Rd.at k) = ⟨⟨26, 0, Yn m.reg, o, false, 0⟩, false, { Rd.at k with bd := o.k == 1 }⟩ from rfl, hm.kind]
 by_cases h3 : m.mod = 3
 ·rw [if_pos h3]
  exact Rel.e90 rfl (by simp [h3])
 ·rw [if_neg h3, DR.bind_ok, show (m.mod == 3) = false from by simpa using h3]
  exact Rel.ok (Ybt _ _ _ (by simp [Yo, Yc5 _ hm.reg, hm.mem h3])) rfl
theorem Yjj (n : Int) (h : Yaa n ≠ 0) : 21 ≤ Yaa n ∧ Yaa n ≤ 25 := by
 unfold Yaa at h ⊢
 split at h <;> (try split at h) <;> (try split at h) <;> (try split at h) <;> (try split at h) <;> simp_all
theorem Yjg {L : List Int} (hL : BOk L) (c : Int) (hc : c = 193 ∨ c = 209 ∨ c = 211) : Rel (Yc2 L c 1) (Ybk L c (Rd.at 1)) := by
 refine Ydc hL c (by rcases hc with rfl | rfl | rfl <;> rfl) (by omega) _ (fun m k => if Yaa m.reg = 0 then .err 12 else (Ya6 L m k).bind fun o k =>
  if c = 193 then (Ybu L k).bind fun i k => .ok ⟨Yaa m.reg, 0, o, i, false, 0⟩ k
  else if c = 209 then .ok ⟨Yaa m.reg, 0, o, Yac 1, false, 0⟩ k
  else .ok ⟨Yaa m.reg, 0, o, Yn 1, false, 0⟩ k) rfl
  (fun m hr h3 hp => ?_) (fun m o k hm hp => ?_)
 ·have ht : ∀ x y, Ya5 c x y = (Yaa x == 0) := fun x y => by rw [Ya5, if_pos hc]
  have hb : ∀ x, Yeo c x = false := fun x => by rw [Yeo, if_neg (by omega), if_neg (by omega)]
  rw [ht, hb]
  by_cases h0 : Yaa m.reg = 0
  ·exact .inl ⟨by simp [h0], rfl, by rw [if_pos h0]⟩
  ·exact .inr (.inr ⟨by simp [h0], rfl, by rw [if_neg h0, hp]; rfl⟩)
 ·rw [hp]
  by_cases h0 : Yaa m.reg = 0
  ·rw [if_pos h0]
   rcases hc with rfl | rfl | rfl
   ·rw [show Yav L 193 o m.reg (Rd.at k) = if Yaa m.reg = 0 then ⟨Ins.zero, true, Rd.at k⟩ else ⟨⟨Yaa m.reg, 0, o, Yac (reB L (Rd.at k)), false, 0⟩, false, Ym L (Rd.at k)⟩ from rfl, if_pos h0]
    exact Rel.e12 rfl rfl (.inl rfl)
   ·exact Rel.e12 rfl rfl (.inl (by simp [Yav, h0]))
   ·exact Rel.e12 rfl rfl (.inl (by simp [Yav, h0]))
  ·rw [if_neg h0, DR.bind_ok]
   have hf : (Yaa m.reg == 0) = false := by simpa using h0
   rcases hc with rfl | rfl | rfl
   ·rw [show Yav L 193 o m.reg (Rd.at k) = if Yaa m.reg = 0 then ⟨Ins.zero, true, Rd.at k⟩ else ⟨⟨Yaa m.reg, 0, o, Yac (reB L (Rd.at k)), false, 0⟩, false, Ym L (Rd.at k)⟩ from rfl, if_neg h0, if_pos rfl]
    exact Yjm hL k (fun i => ⟨Yaa m.reg, 0, o, i, false, 0⟩) (fun v hv => ⟨Ybt _ _ _ (Yke _ (Yjj _ h0) v hv hm.rm).1, rfl⟩)
   ·rw [show Yav L 209 o m.reg (Rd.at k) = ⟨⟨Yaa m.reg, 0, o, Yac 1, false, 0⟩, Yaa m.reg == 0, Rd.at k⟩ from rfl, hf]
    exact Rel.ok (Ybt _ _ _ (Yke _ (Yjj _ h0) 1 (by decide) hm.rm).1) rfl
   ·rw [show Yav L 211 o m.reg (Rd.at k) = ⟨⟨Yaa m.reg, 0, o, Yn 1, false, 0⟩, Yaa m.reg == 0, Rd.at k⟩ from rfl, hf]
    exact Rel.ok (Ybt _ _ _ (Yke _ (Yjj _ h0) 1 (by decide) hm.rm).2) rfl
theorem Yon {L : List Int} (hL : BOk L) (c : Int) (hc : c = 198 ∨ c = 199) : Rel (Yea L c 1) (Ybk L c (Rd.at 1)) := by
 refine Ydc hL c (by rcases hc with rfl | rfl <;> rfl) (by omega) _ (fun m k => if m.reg ≠ 0 then .err 90 else (Ya6 L m k).bind fun o k =>
  if c = 199 then (Yas L k).bind fun i k => .ok ⟨1, 0, o, i, false, 0⟩ k
  else (Ybu L k).bind fun i k => .ok ⟨2, 0, o, i, false, 0⟩ k) rfl
  (fun m hr h3 hp => ?_) (fun m o k hm hp => ?_)
 ·have ht : ∀ x y, Ya5 c x y = false := fun x y => by rcases hc with rfl | rfl <;> rfl
  have hb : ∀ x, Yeo c x = (x != 0) := fun x => by rw [Yeo, if_pos hc]
  rw [ht, hb]
  by_cases h0 : m.reg = 0
  ·exact .inr (.inr ⟨rfl, by simp [h0], by rw [if_neg (by simpa using h0), hp]; rfl⟩)
  ·exact .inr (.inl ⟨by simp [h0], by rw [if_pos h0]⟩)
 ·rw [hp]
  by_cases h0 : m.reg = 0
  ·rw [if_neg (by simpa using h0), DR.bind_ok]
   rcases hc with rfl | rfl
   ·rw [show Yav L 198 o m.reg (Rd.at k) = if m.reg = 0 then ⟨⟨2, 0, o, Yac (reB L (Rd.at k)), false, 0⟩, false, Ym L (Rd.at k)⟩ else ⟨Ins.zero, false, { Rd.at k with bd := true }⟩ from rfl, if_pos h0, if_neg (by decide)]
    exact Yjm hL k (fun i => ⟨2, 0, o, i, false, 0⟩) (fun v hv => ⟨Ybt _ _ _ (by
     have h2 : v < 256 := hv.2
     have hi : (Yac v).imm = v := rfl
     simp [Yo, hm.rm, Yca, Yck, hi, h2]), rfl⟩)
   ·rw [show Yav L 199 o m.reg (Rd.at k) = if m.reg = 0 then ⟨⟨1, 0, o, Yac (reW L (Rd.at k)), false, 0⟩, false, Yb1 L (Rd.at k)⟩ else ⟨Ins.zero, false, { Rd.at k with bd := true }⟩ from rfl, if_pos h0, if_pos rfl]
    exact Ydv L k (fun i => ⟨1, 0, o, i, false, 0⟩) (fun v => ⟨Ybt _ _ _ (Yjk _ (.inl rfl) v hm.rm), rfl⟩)
  ·rw [if_pos h0]
   rcases hc with rfl | rfl
   ·exact Rel.e90 (by simp [Yav, Ya9, h0, Rd.at]) (by simp [Yav, Ya9, h0])
   ·exact Rel.e90 (by simp [Yav, Ya9, h0, Rd.at]) (by simp [Yav, Ya9, h0])
theorem num_ok (n : Int) (h : Yar n ≠ 0) : Yar n = 45 ∨ Yar n = 46 ∨ 47 ≤ Yar n ∧ Yar n ≤ 50 ∨ Yar n = 53 := by
 unfold Yar at h ⊢
 split at h <;> (try split at h) <;> (try split at h) <;> (try split at h) <;> (try split at h) <;> simp_all
theorem rel_220 {L : List Int} (hL : BOk L) : Rel (Yc7 L 220 1) (Ybk L 220 (Rd.at 1)) := by
 refine Ydc hL 220 rfl (by decide) _ (fun m k => if Yd3 220 m = 0 ∨ m.mod = 3 then .err 12 else Ybb L (Yd3 220 m) m k) rfl (fun m hr h3 hp => ?_) (fun m o k hm hp => ?_)
 ·rw [show Yd3 220 m = Yar m.reg from rfl, show Ya5 220 m.reg m.mod = (Yar m.reg == 0 || m.mod == 3) from rfl, show Yeo 220 m.reg = false from rfl]
  by_cases h0 : Yar m.reg = 0
  ·exact .inl ⟨by simp [h0], rfl, by rw [if_pos (.inl h0)]⟩
  ·exact .inr (.inr ⟨by simp [h0, h3], rfl, by rw [if_neg (by simp [h0, h3]), Ybb, hp]; rfl⟩)
 ·rw [show Yd3 220 m = Yar m.reg from rfl, show Yav L 220 o m.reg (Rd.at k) = ⟨⟨Yar m.reg, 0, o, Opd.none, false, 0⟩, Yar m.reg == 0 || o.k == 1, Rd.at k⟩ from rfl, hm.kind]
  by_cases h0 : Yar m.reg = 0 ∨ m.mod = 3
  ·rw [if_pos h0]
   exact Rel.e12 rfl rfl (.inl (by rcases h0 with h | h <;> simp [h]))
  ·rw [if_neg h0, Ybb, hp, DR.bind_ok]
   have h1 : ¬ Yar m.reg = 0 := fun h => h0 (.inl h)
   have h2 : ¬ m.mod = 3 := fun h => h0 (.inr h)
   rw [show (Yar m.reg == 0 || m.mod == 3) = false from by simp [h1, h2]]
   exact Rel.ok (Ybt _ _ _ (of_num _ (num_ok _ h1) (hm.mem h2))) rfl
theorem rel_221 {L : List Int} (hL : BOk L) : Rel (Yc7 L 221 1) (Ybk L 221 (Rd.at 1)) := by
 have fz : ∀ n : Int, Yf7 n = 0 ↔ n ≠ 0 ∧ n ≠ 3 := fun n => by
  unfold Yf7
  by_cases h0 : n = 0
  ·simp [h0]
  ·by_cases h3 : n = 3 <;> simp [h0, h3]
 refine Ydc hL 221 rfl (by decide) _ (fun m k => if Yd3 221 m = 0 ∨ m.mod = 3 then .err 12 else Ybb L (Yd3 221 m) m k) rfl (fun m hr h3 hp => ?_) (fun m o k hm hp => ?_)
 ·rw [show Yd3 221 m = Yf7 m.reg from rfl, show Ya5 221 m.reg m.mod = (m.reg != 0 && m.reg != 3) from rfl, show Yeo 221 m.reg = false from rfl]
  by_cases h0 : Yf7 m.reg = 0
  ·have h1 := (fz _).1 h0
   exact .inl ⟨by simp [h1], rfl, by rw [if_pos (.inl h0)]⟩
  ·have h1 : ¬(m.reg ≠ 0 ∧ m.reg ≠ 3) := fun h => h0 ((fz _).2 h)
   exact .inr (.inr ⟨by rw [← Bool.not_eq_true, Bool.and_eq_true, bne_iff_ne, bne_iff_ne]; exact h1, rfl, by rw [if_neg (by simp [h0, h3]), Ybb, hp]; rfl⟩)
 ·rw [show Yd3 221 m = Yf7 m.reg from rfl, show Yav L 221 o m.reg (Rd.at k) = ⟨⟨if m.reg = 3 then 46 else 45, 0, o, Opd.none, false, 0⟩, (m.reg != 0 && m.reg != 3) || o.k == 1, Rd.at k⟩ from rfl, hm.kind]
  by_cases h0 : Yf7 m.reg = 0 ∨ m.mod = 3
  ·rw [if_pos h0]
   refine Rel.e12 rfl rfl (.inl ?_)
   rcases h0 with h | h
   ·have h1 := (fz _).1 h
    simp [h1]
   ·simp [h]
  ·rw [if_neg h0, Ybb, hp, DR.bind_ok]
   have h1 : ¬(m.reg ≠ 0 ∧ m.reg ≠ 3) := fun h => h0 (.inl ((fz _).2 h))
   have h2 : ¬ m.mod = 3 := fun h => h0 (.inr h)
   have e : Yf7 m.reg = if m.reg = 3 then 46 else 45 := by
    unfold Yf7
    have : m.reg = 0 ∨ m.reg = 3 := by omega
    rcases this with h | h <;> simp [h]
   rw [show ((m.reg != 0 && m.reg != 3) || m.mod == 3) = false from by
    have : m.reg = 0 ∨ m.reg = 3 := by omega
    rcases this with h | h <;> simp [h, h2], ← e]
   refine Rel.ok (Ybt _ _ _ (of_num _ ?_ (hm.mem h2))) rfl
   rw [e]
   split <;> simp
theorem oth_ok (n : Int) (h : Ybd n ≠ 0) : 12 ≤ Ybd n ∧ Ybd n ≤ 17 ∨ Ybd n = 19 ∨ Ybd n = 20 ∨ Ybd n = 34 := by
 unfold Ybd at h ⊢
 split at h <;> (try split at h) <;> (try split at h) <;> (try split at h) <;> (try split at h) <;> (try split at h) <;> simp_all
theorem rel_247 {L : List Int} (hL : BOk L) : Rel (Ye9 L 1) (Ybk L 247 (Rd.at 1)) := by
 have oz : ∀ n : Int, 0 ≤ n ∧ n < 8 → n ≠ 0 → (Ybd n = 0 ↔ n = 1) := fun n hn h0 => by
  have : n = 1 ∨ n = 2 ∨ n = 3 ∨ n = 4 ∨ n = 5 ∨ n = 6 ∨ n = 7 := by omega
  rcases this with rfl | rfl | rfl | rfl | rfl | rfl | rfl <;> decide
 refine Ydc hL 247 rfl (by decide) _ (fun m k =>
  if m.reg = 0 then (Ya6 L m k).bind fun o k => (Yas L k).bind fun i k => .ok ⟨11, 0, o, i, false, 0⟩ k
  else if Ybd m.reg ≠ 0 then Ybb L (Ybd m.reg) m k
  else .err 12) rfl (fun m hr h3 hp => ?_) (fun m o k hm hp => ?_)
 ·rw [show Ya5 247 m.reg m.mod = (m.reg == 1) from rfl, show Yeo 247 m.reg = false from rfl]
  by_cases h0 : m.reg = 0
  ·exact .inr (.inr ⟨by simp [h0], rfl, by rw [if_pos h0, hp]; rfl⟩)
  ·by_cases h1 : m.reg = 1
   ·exact .inl ⟨by simp [h1], rfl, by rw [if_neg h0, if_neg (by simpa using (oz _ hr h0).2 h1)]⟩
   ·exact .inr (.inr ⟨by simp [h1], rfl, by rw [if_neg h0, if_pos (fun h => h1 ((oz _ hr h0).1 h)), Ybb, hp]; rfl⟩)
 ·rw [show Yav L 247 o m.reg (Rd.at k) = if m.reg = 0 then ⟨⟨11, 0, o, Yac (reW L (Rd.at k)), false, 0⟩, false, Yb1 L (Rd.at k)⟩ else ⟨⟨Ybd m.reg, 0, o, Opd.none, false, 0⟩, Ybd m.reg == 0, Rd.at k⟩ from rfl, hp]
  by_cases h0 : m.reg = 0
  ·rw [if_pos h0, if_pos h0, DR.bind_ok]
   exact Ydv L k (fun i => ⟨11, 0, o, i, false, 0⟩) (fun v => ⟨Ybt _ _ _ (by simp [Yo, hm.rm, Yck]), rfl⟩)
  ·rw [if_neg h0, if_neg h0]
   by_cases h1 : Ybd m.reg = 0
   ·rw [if_neg (by simpa using h1)]
    exact Rel.e12 rfl rfl (.inl (by simp [h1]))
   ·rw [if_pos h1, Ybb, hp, DR.bind_ok, show (Ybd m.reg == 0) = false from by simpa using h1]
    exact Rel.ok (Ybt _ _ _ (Yjh _ (oth_ok _ h1) hm.rm)) rfl
theorem rel_255 {L : List Int} (hL : BOk L) : Rel (Yf2 L 1) (Ybk L 255 (Rd.at 1)) := by
 have lz : ∀ n : Int, 0 ≤ n ∧ n < 8 → (Ycn n = 0 ↔ n = 3 ∨ n = 5 ∨ n = 7) := fun n hn => by
  have : n = 0 ∨ n = 1 ∨ n = 2 ∨ n = 3 ∨ n = 4 ∨ n = 5 ∨ n = 6 ∨ n = 7 := by omega
  rcases this with rfl | rfl | rfl | rfl | rfl | rfl | rfl | rfl <;> decide
 refine Ydc hL 255 rfl (by decide) _ (fun m k => if Ycn m.reg ≠ 0 then Ybb L (Ycn m.reg) m k else if m.reg = 7 then .err 90 else .err 12) rfl (fun m hr h3 hp => ?_) (fun m o k hm hp => ?_)
 ·rw [show Ya5 255 m.reg m.mod = (m.reg == 3 || m.reg == 5) from rfl, show Yeo 255 m.reg = (m.reg == 7) from rfl]
  by_cases h0 : Ycn m.reg = 0
  ·rw [if_neg (by simpa using h0)]
   rcases (lz _ hr).1 h0 with h | h | h
   ·exact .inl ⟨by simp [h], by simp [h], by rw [if_neg (by omega)]⟩
   ·exact .inl ⟨by simp [h], by simp [h], by rw [if_neg (by omega)]⟩
   ·exact .inr (.inl ⟨by simp [h], by rw [if_pos h]⟩)
  ·have h1 : ¬(m.reg = 3 ∨ m.reg = 5 ∨ m.reg = 7) := fun h => h0 ((lz _ hr).2 h)
   refine .inr (.inr ⟨?_, ?_, by rw [if_pos h0, Ybb, hp]; rfl⟩)
   ·rw [← Bool.not_eq_true, Bool.or_eq_true, beq_iff_eq, beq_iff_eq]; omega
   ·rw [← Bool.not_eq_true, beq_iff_eq]; omega
 ·rw [show Yav L 255 o m.reg (Rd.at k) = ⟨⟨Ycn m.reg, 0, o, Opd.none, false, 0⟩, Ycn m.reg == 0, { Rd.at k with bd := m.reg == 7 }⟩ from rfl]
  by_cases h0 : Ycn m.reg = 0
  ·rw [if_neg (by simpa using h0)]
   by_cases h7 : m.reg = 7
   ·rw [if_pos h7]
    exact Rel.e90 rfl (by simp [h7])
   ·rw [if_neg h7]
    exact Rel.e12 rfl (by simp [h7]) (.inl (by simp [h0]))
  ·have h1 : ¬(m.reg = 3 ∨ m.reg = 5 ∨ m.reg = 7) := fun h => h0 ((lz _ hm.reg).2 h)
   rw [if_pos h0, Ybb, hp, DR.bind_ok, show (Ycn m.reg == 0) = false from by simpa using h0, show (m.reg == 7) = false from by rw [← Bool.not_eq_true, beq_iff_eq]; omega]
   refine Rel.ok (Ybt _ _ _ ?_) rfl
   have : m.reg = 0 ∨ m.reg = 1 ∨ m.reg = 2 ∨ m.reg = 4 ∨ m.reg = 6 := by have := hm.reg; omega
   rcases this with h | h | h | h | h <;> rw [h]
   ·exact Yjh 12 (by decide) hm.rm
   ·exact Yjh 13 (by decide) hm.rm
   ·exact Yfs 30 (by decide) (.inl hm.rm)
   ·exact Yfs 32 (by decide) (.inl hm.rm)
   ·exact Yfs 28 (by decide) (.inl hm.rm)
end Go.Proofs.YteiplidhkelkbaaGreat
