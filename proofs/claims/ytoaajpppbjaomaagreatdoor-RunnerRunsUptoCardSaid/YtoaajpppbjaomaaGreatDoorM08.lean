/- Texts merged by program: parts Lh, Li, Lj, Lk, Ll, Lm. -/
import Derived.Test.YtoaajpppbjaomaaGreatDoorM07
import Derived.Deep.RegionLaw
/- The parser of flat texts: statements. -/
namespace Go.Proofs.YtoaajpppbjaomaaGreatDoor
open Go.RowKit
theorem set12 {w : World} {b : Nat} {a0 a1 a2 a3 a4 a5 a6 a7 a8 a9 a10 a11 : Value} {t : TypeId} (h : w.heap[b]? = some (.cells #[a0, a1, a2, a3, a4, a5, a6, a7, a8, a9, a10, a11] t (0, 0))) (v0 v1 v2 v3 v4 v5 v6 v7 v8 v9 v10 v11 : Value) (w5 : World)
    (hw : w5 = ((((((((((((w.setCell ⟨b, 0, none⟩ v0).setCell ⟨b, 1, none⟩ v1).setCell ⟨b, 2, none⟩ v2).setCell ⟨b, 3, none⟩ v3).setCell ⟨b, 4, none⟩ v4).setCell ⟨b, 5, none⟩ v5).setCell ⟨b, 6, none⟩ v6).setCell ⟨b, 7, none⟩ v7).setCell ⟨b, 8, none⟩ v8).setCell ⟨b, 9, none⟩ v9).setCell ⟨b, 10, none⟩ v10).setCell ⟨b, 11, none⟩ v11)) :
    w5.heap[b]? = some (.cells #[v0, v1, v2, v3, v4, v5, v6, v7, v8, v9, v10, v11] t (0, 0)) ∧ Keep [b] w w5 := by
  constructor
  · rw [hw, heap_setCell_eq (heap_setCell_eq (heap_setCell_eq (heap_setCell_eq (heap_setCell_eq (heap_setCell_eq (heap_setCell_eq (heap_setCell_eq (heap_setCell_eq (heap_setCell_eq (heap_setCell_eq (heap_setCell_eq h 0 v0) 1 v1) 2 v2) 3 v3) 4 v4) 5 v5) 6 v6) 7 v7) 8 v8) 9 v9) 10 v10) 11 v11]; kernel_rfl
  · rw [hw]
    exact (((((((((((((Keep.refl _ _).setCell (.inl (by simp)) _).setCell (.inl (by simp)) _).setCell (.inl (by simp)) _).setCell (.inl (by simp)) _).setCell (.inl (by simp)) _).setCell (.inl (by simp)) _).setCell (.inl (by simp)) _).setCell (.inl (by simp)) _).setCell (.inl (by simp)) _).setCell (.inl (by simp)) _).setCell (.inl (by simp)) _).setCell (.inl (by simp)) _)
theorem twelve {w : World} {b : Nat} {a0 a1 a2 a3 a4 a5 a6 a7 a8 a9 a10 a11 : Value} {t : TypeId} (h : w.heap[b]? = some (.cells #[a0, a1, a2, a3, a4, a5, a6, a7, a8, a9, a10, a11] t (0, 0))) :
    (w.cell? ⟨b, 0, none⟩ = some a0 ∧ w.cell? ⟨b, 1, none⟩ = some a1 ∧ w.cell? ⟨b, 2, none⟩ = some a2 ∧ w.cell? ⟨b, 3, none⟩ = some a3 ∧ w.cell? ⟨b, 4, none⟩ = some a4 ∧ w.cell? ⟨b, 5, none⟩ = some a5 ∧ w.cell? ⟨b, 6, none⟩ = some a6 ∧ w.cell? ⟨b, 7, none⟩ = some a7 ∧ w.cell? ⟨b, 8, none⟩ = some a8 ∧ w.cell? ⟨b, 9, none⟩ = some a9 ∧ w.cell? ⟨b, 10, none⟩ = some a10 ∧ w.cell? ⟨b, 11, none⟩ = some a11) ∧ w.frozen? ⟨b, 0, none⟩ = false ∧ w.frozen? ⟨b, 1, none⟩ = false ∧ w.frozen? ⟨b, 2, none⟩ = false ∧ w.frozen? ⟨b, 3, none⟩ = false ∧ w.frozen? ⟨b, 4, none⟩ = false ∧ w.frozen? ⟨b, 5, none⟩ = false ∧ w.frozen? ⟨b, 6, none⟩ = false ∧ w.frozen? ⟨b, 7, none⟩ = false ∧ w.frozen? ⟨b, 8, none⟩ = false ∧ w.frozen? ⟨b, 9, none⟩ = false ∧ w.frozen? ⟨b, 10, none⟩ = false ∧ w.frozen? ⟨b, 11, none⟩ = false :=
  ⟨⟨cellB' h 0 rfl, cellB' h 1 rfl, cellB' h 2 rfl, cellB' h 3 rfl, cellB' h 4 rfl, cellB' h 5 rfl, cellB' h 6 rfl, cellB' h 7 rfl, cellB' h 8 rfl, cellB' h 9 rfl, cellB' h 10 rfl, cellB' h 11 rfl⟩, frozB h 0, frozB h 1, frozB h 2, frozB h 3, frozB h 4, frozB h 5, frozB h 6, frozB h 7, frozB h 8, frozB h 9, frozB h 10, frozB h 11⟩
abbrev zeroS : Array Value := #[.int .i64 0, .string ⟨#[]⟩, .int .i64 0, .int .i64 0, .slice none 0 0, .int .i64 0, .string ⟨#[]⟩, .int .i64 0, .slice none 0 0, .slice none 0 0, .slice none 0 0, .slice none 0 0]
/-- a statement's cells, where it has no names, arguments, arms -/
def stC (op : Int) (name : ByteArray) (at_ : Int) (x : XE) (aC aK : Option Addr) (lC cC lK cK : Nat) : List Value :=
  [.int .i64 op, .string name, .int .i64 at_, .int .i64 0, .slice none 0 0, .int .i64 x.op, .string x.name, .int .i64 x.n, .slice aC lC cC, .slice aK lK cK, .slice none 0 0, .slice none 0 0]
def RepSl (w : World) (lo n : Nat) (s : FS) (cs : List Value) : Prop :=
  ∃ op name at_ x aC aK lC cC lK cK, s = .mk op name at_ 0 [] x [] [] ∧ cs = stC op name at_ x aC aK lC cC lK cK ∧ I64 op ∧ I64 at_ ∧ name.size ≤ 1048576 ∧ RepXl w lo n x [.int .i64 x.op, .string x.name, .int .i64 x.n, .slice aC lC cC, .slice aK lK cK]
theorem RepSl.keep {w w' : World} {lo lo' n : Nat} {S : List Nat} (hk : Keep S w w') (hS : ∀ x, x ∈ S → x < lo) (hlo : lo' ≤ lo) {s : FS} {cs : List Value} (h : RepSl w lo n s cs) : RepSl w' lo' n s cs := by
  obtain ⟨op, name, at_, x, aC, aK, lC, cC, lK, cK, h1, h2, h3, h4, h5, h6⟩ := h
  exact ⟨op, name, at_, x, aC, aK, lC, cC, lK, cK, h1, h2, h3, h4, h5, h6.keep hk hS hlo⟩
theorem repV_nil {α : Type} (R : α → List Value → Prop) (sz : Nat) (w : World) : RepV R sz w (.slice none 0 0) [] := ⟨by simp, none, 0, rfl, by simp, by omega, fun h => by simp at h⟩
theorem RepSl.s {w : World} {lo n : Nat} {s : FS} {cs : List Value} (h : RepSl w lo n s cs) : RepS w (n + 1) s cs := by
  obtain ⟨op, name, at_, x, aC, aK, lC, cC, lK, cK, rfl, rfl, h3, h4, h5, h6⟩ := h
  exact ⟨.slice none 0 0, _, .slice none 0 0, .slice none 0 0, rfl, h3, h4, by unfold I64; omega, h5, repV_nil _ _ _, h6.x, repV_nil _ _ _, repV_nil _ _ _⟩
structure StmtP (W : World) (P B cap : Nat) (ws : List ByteArray) (at_ op n : Nat) (s : FS) (w : World) (e : Ending) (w' : World) : Prop where
  ret : ∃ o name a x aC aK lC cC lK cK, s = .mk o name a 0 [] x [] [] ∧ e = .returned (.agg (stC o name a x aC aK lC cC lK cK).toArray) ∧ RepSl w' w.heap.size n s (stC o name a x aC aK lC cC lK cK)
  keep : Keep [P] w w'
  st : PS W w' P B cap ws at_ op

/-- behind the store of a statement: the sign that ends it, and the result -/
def StMid (W : World) (P B cap : Nat) (ws : List ByteArray) (at_ op n : Nat) (s : FS) (w wx : World) : Prop :=
  ∃ o name a x aC aK lC cC lK cK, s = .mk o name a 0 [] x [] [] ∧ wx.heap[w.heap.size + 1]? = some (.cells (stC o name a x aC aK lC cC lK cK).toArray 88 (0, 0)) ∧ RepSl wx (w.heap.size + 2) n s (stC o name a x aC aK lC cC lK cK) ∧
    wx.heap[w.heap.size]? = some (.cells zeroS 88 (0, 0)) ∧ Keep [P] w wx ∧ PS W wx P B cap ws at_ op
theorem st_store {W w w8 : World} {P B cap : Nat} {ws : List ByteArray} {j op n : Nat} {x : XE} {o a : Int} {name : ByteArray} (_hgP : W.heap.size ≤ P) (hWs : W.heap.size ≤ w.heap.size) (hPl : P < w.heap.size) (hBl : B < w.heap.size)
    (h8 : PS W w8 P B cap ws j op) (hT : w8.heap[w.heap.size + 1]? = some (.cells zeroS 88 (0, 0))) (hN : w8.heap[w.heap.size]? = some (.cells zeroS 88 (0, 0))) (hk : Keep [P] w w8) (aC aK : Option Addr) (lC cC lK cK : Nat) {lo : Nat}
    (hR : RepXl w8 lo n x [.int .i64 x.op, .string x.name, .int .i64 x.n, .slice aC lC cC, .slice aK lK cK]) (hlo : w.heap.size + 2 ≤ lo) (ho : I64 o) (ha : I64 a) (hnm : name.size ≤ 1048576) (wx : World)
    (hwx : wx = (((((((((((w8.setCell ⟨w.heap.size + 1, 0, none⟩ (.int .i64 o)).setCell ⟨w.heap.size + 1, 1, none⟩ (.string name)).setCell ⟨w.heap.size + 1, 2, none⟩ (.int .i64 a)).setCell ⟨w.heap.size + 1, 3, none⟩ (.int .i64 0)).setCell ⟨w.heap.size + 1, 4, none⟩ (.slice none 0 0)).setCell ⟨w.heap.size + 1, 5, none⟩ (.int .i64 x.op)).setCell ⟨w.heap.size + 1, 6, none⟩ (.string x.name)).setCell ⟨w.heap.size + 1, 7, none⟩ (.int .i64 x.n)).setCell ⟨w.heap.size + 1, 8, none⟩ (.slice aC lC cC)).setCell ⟨w.heap.size + 1, 9, none⟩ (.slice aK lK cK)).setCell ⟨w.heap.size + 1, 10, none⟩ (.slice none 0 0)).setCell ⟨w.heap.size + 1, 11, none⟩ (.slice none 0 0)) :
    StMid W P B cap ws j op n (.mk o name a 0 [] x [] []) w wx := by
  obtain ⟨hT9, k9⟩ := set12 hT _ _ _ _ _ _ _ _ _ _ _ _ wx hwx
  have hy : ∀ y, y ∈ [w.heap.size + 1] → y = w.heap.size + 1 := fun y hy => by simpa using hy
  exact ⟨o, name, a, x, aC, aK, lC, cC, lK, cK, rfl, hT9, ⟨o, name, a, x, aC, aK, lC, cC, lK, cK, rfl, rfl, ho, ha, hnm, hR.keep k9 (fun y h => by rw [hy y h]; omega) hlo⟩, (k9.block _ (lt_of_block hN) (by simp)).trans hN, hk.old k9 (fun y h => .inr (by rw [hy y h]; omega)), h8.kept k9 (fun y h => by rw [hy y h]; omega)⟩
inductive StmtCase (W : World) (P B cap : Nat) (ws : List ByteArray) (i op n : Nat) : FS → Nat → Prop
  | set (s : ByteArray) (x : XE) (j : Nat) (hs : ws[i]? = some s) (hn : IsNm s) (hsz : s.size ≤ 100) (h1 : (s.toList == (⟨#[115, 119, 105, 116, 99, 104]⟩ : ByteArray).toList) = false) (h2 : (s.toList == (⟨#[109]⟩ : ByteArray).toList) = false) (h3 : (s.toList == (⟨#[114, 101, 115, 101, 116]⟩ : ByteArray).toList) = false) (h4 : (s.toList == [40]) = false)
      (he : ws[i + 1]? = some ⟨#[61]⟩) (hx : EC W P B cap ws (i + 1 + 1) j op n x) : StmtCase W P B cap ws i op n (.mk 1 s 0 0 [] x [] []) j
  | keep (s : ByteArray) (k : Nat) (x : XE) (j : Nat) (h0 : ws[i]? = some ⟨#[109]⟩) (h1 : ws[i + 1]? = some ⟨#[91]⟩) (hs : ws[i + 1 + 1]? = some s) (h2 : ws[i + 1 + 1 + 1]? = some ⟨#[93]⟩) (hk : k < 100) (hp : Lib.parseIntB 64 s.data.toList = .ok k) (hf : (⟨(Lib.decDigits k).toArray⟩ : ByteArray) = s) (hsz : s.size ≤ 100)
      (he : ws[i + 1 + 1 + 1 + 1]? = some ⟨#[61]⟩) (hx : EC W P B cap ws (i + 1 + 1 + 1 + 1 + 1) j op n x) : StmtCase W P B cap ws i op n (.mk 2 ⟨#[]⟩ k 0 [] x [] []) j
set_option maxRecDepth 100000 in
set_option maxHeartbeats 2000000 in
theorem stmt_core {W w : World} {P B cap : Nat} {ws : List ByteArray} {i op n : Nat} (h : PS W w P B cap ws i op) {s : FS} {j : Nat} (hc : StmtCase W P B cap ws i op n s j) (hj : ws[j]? = some ⟨#[59]⟩) :
    Calls Tryz.prog 81 #[.pointer (some ⟨P, 0, none⟩)] w (StmtP W P B cap ws (j + 1) op n s w) := by
  have HH := Lib.hid h
  have HC := Lib.hid hc
  have hPl := lt_of_block h.hP
  have hBl := h.Blt
  clear h hc
  obtain ⟨w1, hw1⟩ : ∃ w1, w1 = (w.alloc (Obj.cells zeroS 88)).alloc (Obj.cells zeroS 88) := ⟨_, rfl⟩
  have s1 : (w.alloc (Obj.cells zeroS 88)).heap.size = w.heap.size + 1 := by simp
  have hb1 : Below w.heap.size w w1 := by rw [hw1]; exact ((Below.refl _ _).alloc (Nat.le_refl _) _).alloc (by rw [s1]; omega) _
  have hN1 : w1.heap[w.heap.size]? = some (.cells zeroS 88 (0, 0)) := by rw [hw1, heap_alloc_lt (by rw [s1]; omega)]; exact heap_alloc_at _ _
  have hT1 : w1.heap[w.heap.size + 1]? = some (.cells zeroS 88 (0, 0)) := by rw [hw1, ← s1]; exact heap_alloc_at _ _
  have HS1 := Lib.hid (HH.out.on hb1)
  have HB1 := Lib.hid hb1
  have HN1 := Lib.hid hN1
  have HT1 := Lib.hid hT1
  have hl1 := lt_of_block hN1
  have hl1t := lt_of_block hT1
  clear hb1 hN1 hT1 s1
  go_enter Tryz.func81, Tryz.ntmps81
  go_upto_region 1 with fail
  go_step
  go_step
  go_step
  go_step
  go_step
  go_step
  go_step
  go_step
  rw [← hw1]
  clear hw1
  go_cut [] from 4 to 57 (fun wx => StMid W P B cap ws j op n s w wx)
  case first =>
    cases HC.out with
    | set s x j hs hn hsz h1 h2 h3 h4 he hx =>
      have HS := Lib.hid hs
      have HNm := Lib.hid hn
      have HE := Lib.hid he
      have HX := Lib.hid hx
      clear hs hn he hx HC
      go_wp2_with fail
      refine (takes_no HS1.out HS.out h1).mono ?_
      rintro e w2 ⟨rfl, n1, rfl⟩
      go_wp2_with fail
      refine (takes_no (HS1.out.on (Below.drewN' (Below.refl _ _) n1)) HS.out h2).mono ?_
      rintro e w2 ⟨rfl, n2, rfl⟩
      go_wp2_with fail
      refine (takes_no (HS1.out.on (Below.drewN' (Below.refl _ _) (n1 + n2))) HS.out h3).mono ?_
      rintro e w2 ⟨rfl, n3, rfl⟩
      go_wp2_with fail
      refine (next_any (HS1.out.on (Below.drewN' (Below.refl _ _) (n1 + n2 + n3))) HS.out).mono ?_
      rintro e w2 ⟨rfl, n4, rfl⟩
      go_wp2_with fail
      refine (name_any (HS1.out.on (Below.drewN' (Below.refl _ _) (n1 + n2 + n3 + n4))) HS.out HNm.out).mono ?_
      rintro e w3 ⟨rfl, hk3, hs3⟩
      have hk3' := (Keep.of_below (S := [P]) (Below.drewN' (Below.refl w1.heap.size w1) (n1 + n2 + n3 + n4))).trans hk3
      have HS3 := Lib.hid hs3
      have HK3 := Lib.hid hk3'
      clear hk3 hs3 hk3'
      go_wp2_with fail
      have hb4 : Below w3.heap.size w3 (w3.alloc (Obj.cells #[Value.string ⟨#[61]⟩] 9)) := (Below.refl _ _).alloc (Nat.le_refl _) _
      refine (want_one (HS3.out.on hb4) HE.out (G := w3.heap.size) (cellB' (heap_alloc_at _ _) 0 rfl)).mono ?_
      rintro e w5 ⟨rfl, hk5, hs5⟩
      have HS5 := Lib.hid hs5
      have HK5 := Lib.hid (HK3.out.trans ((Keep.of_below (S := [P]) hb4).trans hk5))
      clear hb4 hk5 hs5
      go_wp2_with fail
      refine (HX.out w5 HS5.out).mono ?_
      rintro e w8 ⟨⟨aC, lC, cC, aK, lK, cK, rfl, hx8⟩, hk8, hs8⟩
      have hk8' := HK5.out.trans hk8
      have HX8 := Lib.hid hx8
      have HS8 := Lib.hid hs8
      have HN8 := Lib.hid ((hk8'.block _ hl1 (by simp; omega)).trans HN1.out)
      have HT8 := Lib.hid ((hk8'.block _ hl1t (by simp; omega)).trans HT1.out)
      have HK8 := Lib.hid ((Keep.of_below (S := [P]) HB1.out).trans hk8')
      have hz5 := HK5.out.size
      have hl8 := lt_of_block HT8.out
      obtain ⟨⟨y0, y1, y2, y3, y4, y5, y6, y7, y8, y9, y10, y11⟩, q0, q1, q2, q3, q4, q5, q6, q7, q8, q9, q10, q11⟩ := twelve HT8.out
      clear hk8 hs8 hk8' hx8 HS1 HB1 HN1 HT1 HS3 HK3 HS5
      go_wp2_with fail
      go_meet
      case rel =>
        exact st_store (x := x) (o := 1) (a := 0) (name := s) HH.out.geP HH.out.below.size hPl hBl HS8.out HT8.out HN8.out HK8.out aC aK lC cC lK cK HX8.out (by omega) (by unfold I64; omega) (by unfold I64; omega) (by omega) _ rfl
    | keep s k x j h0 h1 hs h2 hk hp hf hsz he hx =>
      have H0 := Lib.hid h0
      have H1 := Lib.hid h1
      have HS := Lib.hid hs
      have H2 := Lib.hid h2
      have HP := Lib.hid hp
      have HF := Lib.hid hf
      have HE := Lib.hid he
      have HX := Lib.hid hx
      clear h0 h1 hs h2 hp hf he hx HC
      go_wp2_with fail
      refine (takes_no HS1.out H0.out (tl_lit (by decide))).mono ?_
      rintro e w2 ⟨rfl, n1, rfl⟩
      go_wp2_with fail
      refine (takes_yes (HS1.out.on (Below.drewN' (Below.refl _ _) n1)) H0.out).mono ?_
      rintro e w3 ⟨rfl, hk3, hs3⟩
      have hk3' := (Keep.of_below (S := [P]) (Below.drewN' (Below.refl w1.heap.size w1) n1)).trans hk3
      have HS3 := Lib.hid hs3
      have HK3 := Lib.hid hk3'
      clear hk3 hs3 hk3'
      go_wp2_with fail
      refine (cell_any HS3.out H1.out HS.out H2.out hk HP.out HF.out hsz).mono ?_
      rintro e w4 ⟨rfl, hk4, hs4⟩
      have HS4 := Lib.hid hs4
      have HK4 := Lib.hid (HK3.out.trans hk4)
      clear hk4 hs4 HS3 HK3
      go_wp2_with fail
      have hb4 : Below w4.heap.size w4 (w4.alloc (Obj.cells #[Value.string ⟨#[61]⟩] 9)) := (Below.refl _ _).alloc (Nat.le_refl _) _
      refine (want_one (HS4.out.on hb4) HE.out (G := w4.heap.size) (cellB' (heap_alloc_at _ _) 0 rfl)).mono ?_
      rintro e w5 ⟨rfl, hk5, hs5⟩
      have HS5 := Lib.hid hs5
      have HK5 := Lib.hid (HK4.out.trans ((Keep.of_below (S := [P]) hb4).trans hk5))
      clear hb4 hk5 hs5
      go_wp2_with fail
      refine (HX.out w5 HS5.out).mono ?_
      rintro e w8 ⟨⟨aC, lC, cC, aK, lK, cK, rfl, hx8⟩, hk8, hs8⟩
      have hk8' := HK5.out.trans hk8
      have HX8 := Lib.hid hx8
      have HS8 := Lib.hid hs8
      have HN8 := Lib.hid ((hk8'.block _ hl1 (by simp; omega)).trans HN1.out)
      have HT8 := Lib.hid ((hk8'.block _ hl1t (by simp; omega)).trans HT1.out)
      have HK8 := Lib.hid ((Keep.of_below (S := [P]) HB1.out).trans hk8')
      have hz5 := HK5.out.size
      have hl8 := lt_of_block HT8.out
      obtain ⟨⟨y0, y1, y2, y3, y4, y5, y6, y7, y8, y9, y10, y11⟩, q0, q1, q2, q3, q4, q5, q6, q7, q8, q9, q10, q11⟩ := twelve HT8.out
      clear hk8 hs8 hk8' hx8 HS1 HB1 HN1 HT1 HK4 HS4 HS5
      go_wp2_with fail
      go_meet
      case rel =>
        exact st_store (x := x) (o := 2) (a := k) (name := ⟨#[]⟩) HH.out.geP HH.out.below.size hPl hBl HS8.out HT8.out HN8.out HK8.out aC aK lC cC lK cK HX8.out (by omega) (by unfold I64; omega) (by unfold I64; omega) (by decide) _ rfl
  case rest =>
    obtain ⟨o, name, a, x, aC, aK, lC, cC, lK, cK, rfl, hT, hR, hN, hk, hs⟩ := hcut
    have HT := Lib.hid hT
    have HR := Lib.hid hR
    have HN := Lib.hid hN
    have HK := Lib.hid hk
    have HS := Lib.hid hs
    have HJ := Lib.hid hj
    have hlT := lt_of_block hT
    have hlN := lt_of_block hN
    clear hT hR hN hk hs hj HC HS1 HB1 HN1 HT1 hl1 hl1t
    go_wp2_with fail
    have hb2 : Below wc.heap.size wc (wc.alloc (Obj.cells #[Value.string ⟨#[59]⟩] 9)) := (Below.refl _ _).alloc (Nat.le_refl _) _
    refine (want_one (HS.out.on hb2) HJ.out (G := wc.heap.size) (cellB' (heap_alloc_at _ _) 0 rfl)).mono ?_
    rintro e w3 ⟨rfl, hk3, hs3⟩
    have hk3' := (Keep.of_below (S := [P]) hb2).trans hk3
    have HK3 := Lib.hid hk3'
    have HS3 := Lib.hid hs3
    have HT3 := Lib.hid ((hk3'.block _ hlT (by simp; omega)).trans HT.out)
    have HN3 := Lib.hid ((hk3'.block _ hlN (by simp; omega)).trans HN.out)
    have hlT3 := lt_of_block HT3.out
    have hlN3 := lt_of_block HN3.out
    clear hb2 hk3 hs3 hk3'
    obtain ⟨⟨y0, y1, y2, y3, y4, y5, y6, y7, y8, y9, y10, y11⟩, -⟩ := twelve HT3.out
    obtain ⟨⟨v0, v1, v2, v3, v4, v5, v6, v7, v8, v9, v10, v11⟩, q0, q1, q2, q3, q4, q5, q6, q7, q8, q9, q10, q11⟩ := twelve HN3.out
    go_wp2_with fail
    obtain ⟨we, hwe⟩ : ∃ we, we = ((((((((((((w3.setCell ⟨w.heap.size, 0, none⟩ (.int .i64 o)).setCell ⟨w.heap.size, 1, none⟩ (.string name)).setCell ⟨w.heap.size, 2, none⟩ (.int .i64 a)).setCell ⟨w.heap.size, 3, none⟩ (.int .i64 0)).setCell ⟨w.heap.size, 4, none⟩ (.slice none 0 0)).setCell ⟨w.heap.size, 5, none⟩ (.int .i64 x.op)).setCell ⟨w.heap.size, 6, none⟩ (.string x.name)).setCell ⟨w.heap.size, 7, none⟩ (.int .i64 x.n)).setCell ⟨w.heap.size, 8, none⟩ (.slice aC lC cC)).setCell ⟨w.heap.size, 9, none⟩ (.slice aK lK cK)).setCell ⟨w.heap.size, 10, none⟩ (.slice none 0 0)).setCell ⟨w.heap.size, 11, none⟩ (.slice none 0 0)) := ⟨_, rfl⟩
    rw [← hwe]
    obtain ⟨hN4, k4⟩ := set12 HN3.out _ _ _ _ _ _ _ _ _ _ _ _ we hwe
    have hy : ∀ y, y ∈ [w.heap.size] → y = w.heap.size := fun y hy => by simpa using hy
    obtain ⟨⟨v0', v1', v2', v3', v4', v5', v6', v7', v8', v9', v10', v11'⟩, -⟩ := twelve hN4
    clear hwe y0 y1 y2 y3 y4 y5 y6 y7 y8 y9 y10 y11 v0 v1 v2 v3 v4 v5 v6 v7 v8 v9 v10 v11 q0 q1 q2 q3 q4 q5 q6 q7 q8 q9 q10 q11
    refine bodyPost_ret (v := .agg (stC o name a x aC aK lC cC lK cK).toArray) ?_ rfl ?_
    · simp [results, Tryz.results81, go_sem, stC, v0', v1', v2', v3', v4', v5', v6', v7', v8', v9', v10', v11']
    · exact ⟨⟨o, name, a, x, aC, aK, lC, cC, lK, cK, rfl, rfl, (HR.out.keep HK3.out (fun y hy => by rw [List.mem_singleton.1 hy]; omega) (Nat.le_refl _)).keep k4 (fun y h => by rw [hy y h]; omega) (by omega)⟩, (HK.out.trans HK3.out).old k4 (fun y h => .inr (by rw [hy y h]; omega)), HS3.out.kept k4 (fun y h => by
        have := HH.out.geP
        have := HH.out.below.size
        rw [hy y h]; omega)⟩
end Go.Proofs.YtoaajpppbjaomaaGreatDoor
/- The parser of flat texts: a block of statements. -/
namespace Go.Proofs.YtoaajpppbjaomaaGreatDoor
open Go.RowKit
/-- append of one element of whatever type to a slice that the call owns: its block stays, or it is a new one -/
theorem run_append_one {w : World} {ty sl el : TypeId} {z : Value} {size bytes : Nat} (hu : Tryz.prog.underlying sl = some (.slice el)) (hinfo : (Tryz.prog.info? el).map (fun i => (i.zero, i.size, i.bytes)) = some (some z, size, bytes)) (hzs : z.cells.size = size) (hsz0 : 0 < size) (hbb : bytes ≤ 1000)
    (base : Nat) (v : Value) (n : Nat) (xs : List Value) (hown : w.ownsRow base el size v n xs) (ad : Addr) (news : List Value) (hl : news.length = size) (hnews : ∀ j u, news[j]? = some u → w.cell? (ad.add j) = some u) (h1 : ∀ u ∈ news, u.oneCell' = true) (hn : n ≤ 1048576) (hbase : base ≤ w.heap.size) :
    ∃ v' w', (Builtin.append_ #[sl, sl] ty #[v, .slice (some ad) 1 1]).run Tryz.prog w = .ok v' w' ∧ w'.ownsRow base el size v' (n + 1) (xs ++ news) ∧ w.grownBy w' v.ownBlock ∧ (∀ k, v'.ownBlock = some k → v.ownBlock = some k ∨ w.heap.size ≤ k) := by
  obtain ⟨i, hi, hzz⟩ := Option.map_eq_some_iff.1 hinfo
  simp only [Prod.mk.injEq] at hzz
  obtain ⟨hz, hsz, hb⟩ := hzz
  have hb1 : (n + 1) * bytes ≤ 140737488355328 := by
    have : (n + 1) * bytes ≤ 1048577 * 1000 := Nat.mul_le_mul (by omega) hbb
    omega
  obtain ⟨v', w', hr, h2, h3, _⟩ := run_append_own (P := Tryz.prog) w base sl ty el i z size bytes hu hi hz hsz hb hzs hsz0 v n xs hown ad 1 1 news (by omega) hnews h1 (by unfold maxLen; omega) hb1 hbase
  refine ⟨v', w', hr, h2, h3, ?_⟩
  rcases hown.2 with ⟨rfl, rfl⟩ | ⟨g, cap, cur, rfl, hbg, hg, hnc, hcm, hcs, htake⟩
  · have hr' := run_append_nil (P := Tryz.prog) w sl ty el i z hu hi hz ad 1 1 news (by rw [hsz]; omega) hnews (by omega) (by omega) (by rw [hb]; omega)
    have e := hr.symm.trans hr'
    injection e with e1 e2
    subst e1
    intro k hk
    simp only [Value.ownBlock, Option.some.injEq] at hk
    exact .inr (by omega)
  · by_cases hroom : n + 1 ≤ cap
    · have hr' := run_append_room (P := Tryz.prog) w sl ty el i hu hi g n cap cur hg ad 1 1 news (by rw [hsz]; omega) hnews h1 hroom (by
        rw [hsz, hcs, hl]
        have := Nat.mul_le_mul_right size hroom
        rw [Nat.add_mul] at this
        omega)
      have e := hr.symm.trans hr'
      injection e with e1 e2
      subst e1
      intro k hk
      exact .inl hk
    · have holds : ∀ j u, xs[j]? = some u → w.cell? ((⟨g, 0, none⟩ : Addr).add j) = some u := hown.cells (g := g) rfl
      have hr' := run_append_grow (P := Tryz.prog) w sl ty el i z hu hi hz ⟨g, 0, none⟩ n cap xs (by rw [hsz]; exact hown.1) holds ad 1 1 news (by rw [hsz]; omega) hnews (by omega) (by omega) (growslice_fits (by omega) (by rw [hb]; exact hb1))
      have e := hr.symm.trans hr'
      injection e with e1 e2
      subst e1
      intro k hk
      simp only [Value.ownBlock, Option.some.injEq] at hk
      exact .inr (by omega)
theorem step_append_one {ops : Array Oper} {o : Oper} {a : Act} {w : World} {K : Act → World → Prop} {Q : Exit → Act → World → Prop} {E : Prop} (hg : o.guard = none) (s x : Operand) {sl el : TypeId}
    (ho : o.op = .call { callee := .builtin .append, args := #[s, x], argTypes := #[sl, sl] }) {z : Value} {size bytes : Nat} (hu : Tryz.prog.underlying sl = some (.slice el)) (hinfo : (Tryz.prog.info? el).map (fun i => (i.zero, i.size, i.bytes)) = some (some z, size, bytes)) (hzs : z.cells.size = size) (hsz0 : 0 < size) (hbb : bytes ≤ 1000)
    (base : Nat) (v : Value) (n : Nat) (xs : List Value) (hs : a.eval s = v) (hown : w.ownsRow base el size v n xs) (ad : Addr) (news : List Value) (hx : a.eval x = .slice (some ad) 1 1) (hl : news.length = size) (hnews : ∀ j u, news[j]? = some u → w.cell? (ad.add j) = some u) (h1 : ∀ u ∈ news, u.oneCell' = true) (hn : n ≤ 1048576) (hbase : base ≤ w.heap.size)
    (h : ∀ v' w', w'.ownsRow base el size v' (n + 1) (xs ++ news) → w.grownBy w' v.ownBlock → (∀ k, v'.ownBlock = some k → v.ownBlock = some k ∨ w.heap.size ≤ k) → K (a.put o.dst v') w') :
    if Region.wanted o (yielded ops a.tmps) = true then Oper.wp Tryz.prog o a w K Q else E := by
  have hw : Region.wanted o (yielded ops a.tmps) = true := by simp [Region.wanted, hg]
  rw [if_pos hw]
  obtain ⟨v', w', hr, h2, h3, h4⟩ := run_append_one (ty := o.type) hu hinfo hzs hsz0 hbb base v n xs hown ad news hl hnews h1 hn hbase
  unfold Oper.wp execOp
  simp only [ho, resolve, invoke, builtin, Sem.run_bind, Sem.run_pure, Result.andThen_ok, List.map_toArray, List.map_cons, List.map_nil, hs, hx, hr]
  exact h v' w' h2 h3 h4
theorem Tryz.infoSt : (Tryz.prog.info? 88).map (fun i => (i.zero, i.size, i.bytes)) = some (some (.agg zeroS), 12, 192) := by kernel_rfl
theorem news_at (w : World) (l : List Value) (t : TypeId) : ∀ (j : Nat) u, l[j]? = some u → (w.alloc (.cells l.toArray t)).cell? ((⟨w.heap.size, 0, none⟩ : Addr).add j) = some u := by
  intro j u hj
  have h := cellB' (heap_alloc_at w (.cells l.toArray t)) j (v := u) (by simpa using hj)
  rcases Nat.eq_zero_or_pos j with rfl | hp
  · simpa [Addr.add] using h
  · have hj0 : j ≠ 0 := by omega
    simpa [Addr.add, hj0] using h
theorem own_slice {w : World} {B : Nat} {e : TypeId} {sz : Nat} {v : Value} {n : Nat} {xs : List Value} (h : w.ownsRow B e sz v n xs) : ∃ A c, v = .slice A n c ∧ n ≤ c ∧ c ≤ 9223372036854775807 := by
  rcases h.2 with ⟨rfl, rfl⟩ | ⟨g, cap, cur, rfl, _, _, h1, h2, _⟩
  · exact ⟨_, _, rfl, by omega, by omega⟩
  · exact ⟨_, _, rfl, h1, by unfold maxLen at h2; omega⟩
theorem stC_one (o : Int) (name : ByteArray) (a : Int) (x : XE) (aC aK : Option Addr) (lC cC lK cK : Nat) : ∀ u ∈ stC o name a x aC aK lC cC lK cK, u.oneCell' = true := by
  intro u hu
  simp only [stC, List.mem_cons, List.mem_nil_iff, or_false] at hu
  rcases hu with rfl | rfl | rfl | rfl | rfl | rfl | rfl | rfl | rfl | rfl | rfl | rfl <;> rfl
/-- a block under way: the statements so far -/
structure BlkSt (W w : World) (P B cap : Nat) (ws : List ByteArray) (at_ op n L0 PB B0 : Nat) (ss : List FS) : Prop where
  ps : PS W w P B cap ws at_ op
  pb : w.heap[PB]? = some (.cells #[.pointer (some ⟨P, 0, none⟩)] 77 (0, 0))
  PBP : PB ≠ P
  LP : L0 ≠ P
  PBL : PB ≠ L0
  PBlt : PB < B0
  L0lt : L0 < B0
  Plt : P < B0
  Blt : B < B0
  geL : W.heap.size ≤ L0
  LB : L0 ≠ B
  B0le : B0 ≤ w.heap.size
  own : ∃ (v : Value) (css : List (List Value)), w.heap[L0]? = some (.cells #[v] 48 (0, 0)) ∧ w.ownsRow B0 88 12 v ss.length css.flatten ∧ css.length = ss.length ∧ (∀ c, c ∈ css → c.length = 12) ∧ ∀ (j : Nat) s cs, ss[j]? = some s → css[j]? = some cs → RepSl w B0 n s cs
/-- a statement stands here, and the parser takes it -/
def SC (W : World) (P B cap : Nat) (ws : List ByteArray) (i j op n : Nat) (s : FS) : Prop := ∀ w, PS W w P B cap ws i op → Calls Tryz.prog 81 #[.pointer (some ⟨P, 0, none⟩)] w (StmtP W P B cap ws j op n s w)
structure BlkP (W : World) (P B cap : Nat) (ws : List ByteArray) (at_ op n L0 PB B0 : Nat) (ss : List FS) (w : World) (e : Ending) (w' : World) : Prop where
  ret : e = .returned (.tuple #[])
  keep : ∀ k, k < B0 → k ≠ P → k ≠ L0 → w'.heap[k]? = w.heap[k]?
  size : w.heap.size ≤ w'.heap.size
  st : BlkSt W w' P B cap ws at_ op n L0 PB B0 ss
theorem RepSl.same {w w' : World} {lo lo' n : Nat} (hk : SameX lo w w') (hlo : lo' ≤ lo) {s : FS} {cs : List Value} (h : RepSl w lo n s cs) : RepSl w' lo' n s cs := by
  obtain ⟨op, name, at_, x, aC, aK, lC, cC, lK, cK, h1, h2, h3, h4, h5, h6⟩ := h
  exact ⟨op, name, at_, x, aC, aK, lC, cC, lK, cK, h1, h2, h3, h4, h5, h6.same hk hlo⟩
theorem SameX.trans {lo : Nat} {a b c : World} (h : SameX lo a b) (k : SameX lo b c) : SameX lo a c := fun x arr z hx hh => (k x arr z hx ((h x arr z hx hh).trans hh)).trans (h x arr z hx hh)
theorem SameX.mono {lo lo' : Nat} {a b : World} (h : SameX lo a b) (hl : lo ≤ lo') : SameX lo' a b := fun x arr z hx hh => h x arr z (by omega) hh
theorem keep_of_grown {w w' : World} {row : Option Nat} (h : w.grownBy w' row) : Keep row.toList w w' := ⟨h.os, h.tape, h.output, h.size, fun k hk hn => h.block k hk (fun e => hn (by rw [← e]; simp))⟩
theorem blk_end {W w w2 w' : World} {P B cap : Nat} {ws : List ByteArray} {i j op n L0 PB B0 : Nat} {ss : List FS} {s : FS} {v v' : Value} {css : List (List Value)} {st : List Value} (h : BlkSt W w P B cap ws i op n L0 PB B0 ss) (hL : w.heap[L0]? = some (.cells #[v] 48 (0, 0)))
    (hown : w.ownsRow B0 88 12 v ss.length css.flatten) (hcl : css.length = ss.length) (hc12 : ∀ c, c ∈ css → c.length = 12) (hreps : ∀ (j : Nat) s cs, ss[j]? = some s → css[j]? = some cs → RepSl w B0 n s cs)
    (hk : Keep [P] w.drew w2) (hps : PS W w2 P B cap ws j op) (hst : st.length = 12) (hR : RepSl w2 w.drew.heap.size n s st) (hown' : w'.ownsRow B0 88 12 v' (ss.length + 1) (css.flatten ++ st)) (hgr : (w2.alloc (.cells st.toArray 88)).grownBy w' v.ownBlock) :
    BlkP W P B cap ws j op n L0 PB B0 (ss ++ [s]) w (.returned (.tuple #[])) (w'.setCell ⟨L0, 0, none⟩ v') := by
  have hB0 := h.B0le
  have hrow : ∀ x, x ∈ v.ownBlock.toList → B0 ≤ x := fun x hx => (hown.lt x (by simpa using hx)).1
  have k1 : Keep [P] w w2 := (Keep.of_below (Below.refl w.heap.size w).drew).trans hk
  have ka : Keep ([] : List Nat) w2 (w2.alloc (.cells st.toArray 88)) := (Keep.refl _ _).alloc _
  have kg := keep_of_grown hgr
  have ks : Keep [L0] w' (w'.setCell ⟨L0, 0, none⟩ v') := (Keep.refl _ _).setCell (.inl (by simp)) _
  have hwW := h.ps.below.size
  have hs1 := k1.size
  have hs2 := ka.size
  have hs3 := kg.size
  have hs4 := ks.size
  have hg := h.geL
  have hPlt := h.Plt
  have hBlt := h.Blt
  have hLB := h.L0lt
  have hPBB := h.PBlt
  have pa := hps.kept ka (fun x hx => by cases hx)
  have hge : W.heap.size ≤ B0 := by have := h.geL; omega
  have pg := pa.kept kg (fun x hx => by have := hrow x hx; omega)
  have pf := pg.kept ks (fun x hx => by
    rw [List.mem_singleton.1 hx]; exact ⟨hg, h.LP, h.LB⟩)
  have hlow : ∀ x, x < B0 → x ≠ P → x ≠ L0 → (w'.setCell ⟨L0, 0, none⟩ v').heap[x]? = w.heap[x]? := fun x hx h1 h2 =>
    (heap_setCell_ne 0 v' h2).trans (((kg.block x (by omega) (fun hm => by have := hrow x hm; omega)).trans (ka.block x (by omega) (by simp))).trans (k1.block x (by omega) (by simpa using h1)))
  have hL' : w'.heap[L0]? = some (.cells #[v] 48 (0, 0)) := ((kg.block L0 (by omega) (fun hm => by have := hrow L0 hm; omega)).trans (ka.block L0 (by omega) (by simp))).trans ((k1.block L0 (by omega) (by simpa using h.LP)).trans hL)
  have sm1 : SameX B0 w w2 := .of_keep k1 (fun x hx => by rw [List.mem_singleton.1 hx]; exact hPlt)
  have sma : SameX B0 w2 (w2.alloc (.cells st.toArray 88)) := .of_keep ka (fun x hx => by cases hx)
  have hownA : (w2.alloc (.cells st.toArray 88)).ownsRow B0 88 12 v ss.length css.flatten := (own_keep hown k1 (fun x hx => by rw [List.mem_singleton.1 hx]; exact hPlt)).alloc _
  have smg : SameX B0 (w2.alloc (.cells st.toArray 88)) w' := fun b arr z hb hh => hgr.block b (lt_of_block hh) (fun e => by
    rcases hownA.2 with ⟨rfl, _⟩ | ⟨g, cap', cur, rfl, _, hg', _⟩
    · simp [Value.ownBlock] at e
    · simp only [Value.ownBlock, Option.some.injEq] at e
      subst e
      rw [hh] at hg'
      injection hg' with hg'
      injection hg' with _ hg' _
      exact absurd hg' (by decide))
  have sms : SameX B0 w' (w'.setCell ⟨L0, 0, none⟩ v') := .of_keep ks (fun x hx => by rw [List.mem_singleton.1 hx]; exact hLB)
  have smAll := ((sm1.trans sma).trans smg).trans sms
  have smNew := (sma.trans smg).trans sms
  refine ⟨rfl, hlow, by omega, ⟨pf, (hlow PB hPBB h.PBP h.PBL).trans h.pb, h.PBP, h.LP, h.PBL, hPBB, hLB, hPlt, hBlt, hg, h.LB, by omega, v', css ++ [st], ?_, ?_, ?_, ?_, ?_⟩⟩
  · rw [heap_setCell_eq hL']; rfl
  · have := own_keep hown' ks (fun x hx => by rw [List.mem_singleton.1 hx]; exact hLB)
    simpa using this
  · simp [hcl]
  · intro c hc
    rcases List.mem_append.1 hc with hc | hc
    · exact hc12 c hc
    · simp at hc; subst hc; exact hst
  · intro j' s' cs' h1 h2
    rcases Nat.lt_or_ge j' ss.length with hjl | hjl
    · rw [List.getElem?_append_left hjl] at h1
      rw [List.getElem?_append_left (by omega)] at h2
      exact (hreps j' s' cs' h1 h2).same smAll (Nat.le_refl _)
    · rw [List.getElem?_append_right hjl] at h1
      rw [List.getElem?_append_right (by omega), hcl] at h2
      obtain rfl : j' = ss.length := by
        rcases Nat.eq_zero_or_pos (j' - ss.length) with hz | hz
        · omega
        · have : ([s] : List FS)[j' - ss.length]? = none := List.getElem?_eq_none (by simp; omega)
          rw [this] at h1; cases h1
      simp at h1 h2
      subst h1 h2
      exact (hR.same (smNew.mono (by show B0 ≤ w.drew.heap.size; exact hB0)) (by exact hB0))
set_option maxRecDepth 100000 in
set_option maxHeartbeats 2000000 in
theorem block1_any {W w : World} {P B cap : Nat} {ws : List ByteArray} {i j op n L0 PB B0 : Nat} {ss : List FS} {s : FS} (h : BlkSt W w P B cap ws i op n L0 PB B0 ss) (hl : ss.length ≤ 1000) (hs : SC W P B cap ws i j op n s) :
    Calls Tryz.prog 80 #[.pointer (some ⟨L0, 0, none⟩), .pointer (some ⟨PB, 0, none⟩)] w (BlkP W P B cap ws j op n L0 PB B0 (ss ++ [s]) w) := by
  obtain ⟨v, css, hL, hown, hcl, hc12, hreps⟩ := h.own
  have HH := Lib.hid h
  have HS := Lib.hid hs
  have HL := Lib.hid hL
  have HOWN := Lib.hid hown
  have HREPS := Lib.hid hreps
  have l0 := cellB' hL 0 rfl
  have zl := frozB hL 0
  have hLl := lt_of_block hL
  have b0 := cellB' h.pb 0 rfl
  have hPl := lt_of_block h.pb
  have hPS := Lib.hid (h.ps.on (Below.refl w.heap.size w).drew)
  have hB0 := h.B0le
  have hLB := h.L0lt
  have hPBB := h.PBlt
  have hPB0 := h.Plt
  have hne1 := h.LP
  clear h hs hL hown hreps
  go_enter Tryz.func80, Tryz.ntmps80
  go_region_law (first
    | (go_simp; go_at_call 81; refine (HS.out _ hPS.out).mono ?_; rintro e w2 ⟨⟨o, name, a, x, aC, aK, lC, cC, lK, cK, rfl, rfl, hR⟩, hk, hps⟩; have l0' := (World.cell?_of_block (w := w) (hk.block L0 hLl (by simpa using hne1))).trans l0; have hL2l : L0 < w2.heap.size := Nat.lt_of_lt_of_le hLl hk.size; have HR := Lib.hid hR; have HK := Lib.hid hk; have HPS := Lib.hid hps; clear hR hk hps; simp only [stC]; go_simp)
    | (refine step_append_one rfl (.tmp 2) (.tmp 5) rfl Tryz.underlying48 Tryz.infoSt rfl (by decide) (by decide) B0 v ss.length css.flatten rfl ((own_keep HOWN.out (S := [P]) ((Keep.of_below (Below.refl w.heap.size w).drew).trans HK.out) (fun y hy => by rw [List.mem_singleton.1 hy]; omega)).alloc _) ⟨w2.heap.size, 0, none⟩ (stC o name a x aC aK lC cC lK cK) rfl rfl (news_at w2 _ _) (stC_one _ _ _ _ _ _ _ _ _ _) (by omega) (by have := HK.out.size; simp at this ⊢; omega) ?_; intro v' w' hown' hgr hfr; obtain ⟨A', c', hv', -⟩ := own_slice hown'; subst hv'; have hLr : some L0 ≠ v.ownBlock := (fun e => by have := (HOWN.out.lt L0 e.symm).1; omega); have hbL := (hgr.block L0 (by have := HK.out.size; simp at this ⊢; omega) hLr).trans ((heap_alloc_lt (by have := HK.out.size; simp at this ⊢; omega)).trans ((HK.out.block L0 hLl (by simpa using hne1)).trans HL.out)); have l3 := cellB' hbL 0 rfl; have z3 := frozB hbL 0; have HG := Lib.hid hgr; have HO := Lib.hid hown'; have HFR := Lib.hid hfr; have HBL := Lib.hid hbL; clear hgr hown' hfr hbL))
  all_goals
    go_end0
    exact blk_end (st := stC o name a x aC aK lC cC lK cK) HH.out HL.out HOWN.out hcl hc12 HREPS.out HK.out HPS.out rfl HR.out HO.out HG.out
end Go.Proofs.YtoaajpppbjaomaaGreatDoor
/- The parser of flat texts: till over a block, block. -/
namespace Go.Proofs.YtoaajpppbjaomaaGreatDoor
open Go.RowKit
/-- statements one behind the other -/
inductive Chain (W : World) (P B cap : Nat) (ws : List ByteArray) (op n : Nat) : Nat → List FS → Nat → Prop
  | nil (j : Nat) : Chain W P B cap ws op n j [] j
  | cons (i k j : Nat) (s : FS) (l : List FS) (t : ByteArray) (ht : ws[i]? = some t) (hne : (t.toList == [125]) = false) (hik : i < k) (hs : SC W P B cap ws i k op n s) (hl : Chain W P B cap ws op n k l j) : Chain W P B cap ws op n i (s :: l) j
def TillRel (W : World) (P B cap : Nat) (ws : List ByteArray) (op n L0 PB B0 : Nat) (l : List FS) (j : Nat) (w wr : World) : Prop :=
  ∃ (k : Nat) (l1 l2 : List FS), l = l1 ++ l2 ∧ BlkSt W wr P B cap ws k op n L0 PB B0 l1 ∧ Chain W P B cap ws op n k l2 j ∧ (∀ x, x < B0 → x ≠ P → x ≠ L0 → wr.heap[x]? = w.heap[x]?) ∧ w.heap.size ≤ wr.heap.size
theorem BlkSt.on {W w w' : World} {P B cap : Nat} {ws : List ByteArray} {i op n L0 PB B0 : Nat} {ss : List FS} (h : BlkSt W w P B cap ws i op n L0 PB B0 ss) (hb : Below w.heap.size w w') : BlkSt W w' P B cap ws i op n L0 PB B0 ss := by
  obtain ⟨v, css, h1, h2, h3, h4, h5⟩ := h.own
  have hs := hb.size
  have h0 := h.B0le
  exact { h with
    ps := h.ps.on hb
    pb := (hb.block _ (lt_of_block h.pb)).trans h.pb
    B0le := by omega
    own := ⟨v, css, (hb.block _ (lt_of_block h1)).trans h1, own_keep h2 (S := []) (Keep.of_below hb) (fun x hx => by cases hx), h3, h4, fun j s cs a b => (h5 j s cs a b).keep (S := []) (Keep.of_below hb) (fun x hx => by cases hx) (Nat.le_refl _)⟩ }
theorem BlkSt.kp {W w w' : World} {P B cap : Nat} {ws : List ByteArray} {i i' op op' n L0 PB B0 : Nat} {ss : List FS} (h : BlkSt W w P B cap ws i op n L0 PB B0 ss) (hk : Keep [P] w w') (hp : PS W w' P B cap ws i' op') : BlkSt W w' P B cap ws i' op' n L0 PB B0 ss := by
  obtain ⟨v, css, h1, h2, h3, h4, h5⟩ := h.own
  have hs := hk.size
  have h0 := h.B0le
  have hP : ∀ x, x ∈ [P] → x < B0 := fun x hx => by rw [List.mem_singleton.1 hx]; exact h.Plt
  exact { h with
    ps := hp
    pb := (hk.block _ (lt_of_block h.pb) (by simpa using h.PBP)).trans h.pb
    B0le := by omega
    own := ⟨v, css, (hk.block _ (lt_of_block h1) (by simpa using h.LP)).trans h1, own_keep h2 hk hP, h3, h4, fun j s cs a b => (h5 j s cs a b).keep hk hP (Nat.le_refl _)⟩ }
set_option maxRecDepth 100000 in
set_option maxHeartbeats 1000000 in
theorem till_blk {W w : World} {P B cap : Nat} {ws : List ByteArray} {i j op n L0 PB B0 : Nat} {l : List FS} (h : BlkSt W w P B cap ws i op n L0 PB B0 []) (h0 : ws[i]? = some ⟨#[123]⟩) (hc : Chain W P B cap ws op n (i + 1) l j) (h1 : ws[j]? = some ⟨#[125]⟩) (hll : l.length ≤ 1000) :
    Calls Tryz.prog 51 #[.pointer (some ⟨P, 0, none⟩), .func (.func 80) #[] #[.pointer (some ⟨L0, 0, none⟩), .pointer (some ⟨PB, 0, none⟩)]] w (BlkP W P B cap ws (j + 1) op n L0 PB B0 l w) := by
  have HH := Lib.hid h
  have H0 := Lib.hid h0
  have H1 := Lib.hid h1
  have HC := Lib.hid hc
  have hPlt := h.Plt
  have hB0 := h.B0le
  clear h h0 h1 hc
  go_enter Tryz.func51, Tryz.ntmps51
  go_wp2_with fail
  have hb2 : Below w.heap.size w (w.alloc (Obj.cells #[Value.string ⟨#[123]⟩] 9)) := (Below.refl _ _).alloc (Nat.le_refl _) _
  refine (want_one (HH.out.ps.on hb2) H0.out (G := w.heap.size) (cellB' (heap_alloc_at _ _) 0 rfl)).mono ?_
  rintro e w2 ⟨rfl, hk2, hs2⟩
  have hk2' := (Keep.of_below (S := [P]) hb2).trans hk2
  have HB2 := Lib.hid (HH.out.kp hk2' hs2)
  have HK2 := Lib.hid hk2'
  clear hb2 hk2 hs2 hk2'
  go_wp2_with fail
  go_loopw [] (fun wr => TillRel W P B cap ws op n L0 PB B0 l j w wr) (fun wr => ws.length - (intOf ((wr.cell? ⟨P, 1, none⟩).getD undef)).toNat)
  case atStart => exact ⟨i + 1, [], l, rfl, HB2.out, HC.out, fun x hx h1 _ => HK2.out.block x (by omega) (by simpa using h1), HK2.out.size⟩
  case round =>
    obtain ⟨k, l1, l2, hl, hst, hch, hlow, hsz⟩ := hrel
    have HST := Lib.hid hst
    have HLOW := Lib.hid hlow
    have hat : (wr.cell? ⟨P, 1, none⟩).getD undef = .int .i64 (k : Nat) := by rw [hst.ps.c1]; rfl
    have HAT := Lib.hid hat
    have hkl := hst.ps.ats
    clear hst hlow hat
    cases hch with
    | nil =>
      rw [List.append_nil] at hl
      subst hl
      have e1 : (({ data := #[125] } : ByteArray).toList == [125]) = true := by rw [ByteArray.toList_eq]; rfl
      go_wp2_with fail
      refine (next_any HST.out.ps H1.out).mono ?_
      rintro e w3 ⟨rfl, n3, rfl⟩
      go_wp2_with fail
      have hb3 : Below wr.heap.size wr (wr.drewN n3) := Below.drewN' (Below.refl _ _) n3
      have hb4 : Below wr.heap.size wr ((wr.drewN n3).alloc (Obj.cells #[Value.string ⟨#[125]⟩] 9)) := hb3.alloc (Nat.le_refl _) _
      refine (want_one (HST.out.ps.on hb4) H1.out (G := wr.heap.size) (cellB' (heap_alloc_at (wr.drewN n3) _) 0 rfl)).mono ?_
      rintro e w5 ⟨rfl, hk5, hs5⟩
      have hk5' := (Keep.of_below (S := [P]) hb4).trans hk5
      have HB5 := Lib.hid (HST.out.kp hk5' hs5)
      have HK5 := Lib.hid hk5'
      clear hb3 hb4 hk5 hs5 hk5'
      go_wp2_with fail
      go_end0
      exact ⟨rfl, fun x hx h1 h2 => (HK5.out.block x (by omega) (by simpa using h1)).trans (HLOW.out x hx h1 h2), by have := HK5.out.size; omega, HB5.out⟩
    | cons _ k2 _ s' l' t ht hne hik hs' hl' =>
      have HT := Lib.hid ht
      have HS := Lib.hid hs'
      have HL' := Lib.hid hl'
      have hl1 : l1.length ≤ 1000 := by rw [hl] at hll; simp at hll; omega
      clear ht hs' hl'
      go_wp2_with fail
      refine (next_any HST.out.ps HT.out).mono ?_
      rintro e w3 ⟨rfl, n3, rfl⟩
      go_wp2_with fail
      refine (block1_any (HST.out.on (Below.drewN' (Below.refl _ _) n3)) hl1 HS.out).mono ?_
      rintro e w4 ⟨rfl, hkp, hsz4, hst4⟩
      have HST4 := Lib.hid hst4
      have HKP := Lib.hid hkp
      have hat4 : (w4.cell? ⟨P, 1, none⟩).getD undef = .int .i64 (k2 : Nat) := by rw [hst4.ps.c1]; rfl
      have hk2l := hst4.ps.ats
      have HAT4 := Lib.hid hat4
      clear hst4 hkp hat4
      go_wp2_with fail
      refine ⟨⟨k2, l1 ++ [s'], l', by rw [hl]; simp, HST4.out, HL'.out, fun x hx h1 h2 => (HKP.out x hx h1 h2).trans (HLOW.out x hx h1 h2), by simp at hsz4; omega⟩, ?_⟩
      rw [HAT4.out, HAT.out]
      simp [intOf]
      omega
/-- a list of statements that the call has built -/
def RepBody (w : World) (lo n : Nat) (v : Value) (l : List FS) : Prop :=
  ∃ css : List (List Value), w.ownsRow lo 88 12 v l.length css.flatten ∧ css.length = l.length ∧ (∀ c, c ∈ css → c.length = 12) ∧ ∀ (j : Nat) s cs, l[j]? = some s → css[j]? = some cs → RepSl w lo n s cs
structure BodyP (W : World) (P B cap : Nat) (ws : List ByteArray) (at_ op n : Nat) (l : List FS) (w : World) (e : Ending) (w' : World) : Prop where
  ret : ∃ v, e = .returned v ∧ RepBody w' w.heap.size n v l
  keep : Keep [P] w w'
  st : PS W w' P B cap ws at_ op
theorem RepBody.keep {w w' : World} {lo n : Nat} {v : Value} {l : List FS} (h : RepBody w lo n v l) {S : List Nat} (hk : Keep S w w') (hS : ∀ x, x ∈ S → x < lo) : RepBody w' lo n v l := by
  obtain ⟨css, h1, h2, h3, h4⟩ := h
  exact ⟨css, own_keep h1 hk hS, h2, h3, fun j s cs a b => (h4 j s cs a b).keep hk hS (Nat.le_refl _)⟩
theorem RepBody.low {w : World} {lo lo' n : Nat} {v : Value} {l : List FS} (h : RepBody w lo n v l) (hl : lo' ≤ lo) : RepBody w lo' n v l := by
  obtain ⟨css, h1, h2, h3, h4⟩ := h
  exact ⟨css, own_weaken h1 hl, h2, h3, fun j s cs a b => (h4 j s cs a b).keep (S := []) (Keep.refl _ _) (fun x hx => by cases hx) hl⟩
set_option maxRecDepth 100000 in
set_option maxHeartbeats 1000000 in
theorem block_any {W w : World} {P B cap : Nat} {ws : List ByteArray} {i j op n : Nat} {l : List FS} (h : PS W w P B cap ws i op) (ho : op < 100) (h0 : ws[i]? = some ⟨#[123]⟩) (hc : Chain W P B cap ws (op + 1) n (i + 1) l j) (h1 : ws[j]? = some ⟨#[125]⟩) (hll : l.length ≤ 1000) :
    Calls Tryz.prog 54 #[.pointer (some ⟨P, 0, none⟩)] w (BodyP W P B cap ws (j + 1) op n l w) := by
  have HH := Lib.hid h
  have H0 := Lib.hid h0
  have H1 := Lib.hid h1
  have HC := Lib.hid hc
  have hPl := lt_of_block h.hP
  have hBl := h.Blt
  have hgP := h.geP
  have hWs := h.below.size
  clear h h0 h1 hc
  have hmf : ∀ (fn : Fn) (first cap : Array Value) (w : World), (Instr.makeFunc fn first cap).run Tryz.prog w = .ok (.func fn first cap) w := fun _ _ _ _ => rfl
  go_enter Tryz.func54, Tryz.ntmps54
  go_wp2_with fail
  have hb1 : Below w.heap.size w (w.alloc (Obj.cells #[.pointer (some ⟨P, 0, none⟩)] 77)) := (Below.refl _ _).alloc (Nat.le_refl _) _
  refine (begin_any' (HH.out.on hb1) ho).mono ?_
  rintro e w2 ⟨rfl, hk2, hs2⟩
  have hX2 := (hk2.block w.heap.size (by simp) (by simp; omega)).trans (heap_alloc_at w (Obj.cells #[.pointer (some ⟨P, 0, none⟩)] 77))
  have HX2 := Lib.hid hX2
  have HK2 := Lib.hid ((Keep.of_below (S := [P]) hb1).trans hk2)
  have HS2 := Lib.hid hs2
  have x0 := cellB' hX2 0 rfl
  have hl2 := lt_of_block hX2
  clear hb1 hk2 hs2 hX2
  go_wp2_with fail
  obtain ⟨w3, hw3⟩ : ∃ w3, w3 = w2.alloc (Obj.cells #[.slice none 0 0] 48) := ⟨_, rfl⟩
  have hb3 : Below w2.heap.size w2 w3 := by rw [hw3]; exact (Below.refl _ _).alloc (Nat.le_refl _) _
  have hL3 : w3.heap[w2.heap.size]? = some (.cells #[.slice none 0 0] 48 (0, 0)) := by rw [hw3]; exact heap_alloc_at _ _
  have hz3 : w3.heap.size = w2.heap.size + 1 := by rw [hw3]; simp
  rw [← hw3]
  clear hw3
  have hst3 : BlkSt W w3 P B cap ws i (op + 1) n w2.heap.size w.heap.size (w2.heap.size + 1) [] :=
    ⟨HS2.out.on hb3, (hb3.block _ hl2).trans HX2.out, by omega, by omega, by omega, by omega, by omega, by omega, by omega, by omega, by omega, by omega, .slice none 0 0, [], hL3, World.ownsRow_nil _ _ _ _, rfl, (fun c hc => by cases hc), fun j s cs hj => by simp at hj⟩
  refine (till_blk hst3 H0.out HC.out H1.out hll).mono ?_
  rintro e w4 ⟨rfl, hlow4, hsz4, hst4⟩
  have HST4 := Lib.hid hst4
  have HLOW4 := Lib.hid (fun x (hx : x < w2.heap.size) (hp : x ≠ P) => (hlow4 x (by omega) hp (by omega)).trans (hb3.block x hx))
  have HB3 := Lib.hid hb3
  have x4 := cellB' hst4.pb 0 rfl
  have c4 := hst4.ps.c2
  have z4 := frozB hst4.ps.hP 2
  have hP4 := lt_of_block hst4.ps.hP
  have hl4 := lt_of_block hst4.pb
  clear hst4 hlow4 hst3 hb3 hL3 x0
  go_upto_region 5 with fail
  obtain ⟨hps5, hk5⟩ := HST4.out.ps.setOp op (by omega)
  have hst5 := HST4.out.kp hk5 hps5
  generalize hw5 : w4.setCell ⟨P, 2, none⟩ (.int .i64 op) = w5 at hps5 hk5 hst5
  obtain ⟨v, css, g1, g2, g3, g4, g5⟩ := hst5.own
  obtain ⟨A, c, hv, -⟩ := own_slice g2
  have y0 := cellB' g1 0 rfl
  have hl5 := lt_of_block g1
  have HB : RepBody w5 (w2.heap.size + 1) n v l := ⟨css, g2, g3, g4, g5⟩
  have HBO := Lib.hid HB
  have HPS5 := Lib.hid hps5
  have HK5 := Lib.hid hk5
  have HZ5 := Lib.hid hk5.size
  clear hw5 hst5 hps5 hk5 g1 g2 g3 g4 g5 HB
  subst hv
  go_wp2_with fail
  go_ret
  refine ⟨⟨_, rfl, HBO.out.low (by have := HK2.out.size; omega)⟩, ?_, HPS5.out⟩
  have q0 := HH.out.below
  have q4 := HST4.out.ps.below
  exact Keep.trans ⟨q4.os.trans q0.os.symm, q4.tape.trans q0.tape.symm, q4.output.trans q0.output.symm, by have := HK2.out.size; omega, fun x hx hn => (HLOW4.out x (by omega) (by simpa using hn)).trans (HK2.out.block x hx hn)⟩ HK5.out
end Go.Proofs.YtoaajpppbjaomaaGreatDoor
/- The parser of flat texts: a list of one name. -/
namespace Go.Proofs.YtoaajpppbjaomaaGreatDoor
open Go.RowKit
/-- a list of strings that the call has made: one name -/
structure NmsP (W : World) (P B cap : Nat) (ws : List ByteArray) (at_ op : Nat) (s : ByteArray) (w : World) (e : Ending) (w' : World) : Prop where
  ret : ∃ G, e = .returned (.slice (some ⟨G, 0, none⟩) 1 1) ∧ w'.heap[G]? = some (.cells #[.string s] 9 (0, 0)) ∧ w.heap.size ≤ G
  keep : Keep [P] w w'
  st : PS W w' P B cap ws at_ op
set_option maxRecDepth 100000 in
set_option maxHeartbeats 1000000 in
theorem list_one {W w : World} {P B cap : Nat} {ws : List ByteArray} {i op : Nat} (h : PS W w P B cap ws i op) {s : ByteArray} (h0 : ws[i]? = some ⟨#[40]⟩) (h1 : ws[i + 1]? = some s) (h2 : ws[i + 1 + 1]? = some ⟨#[41]⟩) (hn : IsNm s) (hne : (s.toList == (⟨#[41]⟩ : ByteArray).toList) = false) :
    Calls Tryz.prog 48 #[.pointer (some ⟨P, 0, none⟩), .func (.func 49) #[.pointer (some ⟨P, 0, none⟩)] #[]] w (NmsP W P B cap ws (i + 1 + 1 + 1) op s w) := by
  have HH := Lib.hid h
  have H0 := Lib.hid h0
  have H1 := Lib.hid h1
  have H2 := Lib.hid h2
  have HN := Lib.hid hn
  have hPl := lt_of_block h.hP
  have hBl := h.Blt
  clear h h0 h1 h2 hn
  go_enter Tryz.func48, Tryz.ntmps48
  go_wp2_with fail
  have hb1 : Below w.heap.size w (w.alloc (Obj.cells #[Value.string ⟨#[40]⟩] 9)) := (Below.refl _ _).alloc (Nat.le_refl _) _
  refine (want_one (HH.out.on hb1) H0.out (G := w.heap.size) (cellB' (heap_alloc_at _ _) 0 rfl)).mono ?_
  rintro e w2 ⟨rfl, hk2, hs2⟩
  have HK2 := Lib.hid ((Keep.of_below (S := [P]) hb1).trans hk2)
  have HS2 := Lib.hid hs2
  clear hb1 hk2 hs2
  go_wp2_with fail
  refine (takes_no HS2.out H1.out hne).mono ?_
  rintro e w3 ⟨rfl, n3, rfl⟩
  have hb3 : Below w2.heap.size w2 (w2.drewN n3) := Below.drewN' (Below.refl _ _) n3
  go_wp2_with fail
  refine (name_any (HS2.out.on hb3) H1.out HN.out).mono ?_
  rintro e w4 ⟨rfl, hk4, hs4⟩
  have HK4 := Lib.hid (HK2.out.trans ((Keep.of_below (S := [P]) hb3).trans hk4))
  have HS4 := Lib.hid hs4
  have hz4 := hk4.size
  clear hb3 hk4 hs4
  go_wp2_with fail
  have hb5 : Below w4.heap.size w4 (w4.alloc (Obj.cells #[Value.string s] 9)) := (Below.refl _ _).alloc (Nat.le_refl _) _
  have hS5 := HS4.out.on hb5
  have hK5 := HK4.out.trans (Keep.of_below (S := [P]) hb5)
  have hL5 := heap_alloc_at w4 (Obj.cells #[Value.string s] 9)
  generalize w4.alloc (Obj.cells #[Value.string s] 9) = w5 at hS5 hK5 hL5 ⊢
  have HS5 := Lib.hid hS5
  have HK5 := Lib.hid hK5
  have HL5 := Lib.hid hL5
  clear hb5 hS5 hK5 hL5
  go_loopw [5] (fun v wr => v = .slice (some ⟨w4.heap.size, 0, none⟩) 1 1 ∧ wr = w5) (fun _ _ => 0)
  case atStart => exact ⟨rfl, rfl⟩
  case round =>
    obtain ⟨rfl, rfl⟩ := hrel
    go_wp2_with fail
    refine (takes_no HS5.out H2.out (s := ⟨#[44]⟩) (tl_lit (by decide))).mono ?_
    rintro e w6 ⟨rfl, n6, rfl⟩
    go_wp2_with fail
    have hb7 : Below wr.heap.size wr ((wr.drewN n6).alloc (Obj.cells #[Value.string ⟨#[41]⟩] 9)) := (Below.drewN' (Below.refl _ _) n6).alloc (Nat.le_refl _) _
    refine (want_one (HS5.out.on hb7) H2.out (G := wr.heap.size) (cellB' (heap_alloc_at (wr.drewN n6) _) 0 rfl)).mono ?_
    rintro e w8 ⟨rfl, hk8, hs8⟩
    have hk8' := (Keep.of_below (S := [P]) hb7).trans hk8
    have HK8 := Lib.hid hk8'
    have HS8 := Lib.hid hs8
    have HL8 := Lib.hid ((hk8'.block _ (lt_of_block HL5.out) (by have := HK4.out.size; simp; omega)).trans HL5.out)
    clear hb7 hk8 hs8 hk8'
    go_wp2_with fail
    go_ret
    exact ⟨⟨_, rfl, HL8.out, HK4.out.size⟩, HK5.out.trans HK8.out, HS8.out⟩
end Go.Proofs.YtoaajpppbjaomaaGreatDoor
/- The parser of flat texts: flags, parts. -/
namespace Go.Proofs.YtoaajpppbjaomaaGreatDoor
open Go.RowKit
theorem Tryz.infoIntF : (Tryz.prog.info? 3).map (fun i => (i.zero, i.size, i.bytes)) = some (some (.int .i64 0), 1, 8) := by kernel_rfl
/-- one flag more -/
structure FlagP (W : World) (P B cap : Nat) (ws : List ByteArray) (at_ op FB k : Nat) (v0 v1 v2 v4 v5 : Value) (w : World) (e : Ending) (w' : World) : Prop where
  ret : e = .returned (.tuple #[])
  flags : ∃ v, w'.heap[FB]? = some (.cells #[v0, v1, v2, v, v4, v5] 50 (0, 0)) ∧ w'.ownsRow w.heap.size 3 1 v 1 [.int .i64 k]
  keep : Keep [P, FB] w w'
  st : PS W w' P B cap ws at_ op
theorem flag_mid {W w w2 w' : World} {P B cap : Nat} {ws : List ByteArray} {i op FB PB k : Nat} {v0 v1 v2 v4 v5 v' : Value} (hFl : FB < w.heap.size) (hPBl : PB < w.heap.size) (hFP : FB ≠ P) (hFB : FB ≠ B) (hPBP : PB ≠ P) (hPF : PB ≠ FB) (hWF : W.heap.size ≤ FB)
    (hk : Keep [P] w.drew w2) (hps : PS W w2 P B cap ws i op) (hF : w.heap[FB]? = some (.cells #[v0, v1, v2, .slice none 0 0, v4, v5] 50 (0, 0))) (hPB : w.heap[PB]? = some (.cells #[.pointer (some ⟨P, 0, none⟩)] 77 (0, 0)))
    (hgr : (w2.alloc (.cells #[.int .i64 k] 3)).grownBy w' (Value.slice none 0 0).ownBlock) (hown : w'.ownsRow w.heap.size 3 1 v' (0 + 1) ([] ++ [.int .i64 k])) :
    Keep [P, FB] w (w'.setCell ⟨FB, 3, none⟩ v') ∧ PS W (w'.setCell ⟨FB, 3, none⟩ v') P B cap ws i op ∧ (w'.setCell ⟨FB, 3, none⟩ v').heap[FB]? = some (.cells #[v0, v1, v2, v', v4, v5] 50 (0, 0)) ∧ (w'.setCell ⟨FB, 3, none⟩ v').heap[PB]? = some (.cells #[.pointer (some ⟨P, 0, none⟩)] 77 (0, 0)) ∧
      (w'.setCell ⟨FB, 3, none⟩ v').ownsRow w.heap.size 3 1 v' 1 [.int .i64 k] := by
  have k1 : Keep [P] w w2 := (Keep.of_below (Below.refl w.heap.size w).drew).trans hk
  have ka : Keep ([] : List Nat) w2 (w2.alloc (.cells #[.int .i64 k] 3)) := (Keep.refl _ _).alloc _
  have kg := keep_of_grown hgr
  have ks : Keep [FB] w' (w'.setCell ⟨FB, 3, none⟩ v') := (Keep.refl _ _).setCell (.inl (by simp)) _
  have hs1 := k1.size
  have kag : Keep [P] w w' := (k1.trans (ka.mono (fun _ h => by cases h))).trans (kg.mono (fun x hx => by simp [Value.ownBlock] at hx))
  have hF' := (kag.block FB hFl (by simpa using hFP)).trans hF
  have hP' := (kag.block PB hPBl (by simpa using hPBP)).trans hPB
  refine ⟨(kag.mono (fun x hx => by simp at hx; simp [hx])).trans (ks.mono (fun x hx => by simp at hx; simp [hx])), ?_, ?_, ?_, ?_⟩
  · exact ((hps.kept ka (fun x hx => by cases hx)).kept kg (fun x hx => by simp [Value.ownBlock] at hx)).kept ks (fun x hx => by rw [List.mem_singleton.1 hx]; exact ⟨hWF, hFP, hFB⟩)
  · rw [heap_setCell_eq hF']; rfl
  · exact (heap_setCell_ne 3 v' hPF).trans hP'
  · exact own_keep (by simpa using hown) ks (fun x hx => by rw [List.mem_singleton.1 hx]; exact hFl)
set_option maxRecDepth 100000 in
set_option maxHeartbeats 1000000 in
theorem function1_any {W w : World} {P B cap : Nat} {ws : List ByteArray} {i op FB PB : Nat} {v0 v1 v2 v4 v5 : Value} (h : PS W w P B cap ws i op) {s : ByteArray} {k : Nat} (h0 : ws[i]? = some s) (h1 : ws[i + 1]? = some ⟨#[59]⟩) (hk : k < 100) (hp : Lib.parseIntB 64 s.data.toList = .ok k) (hf : (⟨(Lib.decDigits k).toArray⟩ : ByteArray) = s) (hsz : s.size ≤ 100)
    (hF : w.heap[FB]? = some (.cells #[v0, v1, v2, .slice none 0 0, v4, v5] 50 (0, 0))) (hPB : w.heap[PB]? = some (.cells #[.pointer (some ⟨P, 0, none⟩)] 77 (0, 0))) (hFP : FB ≠ P) (hFB : FB ≠ B) (hPBP : PB ≠ P) (hPF : PB ≠ FB) (hWF : W.heap.size ≤ FB) :
    Calls Tryz.prog 52 #[.pointer (some ⟨FB, 0, none⟩), .pointer (some ⟨PB, 0, none⟩)] w (FlagP W P B cap ws (i + 1 + 1) op FB k v0 v1 v2 v4 v5 w) := by
  have HH := Lib.hid h
  have H0 := Lib.hid h0
  have H1 := Lib.hid h1
  have HP := Lib.hid hp
  have HF := Lib.hid hf
  have HFB := Lib.hid hF
  have HPB := Lib.hid hPB
  have hPl := lt_of_block h.hP
  have hBl := h.Blt
  have hFl := lt_of_block hF
  have hPBl := lt_of_block hPB
  have f3 := cellB' hF 3 rfl
  have b0 := cellB' hPB 0 rfl
  have hPS := Lib.hid (h.on (Below.refl w.heap.size w).drew)
  have hWs := h.below.size
  clear h h0 h1 hp hf hF hPB
  go_enter Tryz.func52, Tryz.ntmps52
  go_upto_region 0 with fail
  go_region_law (first
    | (go_simp; go_at_call 50; refine (number_any hPS.out H0.out hk HP.out HF.out hsz).mono ?_; rintro e w2 ⟨rfl, hk, hps⟩; have f3' := (World.cell?_of_block (w := w) (hk.block FB hFl (by simpa using hFP))).trans f3; have z3' := (frozB ((hk.block FB hFl (by simpa using hFP)).trans HFB.out) 3); have hF2l : FB < w2.heap.size := Nat.lt_of_lt_of_le hFl hk.size; have HK := Lib.hid hk; have HPS := Lib.hid hps; clear hk hps; go_simp)
    | (refine step_append_one rfl (.tmp 3) (.tmp 6) rfl Tryz.underlying46 Tryz.infoIntF rfl (by decide) (by decide) w.heap.size (.slice none 0 0) 0 [] rfl (World.ownsRow_nil _ _ _ _) ⟨w2.heap.size, 0, none⟩ [.int .i64 k] rfl rfl (news_at w2 _ _) (by intro u hu; simp at hu; subst hu; rfl) (by omega) (by have := HK.out.size; simp at this ⊢; omega) ?_; intro v' w' hown' hgr hfr; obtain ⟨A', c', hv', -⟩ := own_slice hown'; subst hv'; have hbF := (hgr.block FB (by have := HK.out.size; simp at this ⊢; omega) (by simp [Value.ownBlock])).trans ((heap_alloc_lt (by have := HK.out.size; simp at this ⊢; omega)).trans ((HK.out.block FB hFl (by simpa using hFP)).trans HFB.out)); have z3 := frozB hbF 3; have l3 := cellB' hbF 3 rfl; have hFl' := lt_of_block hbF; have HG := Lib.hid hgr; have HO := Lib.hid hown'; have HBF := Lib.hid hbF; clear hgr hown' hfr hbF))
  all_goals
    obtain ⟨hk9, hs9, hF9, hP9, ho9⟩ := flag_mid hFl hPBl hFP hFB hPBP hPF hWF HK.out HPS.out HFB.out HPB.out HG.out HO.out
    generalize w'.setCell ⟨FB, 3, none⟩ (.slice A' (0 + 1) c') = w9 at hk9 hs9 hF9 hP9 ho9 ⊢
    have HK9 := Lib.hid hk9
    have HS9 := Lib.hid hs9
    have HF9 := Lib.hid hF9
    have HO9 := Lib.hid ho9
    have p9 := cellB' hP9 0 rfl
    clear hk9 hs9 hF9 hP9 ho9 HG HO HBF HK HPS
    go_wp2_with fail
    have hb9 : Below w9.heap.size w9 (w9.alloc (Obj.cells #[Value.string ⟨#[59]⟩] 9)) := (Below.refl _ _).alloc (Nat.le_refl _) _
    refine (want_one (HS9.out.on hb9) H1.out (G := w9.heap.size) (cellB' (heap_alloc_at _ _) 0 rfl)).mono ?_
    rintro e w10 ⟨rfl, hk10, hs10⟩
    have HK10 := Lib.hid ((Keep.of_below (S := [P]) hb9).trans hk10)
    have HS10 := Lib.hid hs10
    clear hb9 hk10 hs10
    go_wp2_with fail
    go_end0
    exact ⟨rfl, ⟨_, (HK10.out.block FB (lt_of_block HF9.out) (by simpa using hFP)).trans HF9.out, own_keep HO9.out HK10.out (fun x hx => by rw [List.mem_singleton.1 hx]; exact hPl)⟩, HK9.out.trans (HK10.out.mono (fun x hx => by simp at hx; simp [hx])), HS10.out⟩
def FlRel (W : World) (P B cap : Nat) (ws : List ByteArray) (i op FB PB k : Nat) (v0 v1 v2 v4 v5 : Value) (w wr : World) : Prop :=
  wr.heap[PB]? = some (.cells #[.pointer (some ⟨P, 0, none⟩)] 77 (0, 0)) ∧ Keep [P, FB] w wr ∧
  ((PS W wr P B cap ws i op ∧ wr.heap[FB]? = some (.cells #[v0, v1, v2, .slice none 0 0, v4, v5] 50 (0, 0))) ∨
   (PS W wr P B cap ws (i + 1 + 1) op ∧ ∃ v, wr.heap[FB]? = some (.cells #[v0, v1, v2, v, v4, v5] 50 (0, 0)) ∧ wr.ownsRow w.heap.size 3 1 v 1 [.int .i64 k]))
set_option maxRecDepth 100000 in
set_option maxHeartbeats 1000000 in
theorem till_flags {W w : World} {P B cap : Nat} {ws : List ByteArray} {i op FB PB : Nat} {v0 v1 v2 v4 v5 : Value} (h : PS W w P B cap ws i op) {s : ByteArray} {k : Nat} (hb : ws[i]? = some ⟨#[123]⟩) (h0 : ws[i + 1]? = some s) (h1 : ws[i + 1 + 1]? = some ⟨#[59]⟩) (he : ws[i + 1 + 1 + 1]? = some ⟨#[125]⟩) (hne : (s.toList == [125]) = false) (hk : k < 100) (hp : Lib.parseIntB 64 s.data.toList = .ok k) (hf : (⟨(Lib.decDigits k).toArray⟩ : ByteArray) = s) (hsz : s.size ≤ 100)
    (hF : w.heap[FB]? = some (.cells #[v0, v1, v2, .slice none 0 0, v4, v5] 50 (0, 0))) (hPB : w.heap[PB]? = some (.cells #[.pointer (some ⟨P, 0, none⟩)] 77 (0, 0))) (hFP : FB ≠ P) (hFB : FB ≠ B) (hPBP : PB ≠ P) (hPF : PB ≠ FB) (hWF : W.heap.size ≤ FB) :
    Calls Tryz.prog 51 #[.pointer (some ⟨P, 0, none⟩), .func (.func 52) #[] #[.pointer (some ⟨FB, 0, none⟩), .pointer (some ⟨PB, 0, none⟩)]] w (FlagP W P B cap ws (i + 1 + 1 + 1 + 1) op FB k v0 v1 v2 v4 v5 w) := by
  have HH := Lib.hid h
  have HBr := Lib.hid hb
  have H0 := Lib.hid h0
  have H1 := Lib.hid h1
  have HE := Lib.hid he
  have HP := Lib.hid hp
  have HF := Lib.hid hf
  have HFB := Lib.hid hF
  have HPB := Lib.hid hPB
  have hPl := lt_of_block h.hP
  have hFl := lt_of_block hF
  have hPBl := lt_of_block hPB
  clear h hb h0 h1 he hp hf hF hPB
  go_enter Tryz.func51, Tryz.ntmps51
  go_wp2_with fail
  have hb2 : Below w.heap.size w (w.alloc (Obj.cells #[Value.string ⟨#[123]⟩] 9)) := (Below.refl _ _).alloc (Nat.le_refl _) _
  refine (want_one (HH.out.on hb2) HBr.out (G := w.heap.size) (cellB' (heap_alloc_at _ _) 0 rfl)).mono ?_
  rintro e w2 ⟨rfl, hk2, hs2⟩
  have hk2' := (Keep.of_below (S := [P]) hb2).trans hk2
  have HK2 := Lib.hid hk2'
  have HS2 := Lib.hid hs2
  clear hb2 hk2 hs2 hk2'
  go_wp2_with fail
  go_loopw [] (fun wr => FlRel W P B cap ws (i + 1) op FB PB k v0 v1 v2 v4 v5 w wr) (fun wr => ws.length - (intOf ((wr.cell? ⟨P, 1, none⟩).getD undef)).toNat)
  case atStart => exact ⟨(HK2.out.block PB hPBl (by simpa using hPBP)).trans HPB.out, HK2.out.mono (fun x hx => by simp at hx; simp [hx]), .inl ⟨HS2.out, (HK2.out.block FB hFl (by simpa using hFP)).trans HFB.out⟩⟩
  case round =>
    obtain ⟨hpb, hkp, ⟨hst, hfb⟩ | ⟨hst, hfl⟩⟩ := hrel
    · have HST := Lib.hid hst
      have HKP := Lib.hid hkp
      have HFB' := Lib.hid hfb
      have HPB' := Lib.hid hpb
      have hat : (wr.cell? ⟨P, 1, none⟩).getD undef = .int .i64 ((i + 1 : Nat) : Nat) := by rw [hst.c1]; rfl
      have HAT := Lib.hid hat
      have hkz := hkp.size
      clear hst hkp hfb hpb hat
      go_wp2_with fail
      refine (next_any HST.out H0.out).mono ?_
      rintro e w3 ⟨rfl, n3, rfl⟩
      have hb3 : Below wr.heap.size wr (wr.drewN n3) := Below.drewN' (Below.refl _ _) n3
      have hF3 := (hb3.block FB (lt_of_block HFB'.out)).trans HFB'.out
      have hP3 := (hb3.block PB (lt_of_block HPB'.out)).trans HPB'.out
      have HS3 := Lib.hid (HST.out.on hb3)
      have HF3 := Lib.hid hF3
      have HP3 := Lib.hid hP3
      have hk3 := (Keep.of_below (S := [P, FB]) hb3)
      have HK3 := Lib.hid (HKP.out.trans hk3)
      clear hb3 hF3 hP3 hk3
      go_wp2_with fail
      refine (function1_any HS3.out H0.out H1.out hk HP.out HF.out hsz HF3.out HP3.out hFP hFB hPBP hPF hWF).mono ?_
      rintro e w4 ⟨rfl, ⟨v, hv1, hv2⟩, hk4, hs4⟩
      have HV1 := Lib.hid hv1
      have HV2 := Lib.hid (own_weaken hv2 (B' := w.heap.size) (by simpa using hkz))
      have HK4 := Lib.hid (HK3.out.trans hk4)
      have HP4 := Lib.hid ((hk4.block PB (lt_of_block HP3.out) (by simp; exact ⟨hPBP, hPF⟩)).trans HP3.out)
      have HS4 := Lib.hid hs4
      have hat4 : (w4.cell? ⟨P, 1, none⟩).getD undef = .int .i64 ((i + 1 + 1 + 1 : Nat) : Nat) := by rw [hs4.c1]; rfl
      have hl4 := hs4.ats
      have HAT4 := Lib.hid hat4
      clear hv1 hv2 hk4 hs4 hat4
      go_wp2_with fail
      refine ⟨⟨HP4.out, HK4.out, .inr ⟨HS4.out, v, HV1.out, HV2.out⟩⟩, ?_⟩
      rw [HAT4.out, HAT.out]
      simp only [intOf, Int.toNat_natCast]
      omega
    · obtain ⟨v, hv1, hv2⟩ := hfl
      have HST := Lib.hid hst
      have HKP := Lib.hid hkp
      have HV1 := Lib.hid hv1
      have HV2 := Lib.hid hv2
      clear hst hkp hv1 hv2 hpb
      have e1 : (({ data := #[125] } : ByteArray).toList == [125]) = true := by rw [ByteArray.toList_eq]; rfl
      go_wp2_with fail
      refine (next_any HST.out HE.out).mono ?_
      rintro e w3 ⟨rfl, n3, rfl⟩
      go_wp2_with fail
      have hb4 : Below wr.heap.size wr ((wr.drewN n3).alloc (Obj.cells #[Value.string ⟨#[125]⟩] 9)) := (Below.drewN' (Below.refl _ _) n3).alloc (Nat.le_refl _) _
      refine (want_one (HST.out.on hb4) HE.out (G := wr.heap.size) (cellB' (heap_alloc_at (wr.drewN n3) _) 0 rfl)).mono ?_
      rintro e w5 ⟨rfl, hk5, hs5⟩
      have hk5' := (Keep.of_below (S := [P]) hb4).trans hk5
      have HS5 := Lib.hid hs5
      have HK5 := Lib.hid hk5'
      clear hb4 hk5 hs5 hk5'
      go_wp2_with fail
      go_end0
      exact ⟨rfl, ⟨v, (HK5.out.block FB (lt_of_block HV1.out) (by simpa using hFP)).trans HV1.out, own_keep HV2.out HK5.out (fun x hx => by rw [List.mem_singleton.1 hx]; exact hPl)⟩, HKP.out.trans (HK5.out.mono (fun x hx => by simp at hx; simp [hx])), HS5.out⟩
set_option maxRecDepth 100000 in
set_option maxHeartbeats 1000000 in
theorem till_none {W w : World} {P B cap : Nat} {ws : List ByteArray} {i op : Nat} (h : PS W w P B cap ws i op) (hb : ws[i]? = some ⟨#[123]⟩) (he : ws[i + 1]? = some ⟨#[125]⟩) (fn : Fn) (b1 b2 : Array Value) :
    Calls Tryz.prog 51 #[.pointer (some ⟨P, 0, none⟩), .func fn b1 b2] w (ParP (.tuple #[]) W P B cap ws (i + 1 + 1) op w) := by
  have HH := Lib.hid h
  have HBr := Lib.hid hb
  have HE := Lib.hid he
  clear h hb he
  go_enter Tryz.func51, Tryz.ntmps51
  go_wp2_with fail
  have hb2 : Below w.heap.size w (w.alloc (Obj.cells #[Value.string ⟨#[123]⟩] 9)) := (Below.refl _ _).alloc (Nat.le_refl _) _
  refine (want_one (HH.out.on hb2) HBr.out (G := w.heap.size) (cellB' (heap_alloc_at _ _) 0 rfl)).mono ?_
  rintro e w2 ⟨rfl, hk2, hs2⟩
  have HK2 := Lib.hid ((Keep.of_below (S := [P]) hb2).trans hk2)
  have HS2 := Lib.hid hs2
  clear hb2 hk2 hs2
  go_wp2_with fail
  go_loopw [] (fun wr => wr = w2) (fun _ => 0)
  case atStart => rfl
  case round =>
    subst hrel
    have e1 : (({ data := #[125] } : ByteArray).toList == [125]) = true := by rw [ByteArray.toList_eq]; rfl
    go_wp2_with fail
    refine (next_any HS2.out HE.out).mono ?_
    rintro e w3 ⟨rfl, n3, rfl⟩
    go_wp2_with fail
    have hb4 : Below wr.heap.size wr ((wr.drewN n3).alloc (Obj.cells #[Value.string ⟨#[125]⟩] 9)) := (Below.drewN' (Below.refl _ _) n3).alloc (Nat.le_refl _) _
    refine (want_one (HS2.out.on hb4) HE.out (G := wr.heap.size) (cellB' (heap_alloc_at (wr.drewN n3) _) 0 rfl)).mono ?_
    rintro e w5 ⟨rfl, hk5, hs5⟩
    have HK5 := Lib.hid ((Keep.of_below (S := [P]) hb4).trans hk5)
    have HS5 := Lib.hid hs5
    clear hb4 hk5 hs5
    go_wp2_with fail
    go_end0
    exact ⟨rfl, HK2.out.trans HK5.out, HS5.out⟩
end Go.Proofs.YtoaajpppbjaomaaGreatDoor
/- The parser of flat texts: a function (printed by wip/tools/mkLm.py). -/
namespace Go.Proofs.YtoaajpppbjaomaaGreatDoor
open Go.RowKit
abbrev zeroFu : Array Value := #[.slice none 0 0, .slice none 0 0, .int .i64 0, .slice none 0 0, .slice none 0 0, .slice none 0 0]
structure FuSt (W w0 w : World) (P B cap : Nat) (ws : List ByteArray) (at_ op : Nat) (arr : Array Value) : Prop where
  ps : PS W w P B cap ws at_ op
  pb : w.heap[w0.heap.size]? = some (.cells #[.pointer (some ⟨P, 0, none⟩)] 77 (0, 0))
  r : w.heap[w0.heap.size + 1]? = some (.cells zeroFu 50 (0, 0))
  f : w.heap[w0.heap.size + 2]? = some (.cells arr 50 (0, 0))
  keep : Keep [P] w0 w
  geW : W.heap.size ≤ w0.heap.size
  Plt : P < w0.heap.size
  Blt : B < w0.heap.size
theorem FuSt.kp {W w0 w w' : World} {P B cap : Nat} {ws : List ByteArray} {i i' op : Nat} {arr : Array Value} (h : FuSt W w0 w P B cap ws i op arr) (hk : Keep [P] w w') (hp : PS W w' P B cap ws i' op) : FuSt W w0 w' P B cap ws i' op arr := by
  have := h.Plt
  exact ⟨hp, (hk.block _ (lt_of_block h.pb) (by simp; omega)).trans h.pb, (hk.block _ (lt_of_block h.r) (by simp; omega)).trans h.r, (hk.block _ (lt_of_block h.f) (by simp; omega)).trans h.f, h.keep.trans hk, h.geW, h.Plt, h.Blt⟩
theorem FuSt.set {W w0 w : World} {P B cap : Nat} {ws : List ByteArray} {i op : Nat} {arr : Array Value} (h : FuSt W w0 w P B cap ws i op arr) (j : Nat) (v : Value) :
    FuSt W w0 (w.setCell ⟨w0.heap.size + 2, j, none⟩ v) P B cap ws i op (arr.setIfInBounds j v) ∧ Keep [P, w0.heap.size + 2] w (w.setCell ⟨w0.heap.size + 2, j, none⟩ v) := by
  have ks : Keep [w0.heap.size + 2] w (w.setCell ⟨w0.heap.size + 2, j, none⟩ v) := (Keep.refl _ _).setCell (.inl (by simp)) _
  have h1 := h.Plt
  have h2 := h.Blt
  have h3 := h.geW
  refine ⟨⟨h.ps.kept ks (fun x hx => by rw [List.mem_singleton.1 hx]; omega), (ks.block _ (lt_of_block h.pb) (by simp)).trans h.pb, (ks.block _ (lt_of_block h.r) (by simp)).trans h.r, heap_setCell_eq h.f j v, h.keep.old ks (fun x hx => by rw [List.mem_singleton.1 hx]; exact .inr (by omega)), h3, h1, h2⟩, ks.mono (fun x hx => by simp at hx; simp [hx])⟩
theorem FuSt.fl {W w0 w w' : World} {P B cap : Nat} {ws : List ByteArray} {i i' op : Nat} {arr arr' : Array Value} (h : FuSt W w0 w P B cap ws i op arr) (hk : Keep [P, w0.heap.size + 2] w w') (hp : PS W w' P B cap ws i' op) (hf : w'.heap[w0.heap.size + 2]? = some (.cells arr' 50 (0, 0))) : FuSt W w0 w' P B cap ws i' op arr' := by
  have := h.Plt
  exact ⟨hp, (hk.block _ (lt_of_block h.pb) (by simp; omega)).trans h.pb, (hk.block _ (lt_of_block h.r) (by simp; omega)).trans h.r, hf, h.keep.old hk (fun x hx => by simp at hx; rcases hx with rfl | rfl; exact .inl (by simp); exact .inr (by omega)), h.geW, h.Plt, h.Blt⟩
theorem set6f {w : World} {b : Nat} {a0 a1 a2 a3 a4 a5 : Value} {t : TypeId} (h : w.heap[b]? = some (.cells #[a0, a1, a2, a3, a4, a5] t (0, 0))) (v0 v1 v2 v3 v4 v5 : Value) (w5 : World)
    (hw : w5 = (((((w.setCell ⟨b, 0, none⟩ v0).setCell ⟨b, 1, none⟩ v1).setCell ⟨b, 2, none⟩ v2).setCell ⟨b, 3, none⟩ v3).setCell ⟨b, 4, none⟩ v4).setCell ⟨b, 5, none⟩ v5) :
    w5.heap[b]? = some (.cells #[v0, v1, v2, v3, v4, v5] t (0, 0)) ∧ Keep [b] w w5 := by
  constructor
  · rw [hw, heap_setCell_eq (heap_setCell_eq (heap_setCell_eq (heap_setCell_eq (heap_setCell_eq (heap_setCell_eq h 0 v0) 1 v1) 2 v2) 3 v3) 4 v4) 5 v5]; rfl
  · rw [hw]
    exact ((((((Keep.refl _ _).setCell (.inl (by simp)) _).setCell (.inl (by simp)) _).setCell (.inl (by simp)) _).setCell (.inl (by simp)) _).setCell (.inl (by simp)) _).setCell (.inl (by simp)) _
theorem sixf {w : World} {b : Nat} {a0 a1 a2 a3 a4 a5 : Value} {t : TypeId} (h : w.heap[b]? = some (.cells #[a0, a1, a2, a3, a4, a5] t (0, 0))) :
    (w.cell? ⟨b, 0, none⟩ = some a0 ∧ w.cell? ⟨b, 1, none⟩ = some a1 ∧ w.cell? ⟨b, 2, none⟩ = some a2 ∧ w.cell? ⟨b, 3, none⟩ = some a3 ∧ w.cell? ⟨b, 4, none⟩ = some a4 ∧ w.cell? ⟨b, 5, none⟩ = some a5) ∧
    w.frozen? ⟨b, 0, none⟩ = false ∧ w.frozen? ⟨b, 1, none⟩ = false ∧ w.frozen? ⟨b, 2, none⟩ = false ∧ w.frozen? ⟨b, 3, none⟩ = false ∧ w.frozen? ⟨b, 4, none⟩ = false ∧ w.frozen? ⟨b, 5, none⟩ = false :=
  ⟨⟨cellB' h 0 rfl, cellB' h 1 rfl, cellB' h 2 rfl, cellB' h 3 rfl, cellB' h 4 rfl, cellB' h 5 rfl⟩, frozB h 0, frozB h 1, frozB h 2, frozB h 3, frozB h 4, frozB h 5⟩
/-- a function as the parser hands it back: one name in, one name out, one flag, no parts -/
def FunV (w : World) (lo n : Nat) (s0 s1 : ByteArray) (kc kf : Nat) (l : List FS) (v : Value) : Prop :=
  ∃ G0 G1 A3 c3 A5 c5, v = .agg #[.slice (some ⟨G0, 0, none⟩) 1 1, .slice (some ⟨G1, 0, none⟩) 1 1, .int .i64 kc, .slice A3 1 c3, .slice none 0 0, .slice A5 l.length c5] ∧ w.heap[G0]? = some (.cells #[.string s0] 9 (0, 0)) ∧ w.heap[G1]? = some (.cells #[.string s1] 9 (0, 0)) ∧ lo ≤ G0 ∧ lo ≤ G1 ∧
    w.ownsRow lo 3 1 (.slice A3 1 c3) 1 [.int .i64 kf] ∧ RepBody w lo n (.slice A5 l.length c5) l
structure FunP (W : World) (P B cap : Nat) (ws : List ByteArray) (at_ op n : Nat) (s0 s1 : ByteArray) (kc kf : Nat) (l : List FS) (w : World) (e : Ending) (w' : World) : Prop where
  ret : ∃ v, e = .returned v ∧ FunV w' w.heap.size n s0 s1 kc kf l v
  keep : Keep [P] w w'
  st : PS W w' P B cap ws at_ op
/-- the words of a function's head, from i on -/
structure HeadW (ws : List ByteArray) (i : Nat) (s0 s1 sc sf : ByteArray) (kc kf : Nat) : Prop where
  t0 : ws[i]? = some ⟨#[102, 117, 110]⟩
  t1 : ws[i + 1]? = some ⟨#[40]⟩
  t2 : ws[i + 2]? = some s0
  t3 : ws[i + 3]? = some ⟨#[41]⟩
  t4 : ws[i + 4]? = some ⟨#[61]⟩
  t5 : ws[i + 5]? = some ⟨#[40]⟩
  t6 : ws[i + 6]? = some s1
  t7 : ws[i + 7]? = some ⟨#[41]⟩
  t8 : ws[i + 8]? = some ⟨#[99, 101, 108, 108, 115]⟩
  t9 : ws[i + 9]? = some sc
  t10 : ws[i + 10]? = some ⟨#[102, 108, 97, 103, 115]⟩
  t11 : ws[i + 11]? = some ⟨#[123]⟩
  t12 : ws[i + 12]? = some sf
  t13 : ws[i + 13]? = some ⟨#[59]⟩
  t14 : ws[i + 14]? = some ⟨#[125]⟩
  t15 : ws[i + 15]? = some ⟨#[112, 97, 114, 116, 115]⟩
  t16 : ws[i + 16]? = some ⟨#[123]⟩
  t17 : ws[i + 17]? = some ⟨#[125]⟩
  n0 : IsNm s0
  n1 : IsNm s1
  m0 : (s0.toList == (⟨#[41]⟩ : ByteArray).toList) = false
  m1 : (s1.toList == (⟨#[41]⟩ : ByteArray).toList) = false
  mf : (sf.toList == [125]) = false
  kcl : kc < 100
  kfl : kf < 100
  pc : Lib.parseIntB 64 sc.data.toList = .ok kc
  pf : Lib.parseIntB 64 sf.data.toList = .ok kf
  dc : (⟨(Lib.decDigits kc).toArray⟩ : ByteArray) = sc
  df : (⟨(Lib.decDigits kf).toArray⟩ : ByteArray) = sf
  zc : sc.size ≤ 100
  zf : sf.size ≤ 100
set_option maxRecDepth 100000 in
set_option maxHeartbeats 2000000 in
theorem function_any {W w : World} {P B cap : Nat} {ws : List ByteArray} {i j op n kc kf : Nat} {s0 s1 sc sf : ByteArray} {l : List FS} (h : PS W w P B cap ws i op) (hh : HeadW ws i s0 s1 sc sf kc kf) (ho : op < 100) (hb0 : ws[i + 18]? = some ⟨#[123]⟩) (hc : Chain W P B cap ws (op + 1) n (i + 19) l j) (hb1 : ws[j]? = some ⟨#[125]⟩) (hll : l.length ≤ 1000) :
    Calls Tryz.prog 33 #[.pointer (some ⟨P, 0, none⟩)] w (FunP W P B cap ws (j + 1) op n s0 s1 kc kf l w) := by
  have HH := Lib.hid h
  have HD := Lib.hid hh
  have HB0 := Lib.hid hb0
  have HB1 := Lib.hid hb1
  have HC := Lib.hid hc
  have hPl := lt_of_block h.hP
  have hBl := h.Blt
  have hgP := h.geP
  have hWs := h.below.size
  obtain ⟨w1, hw1⟩ : ∃ w1, w1 = ((w.alloc (Obj.cells #[.pointer (some ⟨P, 0, none⟩)] 77)).alloc (Obj.cells zeroFu 50)).alloc (Obj.cells zeroFu 50) := ⟨_, rfl⟩
  have hF1 : FuSt W w w1 P B cap ws i op zeroFu := by
    have s1 : (w.alloc (Obj.cells #[.pointer (some ⟨P, 0, none⟩)] 77)).heap.size = w.heap.size + 1 := by simp
    have s2 : ((w.alloc (Obj.cells #[.pointer (some ⟨P, 0, none⟩)] 77)).alloc (Obj.cells zeroFu 50)).heap.size = w.heap.size + 2 := by simp
    have hb : Below w.heap.size w w1 := by rw [hw1]; exact (((Below.refl _ _).alloc (Nat.le_refl _) _).alloc (by rw [s1]; omega) _).alloc (by rw [s2]; omega) _
    refine ⟨h.on hb, ?_, ?_, ?_, Keep.of_below hb, hWs, hPl, hBl⟩
    · rw [hw1, heap_alloc_lt (by rw [s2]; omega), heap_alloc_lt (by rw [s1]; omega)]; exact heap_alloc_at _ _
    · rw [hw1, heap_alloc_lt (by rw [s2]; omega), ← s1]; exact heap_alloc_at _ _
    · rw [hw1, ← s2]; exact heap_alloc_at _ _
  have F1 := Lib.hid hF1
  have b1 := cellB' hF1.pb 0 rfl
  have l1 := lt_of_block hF1.pb
  clear h hh hb0 hb1 hc hF1
  have hmf : ∀ (fn : Fn) (first cap : Array Value) (w : World), (Instr.makeFunc fn first cap).run Tryz.prog w = .ok (.func fn first cap) w := fun _ _ _ _ => rfl
  go_enter Tryz.func33, Tryz.ntmps33
  go_upto_region 2 with fail
  rw [← hw1, show w.heap.size + 1 + 1 = w.heap.size + 2 from rfl]
  clear hw1
  go_wp2_with fail
  have hb2 : Below w1.heap.size w1 (w1.alloc (Obj.cells #[Value.string ⟨#[102, 117, 110]⟩] 9)) := (Below.refl _ _).alloc (Nat.le_refl _) _
  refine (want_one (F1.out.ps.on hb2) HD.out.t0 (G := w1.heap.size) (cellB' (heap_alloc_at _ _) 0 rfl)).mono ?_
  rintro e w2 ⟨rfl, hk2, hs2⟩
  have hk2' := (Keep.of_below (S := [P]) hb2).trans hk2
  have F2 := Lib.hid (F1.out.kp hk2' hs2)
  have K2 := Lib.hid (hk2'.mono (S' := [P, w.heap.size + 2]) (fun x hx => by simp at hx; simp [hx]))
  clear hb2 hk2 hs2 hk2'
  clear b1 l1
  have b2 := cellB' F2.out.pb 0 rfl
  have l2 := lt_of_block F2.out.pb
  go_wp2_with fail
  refine (list_one F2.out.ps HD.out.t1 HD.out.t2 HD.out.t3 HD.out.n0 HD.out.m0).mono ?_
  rintro e w3 ⟨⟨G0, rfl, hG0, gG0⟩, hk3, hs3⟩
  have XG0 := Lib.hid hG0
  have YG0 := Lib.hid gG0
  have F3 := Lib.hid (F2.out.kp hk3 hs3)
  have K3 := Lib.hid (hk3.mono (S' := [P, w.heap.size + 2]) (fun x hx => by simp at hx; simp [hx]))
  clear hG0 gG0 hk3 hs3
  clear b2 l2
  have b3 := cellB' F3.out.pb 0 rfl
  have l3 := lt_of_block F3.out.pb
  obtain ⟨⟨y0, y1, y2, y3, y4, y5⟩, q0, q1, q2, q3, q4, q5⟩ := sixf F3.out.f
  have lf3 := lt_of_block F3.out.f
  go_upto_region 4 with fail
  obtain ⟨hF4, hk4⟩ := F3.out.set 0 (.slice (some ⟨G0, 0, none⟩) 1 1)
  have hF4' : FuSt W w (w3.setCell ⟨w.heap.size + 2, 0, none⟩ (.slice (some ⟨G0, 0, none⟩) 1 1)) P B cap ws _ op #[.slice (some ⟨G0, 0, none⟩) 1 1, .slice none 0 0, .int .i64 0, .slice none 0 0, .slice none 0 0, .slice none 0 0] := hF4
  clear hF4
  generalize w3.setCell ⟨w.heap.size + 2, 0, none⟩ (.slice (some ⟨G0, 0, none⟩) 1 1) = w4 at hF4' hk4 ⊢
  have F4 := Lib.hid hF4'
  have K4 := Lib.hid hk4
  clear hF4' hk4 y0 y1 y2 y3 y4 y5 q0 q1 q2 q3 q4 q5 lf3
  clear b3 l3
  have b4 := cellB' F4.out.pb 0 rfl
  have l4 := lt_of_block F4.out.pb
  go_wp2_with fail
  have hb5 : Below w4.heap.size w4 (w4.alloc (Obj.cells #[Value.string ⟨#[61]⟩] 9)) := (Below.refl _ _).alloc (Nat.le_refl _) _
  refine (want_one (F4.out.ps.on hb5) HD.out.t4 (G := w4.heap.size) (cellB' (heap_alloc_at _ _) 0 rfl)).mono ?_
  rintro e w5 ⟨rfl, hk5, hs5⟩
  have hk5' := (Keep.of_below (S := [P]) hb5).trans hk5
  have F5 := Lib.hid (F4.out.kp hk5' hs5)
  have K5 := Lib.hid (hk5'.mono (S' := [P, w.heap.size + 2]) (fun x hx => by simp at hx; simp [hx]))
  clear hb5 hk5 hs5 hk5'
  clear b4 l4
  have b5 := cellB' F5.out.pb 0 rfl
  have l5 := lt_of_block F5.out.pb
  go_wp2_with fail
  refine (list_one F5.out.ps HD.out.t5 HD.out.t6 HD.out.t7 HD.out.n1 HD.out.m1).mono ?_
  rintro e w6 ⟨⟨G1, rfl, hG1, gG1⟩, hk6, hs6⟩
  have XG1 := Lib.hid hG1
  have YG1 := Lib.hid gG1
  have F6 := Lib.hid (F5.out.kp hk6 hs6)
  have K6 := Lib.hid (hk6.mono (S' := [P, w.heap.size + 2]) (fun x hx => by simp at hx; simp [hx]))
  clear hG1 gG1 hk6 hs6
  clear b5 l5
  have b6 := cellB' F6.out.pb 0 rfl
  have l6 := lt_of_block F6.out.pb
  obtain ⟨⟨y0, y1, y2, y3, y4, y5⟩, q0, q1, q2, q3, q4, q5⟩ := sixf F6.out.f
  have lf6 := lt_of_block F6.out.f
  go_upto_region 6 with fail
  obtain ⟨hF7, hk7⟩ := F6.out.set 1 (.slice (some ⟨G1, 0, none⟩) 1 1)
  have hF7' : FuSt W w (w6.setCell ⟨w.heap.size + 2, 1, none⟩ (.slice (some ⟨G1, 0, none⟩) 1 1)) P B cap ws _ op #[.slice (some ⟨G0, 0, none⟩) 1 1, .slice (some ⟨G1, 0, none⟩) 1 1, .int .i64 0, .slice none 0 0, .slice none 0 0, .slice none 0 0] := hF7
  clear hF7
  generalize w6.setCell ⟨w.heap.size + 2, 1, none⟩ (.slice (some ⟨G1, 0, none⟩) 1 1) = w7 at hF7' hk7 ⊢
  have F7 := Lib.hid hF7'
  have K7 := Lib.hid hk7
  clear hF7' hk7 y0 y1 y2 y3 y4 y5 q0 q1 q2 q3 q4 q5 lf6
  clear b6 l6
  have b7 := cellB' F7.out.pb 0 rfl
  have l7 := lt_of_block F7.out.pb
  go_wp2_with fail
  have hb8 : Below w7.heap.size w7 (w7.alloc (Obj.cells #[Value.string ⟨#[99, 101, 108, 108, 115]⟩] 9)) := (Below.refl _ _).alloc (Nat.le_refl _) _
  refine (want_one (F7.out.ps.on hb8) HD.out.t8 (G := w7.heap.size) (cellB' (heap_alloc_at _ _) 0 rfl)).mono ?_
  rintro e w8 ⟨rfl, hk8, hs8⟩
  have hk8' := (Keep.of_below (S := [P]) hb8).trans hk8
  have F8 := Lib.hid (F7.out.kp hk8' hs8)
  have K8 := Lib.hid (hk8'.mono (S' := [P, w.heap.size + 2]) (fun x hx => by simp at hx; simp [hx]))
  clear hb8 hk8 hs8 hk8'
  clear b7 l7
  have b8 := cellB' F8.out.pb 0 rfl
  have l8 := lt_of_block F8.out.pb
  go_wp2_with fail
  refine (number_any F8.out.ps HD.out.t9 HD.out.kcl HD.out.pc HD.out.dc HD.out.zc).mono ?_
  rintro e w9 ⟨rfl, hk9, hs9⟩
  have F9 := Lib.hid (F8.out.kp hk9 hs9)
  have K9 := Lib.hid (hk9.mono (S' := [P, w.heap.size + 2]) (fun x hx => by simp at hx; simp [hx]))
  clear hk9 hs9
  clear b8 l8
  have b9 := cellB' F9.out.pb 0 rfl
  have l9 := lt_of_block F9.out.pb
  obtain ⟨⟨y0, y1, y2, y3, y4, y5⟩, q0, q1, q2, q3, q4, q5⟩ := sixf F9.out.f
  have lf9 := lt_of_block F9.out.f
  go_upto_region 8 with fail
  obtain ⟨hF10, hk10⟩ := F9.out.set 2 (.int .i64 kc)
  have hF10' : FuSt W w (w9.setCell ⟨w.heap.size + 2, 2, none⟩ (.int .i64 kc)) P B cap ws _ op #[.slice (some ⟨G0, 0, none⟩) 1 1, .slice (some ⟨G1, 0, none⟩) 1 1, .int .i64 kc, .slice none 0 0, .slice none 0 0, .slice none 0 0] := hF10
  clear hF10
  generalize w9.setCell ⟨w.heap.size + 2, 2, none⟩ (.int .i64 kc) = w10 at hF10' hk10 ⊢
  have F10 := Lib.hid hF10'
  have K10 := Lib.hid hk10
  clear hF10' hk10 y0 y1 y2 y3 y4 y5 q0 q1 q2 q3 q4 q5 lf9
  clear b9 l9
  have b10 := cellB' F10.out.pb 0 rfl
  have l10 := lt_of_block F10.out.pb
  go_wp2_with fail
  have hb11 : Below w10.heap.size w10 (w10.alloc (Obj.cells #[Value.string ⟨#[102, 108, 97, 103, 115]⟩] 9)) := (Below.refl _ _).alloc (Nat.le_refl _) _
  refine (want_one (F10.out.ps.on hb11) HD.out.t10 (G := w10.heap.size) (cellB' (heap_alloc_at _ _) 0 rfl)).mono ?_
  rintro e w11 ⟨rfl, hk11, hs11⟩
  have hk11' := (Keep.of_below (S := [P]) hb11).trans hk11
  have F11 := Lib.hid (F10.out.kp hk11' hs11)
  have K11 := Lib.hid (hk11'.mono (S' := [P, w.heap.size + 2]) (fun x hx => by simp at hx; simp [hx]))
  clear hb11 hk11 hs11 hk11'
  clear b10 l10
  have b11 := cellB' F11.out.pb 0 rfl
  have l11 := lt_of_block F11.out.pb
  go_wp2_with fail
  refine (till_flags F11.out.ps HD.out.t11 HD.out.t12 HD.out.t13 HD.out.t14 HD.out.mf HD.out.kfl HD.out.pf HD.out.df HD.out.zf F11.out.f F11.out.pb (by omega) (by omega) (by omega) (by omega) (by omega)).mono ?_
  rintro e w12 ⟨rfl, ⟨vf, hvf, hof⟩, hk12, hs12⟩
  obtain ⟨A3, c3, hv3, -⟩ := own_slice hof
  subst hv3
  have F12 := Lib.hid (F11.out.fl hk12 hs12 hvf)
  have K12 := Lib.hid hk12
  have O12 := Lib.hid hof
  clear hvf hof hk12 hs12
  clear b11 l11
  have b12 := cellB' F12.out.pb 0 rfl
  have l12 := lt_of_block F12.out.pb
  go_wp2_with fail
  have hb13 : Below w12.heap.size w12 (w12.alloc (Obj.cells #[Value.string ⟨#[112, 97, 114, 116, 115]⟩] 9)) := (Below.refl _ _).alloc (Nat.le_refl _) _
  refine (want_one (F12.out.ps.on hb13) HD.out.t15 (G := w12.heap.size) (cellB' (heap_alloc_at _ _) 0 rfl)).mono ?_
  rintro e w13 ⟨rfl, hk13, hs13⟩
  have hk13' := (Keep.of_below (S := [P]) hb13).trans hk13
  have F13 := Lib.hid (F12.out.kp hk13' hs13)
  have K13 := Lib.hid (hk13'.mono (S' := [P, w.heap.size + 2]) (fun x hx => by simp at hx; simp [hx]))
  clear hb13 hk13 hs13 hk13'
  clear b12 l12
  have b13 := cellB' F13.out.pb 0 rfl
  have l13 := lt_of_block F13.out.pb
  go_wp2_with fail
  refine (till_none F13.out.ps HD.out.t16 HD.out.t17 _ _ _).mono ?_
  rintro e w14 ⟨rfl, hk14, hs14⟩
  have F14 := Lib.hid (F13.out.kp hk14 hs14)
  have K14 := Lib.hid (hk14.mono (S' := [P, w.heap.size + 2]) (fun x hx => by simp at hx; simp [hx]))
  clear hk14 hs14
  clear b13 l13
  have b14 := cellB' F14.out.pb 0 rfl
  have l14 := lt_of_block F14.out.pb
  go_wp2_with fail
  refine (block_any F14.out.ps ho HB0.out HC.out HB1.out hll).mono ?_
  rintro e w15 ⟨⟨vb, rfl, hvb⟩, hk15, hs15⟩
  obtain ⟨A5, c5, hv5, -⟩ := own_slice hvb.choose_spec.1
  subst hv5
  have F15 := Lib.hid (F14.out.kp hk15 hs15)
  have K15 := Lib.hid (hk15.mono (S' := [P, w.heap.size + 2]) (fun x hx => by simp at hx; simp [hx]))
  have Y15 := Lib.hid hvb
  clear hk15 hs15 hvb
  clear b14 l14
  have b15 := cellB' F15.out.pb 0 rfl
  have l15 := lt_of_block F15.out.pb
  obtain ⟨⟨y0, y1, y2, y3, y4, y5⟩, q0, q1, q2, q3, q4, q5⟩ := sixf F15.out.f
  have lf15 := lt_of_block F15.out.f
  go_upto_region 13 with fail
  obtain ⟨hF16, hk16⟩ := F15.out.set 5 (.slice A5 l.length c5)
  have hF16' : FuSt W w (w15.setCell ⟨w.heap.size + 2, 5, none⟩ (.slice A5 l.length c5)) P B cap ws _ op #[.slice (some ⟨G0, 0, none⟩) 1 1, .slice (some ⟨G1, 0, none⟩) 1 1, .int .i64 kc, .slice A3 1 c3, .slice none 0 0, .slice A5 l.length c5] := hF16
  clear hF16
  generalize w15.setCell ⟨w.heap.size + 2, 5, none⟩ (.slice A5 l.length c5) = w16 at hF16' hk16 ⊢
  have F16 := Lib.hid hF16'
  have K16 := Lib.hid hk16
  clear hF16' hk16 y0 y1 y2 y3 y4 y5 q0 q1 q2 q3 q4 q5 lf15
  clear b15 l15
  have b16 := cellB' F16.out.pb 0 rfl
  have l16 := lt_of_block F16.out.pb
  obtain ⟨⟨y0, y1, y2, y3, y4, y5⟩, -⟩ := sixf F16.out.f
  obtain ⟨⟨v0, v1, v2, v3, v4, v5⟩, q0, q1, q2, q3, q4, q5⟩ := sixf F16.out.r
  have lf16 := lt_of_block F16.out.f
  have lr16 := lt_of_block F16.out.r
  go_wp2_with fail
  obtain ⟨we, hwe⟩ : ∃ we, we = (((((w16.setCell ⟨w.heap.size + 1, 0, none⟩ (.slice (some ⟨G0, 0, none⟩) 1 1)).setCell ⟨w.heap.size + 1, 1, none⟩ (.slice (some ⟨G1, 0, none⟩) 1 1)).setCell ⟨w.heap.size + 1, 2, none⟩ (.int .i64 kc)).setCell ⟨w.heap.size + 1, 3, none⟩ (.slice A3 1 c3)).setCell ⟨w.heap.size + 1, 4, none⟩ (.slice none 0 0)).setCell ⟨w.heap.size + 1, 5, none⟩ (.slice A5 l.length c5) := ⟨_, rfl⟩
  rw [← hwe]
  obtain ⟨hR, kr⟩ := set6f F16.out.r _ _ _ _ _ _ we hwe
  obtain ⟨⟨v0', v1', v2', v3', v4', v5'⟩, -⟩ := sixf hR
  have hlF := lt_of_block F1.out.f
  have hy : ∀ y, y ∈ [w.heap.size + 1] → y = w.heap.size + 1 := fun y hy => by simpa using hy
  have hy2 : ∀ y, y ∈ [P, w.heap.size + 2] → y < w.heap.size + 3 := fun y hy => by simp at hy; omega
  have c2 := K2.out.size
  have c3' := K3.out.size
  have c4 := K4.out.size
  have c5' := K5.out.size
  have c6 := K6.out.size
  have c7 := K7.out.size
  have c8 := K8.out.size
  have c9 := K9.out.size
  have c10 := K10.out.size
  have c11 := K11.out.size
  have c12 := K12.out.size
  have c13 := K13.out.size
  have c14 := K14.out.size
  have g0 := YG0.out
  have g1 := YG1.out
  clear hwe y0 y1 y2 y3 y4 y5 v0 v1 v2 v3 v4 v5 q0 q1 q2 q3 q4 q5
  have kb := K16.out
  have k15 := K15.out.trans kb
  have k12 := (K13.out.trans K14.out).trans k15
  have k6 := (((((K7.out.trans K8.out).trans K9.out).trans K10.out).trans K11.out).trans K12.out).trans k12
  have k3 := ((K4.out.trans K5.out).trans K6.out).trans k6
  refine bodyPost_ret (v := .agg #[.slice (some ⟨G0, 0, none⟩) 1 1, .slice (some ⟨G1, 0, none⟩) 1 1, .int .i64 kc, .slice A3 1 c3, .slice none 0 0, .slice A5 l.length c5]) ?_ rfl ?_
  · simp [results, Tryz.results33, go_sem, v0', v1', v2', v3', v4', v5']
  · refine ⟨⟨_, rfl, G0, G1, A3, c3, A5, c5, rfl, ?_, ?_, by omega, by omega, ?_, ?_⟩, F16.out.keep.old kr (fun y h => .inr (by rw [hy y h]; omega)), F16.out.ps.kept kr (fun y h => by rw [hy y h]; omega)⟩
    · exact (kr.block _ (lt_of_block ((k3.block _ (lt_of_block XG0.out) (fun hm => by have := hy2 _ hm; omega)).trans XG0.out)) (fun hm => by have := hy _ hm; omega)).trans ((k3.block _ (lt_of_block XG0.out) (fun hm => by have := hy2 _ hm; omega)).trans XG0.out)
    · exact (kr.block _ (lt_of_block ((k6.block _ (lt_of_block XG1.out) (fun hm => by have := hy2 _ hm; omega)).trans XG1.out)) (fun hm => by have := hy _ hm; omega)).trans ((k6.block _ (lt_of_block XG1.out) (fun hm => by have := hy2 _ hm; omega)).trans XG1.out)
    · exact own_weaken (own_keep (own_keep O12.out k12 (fun y h => by have := hy2 y h; omega)) kr (fun y h => by rw [hy y h]; omega)) (by omega)
    · exact ((Y15.out.keep K16.out (fun y h => by have := hy2 y h; omega)).keep kr (fun y h => by rw [hy y h]; omega)).low (by omega)
end Go.Proofs.YtoaajpppbjaomaaGreatDoor
