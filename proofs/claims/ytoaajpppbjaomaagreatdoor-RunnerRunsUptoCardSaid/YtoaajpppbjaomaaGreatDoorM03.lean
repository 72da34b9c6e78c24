/- Texts merged by program: parts Ri, Rp, Qo, Ql, Rj, Rk. -/
import Derived.Test.YtoaajpppbjaomaaGreatDoorM02
import Derived.StillTail
/- The runner's statements. -/
namespace Go.Proofs.YtoaajpppbjaomaaGreatDoor
open Go.RowKit
def DoRel (W : World) (F R M V : Nat) (fv : Value) (base : Nat) (I : Inst) (funs : List FN) (l : List FS) (st : St) (w0 : World) (i : Value) (wr : World) : Prop :=
  ∃ (j : Nat) (sj : St), j ≤ l.length ∧ i = .int .i64 j ∧ RnF W wr F R M V fv base sj.mem sj.cnt sj.vs ∧ doL I funs base l st = doL I funs base (l.drop j) sj ∧ Keep [R, M, V] w0 wr
/-- a statement, cell by cell -/
theorem stmt_cells {W w : World} {n : Nat} {v : Value} {l : List FS} (h : RepV (RepS W (n + 1)) 12 W v l) (hb : Below W.heap.size W w) {j : Nat} (hj : j < l.length) :
    ∃ b o c op name at_ fn names e args arms aN cN eo en ev aC lC cC aK lK cK aA cA aR cR, v = .slice (some ⟨b, o, none⟩) l.length c ∧ b < W.heap.size ∧ l[j] = .mk op name at_ fn names e args arms ∧
      w.cell? ⟨b, o + j * 12, none⟩ = some (.int .i64 op) ∧ w.cell? ⟨b, o + j * 12 + 1, none⟩ = some (.string name) ∧ w.cell? ⟨b, o + j * 12 + 2, none⟩ = some (.int .i64 at_) ∧ w.cell? ⟨b, o + j * 12 + 3, none⟩ = some (.int .i64 fn) ∧
      w.cell? ⟨b, o + j * 12 + 4, none⟩ = some (.slice aN names.length cN) ∧ w.cell? ⟨b, o + j * 12 + 5, none⟩ = some (.int .i64 eo) ∧ w.cell? ⟨b, o + j * 12 + 6, none⟩ = some (.string en) ∧ w.cell? ⟨b, o + j * 12 + 7, none⟩ = some (.int .i64 ev) ∧
      w.cell? ⟨b, o + j * 12 + 8, none⟩ = some (.slice aC lC cC) ∧ w.cell? ⟨b, o + j * 12 + 9, none⟩ = some (.slice aK lK cK) ∧ w.cell? ⟨b, o + j * 12 + 10, none⟩ = some (.slice aA args.length cA) ∧ w.cell? ⟨b, o + j * 12 + 11, none⟩ = some (.slice aR arms.length cR) ∧
      I64 op ∧ I64 at_ ∧ I64 fn ∧ RepV RStr 1 W (.slice aN names.length cN) names ∧ RepX W n e [.int .i64 eo, .string en, .int .i64 ev, .slice aC lC cC, .slice aK lK cK] ∧ RepV (RepX W n) 5 W (.slice aA args.length cA) args ∧ RepV (RepA (RepS W n) W) 2 W (.slice aR arms.length cR) arms := by
  obtain ⟨A, c, rfl, h1, h2, h3, h4⟩ := h.get hb
  obtain ⟨b, o, cs, rfl, hlt, hlen, hR, hAt⟩ := h4 j _ (List.getElem?_eq_getElem hj)
  generalize hs : l[j] = s at *
  obtain ⟨op, name, at_, fn, names, e, args, arms⟩ := s
  obtain ⟨vn, ce, va, vr, rfl, i1, i2, i3, i4, q1, q2, q3, q4⟩ := hR
  obtain ⟨aN, cN, rfl, _⟩ := q1.sl
  obtain ⟨aA, cA, rfl, _⟩ := q3.sl
  obtain ⟨aR, cR, rfl, _⟩ := q4.sl
  cases n with
  | zero => exact q2.elim
  | succ n =>
    have q2' := q2
    obtain ⟨eo, en, ev, kids⟩ := e
    obtain ⟨ec, ek, rfl, hec, _, _, _, hk⟩ := q2
    obtain ⟨_, A', c', rfl, _⟩ := hk
    obtain ⟨aC, lC, cC, rfl⟩ := hec
    exact ⟨b, o, c, op, name, at_, fn, names, _, args, arms, aN, cN, eo, en, ev, aC, lC, cC, _, _, _, aA, cA, aR, cR, rfl, hlt, rfl, hAt 0 _ rfl, hAt 1 _ rfl, hAt 2 _ rfl, hAt 3 _ rfl, hAt 4 _ rfl, hAt 5 _ rfl, hAt 6 _ rfl, hAt 7 _ rfl, hAt 8 _ rfl, hAt 9 _ rfl, hAt 10 _ rfl, hAt 11 _ rfl, i1, i2, i3, q1, q2', q3, q4⟩
end Go.Proofs.YtoaajpppbjaomaaGreatDoor
/- The runner's below: are all functions that statements name below k? -/
namespace Go.Proofs.YtoaajpppbjaomaaGreatDoor
open Go.RowKit
/-- where the first one stands of which p holds; -1: there is none -/
def idxOf {α : Type} (p : α → Bool) : List α → Int
  | [] => -1
  | a :: r => if p a then 0 else if idxOf p r < 0 then -1 else idxOf p r + 1
def NoneTo {α : Type} (p : α → Bool) (l : List α) (j : Nat) : Prop := ∀ i a, i < j → l[i]? = some a → p a = false
theorem idxOf_at {α : Type} (p : α → Bool) : ∀ (l : List α) (j : Nat) (a : α), NoneTo p l j → l[j]? = some a → p a = true → idxOf p l = j
  | [], j, a, _, h, _ => by simp at h
  | x :: r, 0, a, _, h, hv => by simp at h; subst h; simp [idxOf, hv]
  | x :: r, j + 1, a, hn, h, hv => by
    have h0 := hn 0 x (by omega) rfl
    have ih := idxOf_at p r j a (fun i b hi hb => hn (i + 1) b (by omega) (by simpa using hb)) (by simpa using h) hv
    simp only [idxOf, h0]
    rw [if_neg (by simp), ih, if_neg (by omega)]
    omega
theorem idxOf_none {α : Type} (p : α → Bool) : ∀ (l : List α), NoneTo p l l.length → idxOf p l = -1
  | [], _ => rfl
  | x :: r, hn => by
    have h0 := hn 0 x (by simp) rfl
    have ih := idxOf_none p r (fun i b hi hb => hn (i + 1) b (by simp; omega) (by simpa using hb))
    simp only [idxOf, h0]
    rw [if_neg (by simp), ih, if_pos (by omega)]
theorem idxOf_any {α : Type} (p : α → Bool) : ∀ (l : List α), decide (0 ≤ idxOf p l) = l.any p
  | [] => by simp [idxOf]
  | x :: r => by
    have ih := idxOf_any p r
    simp only [idxOf, List.any_cons]
    by_cases hx : p x = true
    · simp [hx]
    · simp only [hx, if_false, Bool.false_or, ← ih, Bool.false_eq_true]
      by_cases h : idxOf p r < 0
      · rw [if_pos h]; simp; omega
      · rw [if_neg h]; simp; omega
theorem idxOf_range {α : Type} (p : α → Bool) : ∀ (l : List α), -1 ≤ idxOf p l ∧ idxOf p l ≤ l.length
  | [] => by simp [idxOf]
  | x :: r => by
    have ih := idxOf_range p r
    simp only [idxOf, List.length_cons]
    split
    · omega
    · split <;> omega
theorem heap_alloc_at' (w : World) (o : Obj) : (w.alloc o).heap[w.heap.size]? = some o := by show (w.heap.push _)[w.heap.size]? = _; rw [Array.getElem?_push_size]
def FRel {α : Type} (p : α → Bool) (l : List α) (w : World) (i : Value) (wr : World) : Prop := ∃ j : Nat, j ≤ l.length ∧ i = .int .i64 j ∧ NoneTo p l j ∧ Below w.heap.size w wr
set_option maxRecDepth 100000 in
set_option maxHeartbeats 400000 in
theorem idxA_any {W : World} {R : FS → List Value → Prop} (kb : Nat) (p : FA → Bool) (A : Option Addr) (l : List FA) (c : Nat) (w : World) (hW : Below W.heap.size W w) (hrep : RepV (RepA R W) 2 W (.slice A l.length c) l)
    (HP : ∀ a A2 c2, a ∈ l → RepV R 12 W (.slice A2 a.body.length c2) a.body → ∀ w', Below w.heap.size w w' → Calls Tryz.prog 58 #[.agg #[.int .i64 a.n, .slice A2 a.body.length c2], .pointer (some ⟨kb, 0, none⟩)] w' (RetB (.bool (p a)) w')) :
    Calls Tryz.prog 64 #[.slice A l.length c, .func (.func 58) #[] #[.pointer (some ⟨kb, 0, none⟩)]] w (RetB (.int .i64 (idxOf p l)) w) := by
  have hll := hrep.1
  have HREP := Lib.hid hrep
  have HP' := Lib.hid HP
  clear hrep HP
  go_enter Tryz.func64, Tryz.ntmps64
  go_wp2_with fail
  go_loopw [8] (fun i wr => FRel p l w i wr) (fun i _ => l.length - (intOf i).toNat)
  case atStart => exact ⟨0, Nat.zero_le _, rfl, fun i a hi => by omega, Below.refl _ _⟩
  case round =>
    obtain ⟨j, hj, rfl, hn, hb⟩ := hrel
    by_cases hj2 : j < l.length
    · obtain ⟨_, _, he, _, _, _, hget⟩ := HREP.out.get (hW.trans (hb.mono hW.size))
      obtain ⟨bF, oF, cs, hAf, hbF, _, hRI, hAt⟩ := hget j _ (List.getElem?_eq_getElem hj2)
      obtain ⟨vb, rfl, _, hvb⟩ := hRI
      obtain ⟨A2, c2, rfl, _⟩ := hvb.sl
      have h0 : wr.cell? ⟨bF, oF + j * 2, none⟩ = some (.int .i64 l[j].n) := hAt 0 _ rfl
      have h1 : wr.cell? ⟨bF, oF + j * 2 + 1, none⟩ = some (.slice A2 l[j].body.length c2) := hAt 1 _ rfl
      injection he with he1 he2 he3
      subst he1
      subst hAf
      have HB := Lib.hid hb
      have HN := Lib.hid hn
      have HG := Lib.hid (List.getElem?_eq_getElem hj2)
      have HV := Lib.hid hvb
      clear hget hAt he2 he3 hvb hb hn
      have hcall := HP'.out l[j] A2 c2 (List.getElem_mem _) HV.out wr HB.out
      have HC := Lib.hid hcall
      clear hcall
      go_wp2_with fail
      refine HC.out.mono ?_
      rintro e w2 ⟨rfl, hb2⟩
      have HB2 := Lib.hid hb2
      clear hb2
      cases hp : p l[j] with
      | true =>
        have HPJ := Lib.hid hp
        clear hp
        go_wp2_with fail
        go_ret
        refine ⟨?_, HB.out.trans (HB2.out.mono HB.out.size)⟩
        rw [idxOf_at p l j _ HN.out HG.out HPJ.out]; rfl
      | false =>
        have HPJ := Lib.hid hp
        clear hp
        go_wp2_with fail
        refine ⟨⟨j + 1, by omega, by go_num, fun i a hi ha => ?_, HB.out.trans (HB2.out.mono HB.out.size)⟩, by simp [intOf]; omega⟩
        rcases Nat.lt_or_ge i j with h | h
        · exact HN.out i a h ha
        · obtain rfl : i = j := by omega
          rw [HG.out] at ha
          simp only [Option.some.injEq] at ha
          rw [← ha, HPJ.out]
    · obtain rfl : j = l.length := by omega
      have HB := Lib.hid hb
      have HN := Lib.hid (idxOf_none p l hn)
      clear hb hn
      go_wp2_with fail
      go_ret
      exact ⟨by rw [HN.out]; rfl, HB.out⟩
set_option maxRecDepth 100000 in
set_option maxHeartbeats 400000 in
theorem idxS_any {W : World} {n : Nat} (kb : Nat) (p : FS → Bool) (A : Option Addr) (l : List FS) (c : Nat) (w : World) (hW : Below W.heap.size W w) (hrep : RepV (RepS W (n + 1)) 12 W (.slice A l.length c) l)
    (HP : ∀ op name at_ fn names e args arms aN cN eo en ev aC lC cC aK lK cK aA cA aR cR, FS.mk op name at_ fn names e args arms ∈ l → I64 op → I64 fn → RepV (RepA (RepS W n) W) 2 W (.slice aR arms.length cR) arms → ∀ w', Below w.heap.size w w' →
      Calls Tryz.prog 56 #[.agg #[.int .i64 op, .string name, .int .i64 at_, .int .i64 fn, .slice aN names.length cN, .int .i64 eo, .string en, .int .i64 ev, .slice aC lC cC, .slice aK lK cK, .slice aA args.length cA, .slice aR arms.length cR], .pointer (some ⟨kb, 0, none⟩)] w' (RetB (.bool (p (FS.mk op name at_ fn names e args arms))) w')) :
    Calls Tryz.prog 82 #[.slice A l.length c, .func (.func 56) #[] #[.pointer (some ⟨kb, 0, none⟩)]] w (RetB (.int .i64 (idxOf p l)) w) := by
  have hll := hrep.1
  have HREP := Lib.hid hrep
  have HP' := Lib.hid HP
  clear hrep HP
  go_enter Tryz.func82, Tryz.ntmps82
  go_wp2_with fail
  go_loopw [8] (fun i wr => FRel p l w i wr) (fun i _ => l.length - (intOf i).toNat)
  case atStart => exact ⟨0, Nat.zero_le _, rfl, fun i a hi => by omega, Below.refl _ _⟩
  case round =>
    obtain ⟨j, hj, rfl, hn, hb⟩ := hrel
    by_cases hj2 : j < l.length
    · obtain ⟨bF, oF, c', op, name, at_, fn, names, e, args, arms, aN, cN, eo, en, ev, aC, lC, cC, aK, lK, cK, aA, cA, aR, cR, he, hbF, hs, q0, q1, q2, q3, q4, q5, q6, q7, q8, q9, q10, q11, i1, i2, i3, p1, p2, p3, p4⟩ := stmt_cells HREP.out (hW.trans (hb.mono hW.size)) hj2
      injection he with he1 he2 he3
      subst he1
      have HB := Lib.hid hb
      have HN := Lib.hid hn
      have HG := Lib.hid (List.getElem?_eq_getElem hj2)
      have hmem : FS.mk op name at_ fn names e args arms ∈ l := by rw [← hs]; exact List.getElem_mem _
      have HC := Lib.hid (HP'.out op name at_ fn names e args arms aN cN eo en ev aC lC cC aK lK cK aA cA aR cR hmem i1 i3 p4 wr HB.out)
      have HSJ := Lib.hid hs
      clear he2 he3 hb hn hmem p1 p2 p3 p4 hs
      go_wp2_with fail
      refine HC.out.mono ?_
      rintro e2 w2 ⟨rfl, hb2⟩
      have HB2 := Lib.hid hb2
      clear hb2
      generalize hp : p (FS.mk op name at_ fn names e args arms) = pb
      have HPJ := Lib.hid hp
      clear hp
      cases pb with
      | true =>
        go_wp2_with fail
        go_ret
        refine ⟨?_, HB.out.trans (HB2.out.mono HB.out.size)⟩
        rw [idxOf_at p l j _ HN.out HG.out (by rw [HSJ.out]; exact HPJ.out)]; rfl
      | false =>
        go_wp2_with fail
        refine ⟨⟨j + 1, by omega, by go_num, fun i a hi ha => ?_, HB.out.trans (HB2.out.mono HB.out.size)⟩, by simp [intOf]; omega⟩
        rcases Nat.lt_or_ge i j with h | h
        · exact HN.out i a h ha
        · obtain rfl : i = j := by omega
          rw [HG.out] at ha
          simp only [Option.some.injEq] at ha
          rw [← ha, HSJ.out, HPJ.out]
    · obtain rfl : j = l.length := by omega
      have HB := Lib.hid hb
      have HN := Lib.hid (idxOf_none p l hn)
      clear hb hn
      go_wp2_with fail
      go_ret
      exact ⟨by rw [HN.out]; rfl, HB.out⟩
theorem contA_any {W : World} {R : FS → List Value → Prop} (kb : Nat) (p : FA → Bool) (A : Option Addr) (l : List FA) (c : Nat) (w : World) (hW : Below W.heap.size W w) (hrep : RepV (RepA R W) 2 W (.slice A l.length c) l)
    (HP : ∀ a A2 c2, a ∈ l → RepV R 12 W (.slice A2 a.body.length c2) a.body → ∀ w', Below w.heap.size w w' → Calls Tryz.prog 58 #[.agg #[.int .i64 a.n, .slice A2 a.body.length c2], .pointer (some ⟨kb, 0, none⟩)] w' (RetB (.bool (p a)) w')) :
    Calls Tryz.prog 57 #[.slice A l.length c, .func (.func 58) #[] #[.pointer (some ⟨kb, 0, none⟩)]] w (RetB (.bool (l.any p)) w) := by
  have HC := Lib.hid (idxA_any kb p A l c w hW hrep HP)
  clear hrep HP
  go_enter Tryz.func57, Tryz.ntmps57
  go_wp2_with fail
  refine HC.out.mono ?_
  rintro e w2 ⟨rfl, hb2⟩
  have HB2 := Lib.hid hb2
  clear hb2
  go_wp2_with fail
  go_ret
  exact ⟨by rw [← idxOf_any]; rfl, HB2.out⟩
theorem contS_any {W : World} {n : Nat} (kb : Nat) (p : FS → Bool) (A : Option Addr) (l : List FS) (c : Nat) (w : World) (hW : Below W.heap.size W w) (hrep : RepV (RepS W (n + 1)) 12 W (.slice A l.length c) l)
    (HP : ∀ op name at_ fn names e args arms aN cN eo en ev aC lC cC aK lK cK aA cA aR cR, FS.mk op name at_ fn names e args arms ∈ l → I64 op → I64 fn → RepV (RepA (RepS W n) W) 2 W (.slice aR arms.length cR) arms → ∀ w', Below w.heap.size w w' →
      Calls Tryz.prog 56 #[.agg #[.int .i64 op, .string name, .int .i64 at_, .int .i64 fn, .slice aN names.length cN, .int .i64 eo, .string en, .int .i64 ev, .slice aC lC cC, .slice aK lK cK, .slice aA args.length cA, .slice aR arms.length cR], .pointer (some ⟨kb, 0, none⟩)] w' (RetB (.bool (p (FS.mk op name at_ fn names e args arms))) w')) :
    Calls Tryz.prog 55 #[.slice A l.length c, .func (.func 56) #[] #[.pointer (some ⟨kb, 0, none⟩)]] w (RetB (.bool (l.any p)) w) := by
  have HC := Lib.hid (idxS_any kb p A l c w hW hrep HP)
  clear hrep HP
  go_enter Tryz.func55, Tryz.ntmps55
  go_wp2_with fail
  refine HC.out.mono ?_
  rintro e w2 ⟨rfl, hb2⟩
  have HB2 := Lib.hid hb2
  clear hb2
  go_wp2_with fail
  go_ret
  exact ⟨by rw [← idxOf_any]; rfl, HB2.out⟩
def BelowC (W : World) (n : Nat) : Prop := ∀ (l : List FS) (A : Option Addr) (c : Nat) (k : Int) (w : World), Below W.heap.size W w → RepV (RepS W n) 12 W (.slice A l.length c) l →
  Calls Tryz.prog 35 #[.slice A l.length c, .int .i64 k] w (RetB (.bool (callsL l k)) w)
theorem belowA_any {W : World} {n : Nat} (IH : BelowC W n) (m : Int) (A : Option Addr) (body : List FS) (c kb : Nat) (k : Int) (w : World) (hW : Below W.heap.size W w) (hrep : RepV (RepS W n) 12 W (.slice A body.length c) body) (hlt : kb < w.heap.size)
    (hc : w.cell? ⟨kb, 0, none⟩ = some (.int .i64 k)) :
    Calls Tryz.prog 58 #[.agg #[.int .i64 m, .slice A body.length c], .pointer (some ⟨kb, 0, none⟩)] w (RetB (.bool (!callsL body k)) w) := by
  have HI := Lib.hid (IH body A c k (w.alloc (Obj.cells #[.int .i64 m, .slice A body.length c] 90)) (hW.alloc hW.size _) hrep)
  clear hrep IH
  go_enter Tryz.func58, Tryz.ntmps58
  go_wp2_with fail
  refine HI.out.mono ?_
  rintro e w2 ⟨rfl, hb2⟩
  have HB2 := Lib.hid hb2
  clear hb2
  go_wp2_with fail
  go_ret
  exact ⟨rfl, ((Below.refl _ _).alloc (Nat.le_refl _) _).trans (HB2.out.mono (by simp))⟩
theorem callsAs_any (l : List FA) (k : Int) : callsAs l k = !(l.any fun a => !callsL a.body k) := by
  induction l with
  | nil => rfl
  | cons a r ih =>
    cases a
    simp only [callsAs, callsA, List.any_cons, Bool.not_or, Bool.not_not, ih, FA.body]
theorem callsL_any (l : List FS) (k : Int) : callsL l k = !(l.any fun s => !callsS s k) := by
  induction l with
  | nil => rfl
  | cons a r ih => simp only [callsL, List.any_cons, Bool.not_or, Bool.not_not, ih]
set_option maxRecDepth 100000 in
set_option maxHeartbeats 400000 in
theorem belowS_any {W : World} {n : Nat} (IH : BelowC W n) (op fn at_ : Int) (name : ByteArray) (names : List ByteArray) (e : XE) (args : List XE) (arms : List FA) (aN : Option Addr) (cN : Nat) (eo : Int) (en : ByteArray) (ev : Int) (aC : Option Addr) (lC cC : Nat) (aK : Option Addr) (lK cK : Nat) (aA : Option Addr) (cA : Nat) (aR : Option Addr) (cR : Nat) (kb : Nat) (k : Int) (w : World)
    (hW : Below W.heap.size W w) (hrep : RepV (RepA (RepS W n) W) 2 W (.slice aR arms.length cR) arms) (hlt : kb < w.heap.size) (hc : w.cell? ⟨kb, 0, none⟩ = some (.int .i64 k)) :
    Calls Tryz.prog 56 #[.agg #[.int .i64 op, .string name, .int .i64 at_, .int .i64 fn, .slice aN names.length cN, .int .i64 eo, .string en, .int .i64 ev, .slice aC lC cC, .slice aK lK cK, .slice aA args.length cA, .slice aR arms.length cR], .pointer (some ⟨kb, 0, none⟩)] w (RetB (.bool (!callsS (FS.mk op name at_ fn names e args arms) k)) w) := by
  have hmf : ∀ (fn : Fn) (first cap : Array Value) (w : World), (Instr.makeFunc fn first cap).run Tryz.prog w = .ok (.func fn first cap) w := fun _ _ _ _ => rfl
  have e1 : (!callsS (FS.mk op name at_ fn names e args arms) k) = (((op == 3 || op == 4) && (decide (fn < 0) || decide (k ≤ fn))) || arms.any fun a => !callsL a.body k) := by
    simp [callsS, callsAs_any]
  rw [e1]
  have HC : ∀ w', Below w.heap.size w w' → Calls Tryz.prog 57 #[.slice aR arms.length cR, .func (.func 58) #[] #[.pointer (some ⟨kb, 0, none⟩)]] w' (RetB (.bool (arms.any fun a => !callsL a.body k)) w') := fun w' hw' =>
    contA_any kb (fun a => !callsL a.body k) aR arms cR w' (hW.trans (hw'.mono hW.size)) hrep (fun a A2 c2 _ hr w2 hw2 =>
      belowA_any IH a.n A2 a.body c2 kb k w2 ((hW.trans (hw'.mono hW.size)).trans (hw2.mono (Nat.le_trans hW.size hw'.size))) hr (Nat.lt_of_lt_of_le hlt (Nat.le_trans hw'.size hw2.size))
        (((hw2.cell (p := ⟨kb, 0, none⟩) (Nat.lt_of_lt_of_le hlt hw'.size)).trans (hw'.cell (p := ⟨kb, 0, none⟩) hlt)).trans hc))
  have HC' := Lib.hid HC
  clear HC IH hrep e1
  have hb0 : Below w.heap.size w (w.alloc (Obj.cells #[.int .i64 op, .string name, .int .i64 at_, .int .i64 fn, .slice aN names.length cN, .int .i64 eo, .string en, .int .i64 ev, .slice aC lC cC, .slice aK lK cK, .slice aA args.length cA, .slice aR arms.length cR] 88)) := (Below.refl _ _).alloc (Nat.le_refl _) _
  have HB0 := Lib.hid hb0
  clear hb0
  generalize hany : (arms.any fun a => !callsL a.body k) = ba
  rw [hany] at HC'
  cases h3 : (op == 3) <;> cases h4 : (op == 4) <;> cases hl : decide (fn < 0) <;> cases hg : decide (k ≤ fn) <;> simp only [Bool.or_true, Bool.or_false, Bool.true_and, Bool.false_and, Bool.true_or, Bool.false_or] <;>
  go_enter Tryz.func56, Tryz.ntmps56 <;>
  (go_wp2_with fail) <;>
  first
  | (go_ret; exact ⟨rfl, HB0.out⟩)
  | (refine (HC'.out _ HB0.out).mono ?_
     rintro e w2 ⟨rfl, hb2⟩
     have HB2 := Lib.hid hb2
     clear hb2
     go_wp2_with fail
     go_ret
     exact ⟨rfl, HB0.out.trans (HB2.out.mono HB0.out.size)⟩)
set_option maxRecDepth 100000 in
set_option maxHeartbeats 400000 in
theorem below_core {W : World} {n : Nat} (l : List FS) (A : Option Addr) (c : Nat) (k : Int) (w : World) (hW : Below W.heap.size W w) (hrep : RepV (RepS W (n + 1)) 12 W (.slice A l.length c) l) (IH : l ≠ [] → BelowC W n) :
    Calls Tryz.prog 35 #[.slice A l.length c, .int .i64 k] w (RetB (.bool (callsL l k)) w) := by
  have hmf : ∀ (fn : Fn) (first cap : Array Value) (w : World), (Instr.makeFunc fn first cap).run Tryz.prog w = .ok (.func fn first cap) w := fun _ _ _ _ => rfl
  have hb0 : Below w.heap.size w (w.alloc (Obj.cells #[.int .i64 k] 3)) := (Below.refl _ _).alloc (Nat.le_refl _) _
  have hk0 : (w.alloc (Obj.cells #[.int .i64 k] 3)).heap[w.heap.size]? = some (Obj.cells #[.int .i64 k] 3 (0, 0)) := heap_alloc_at' _ _
  have HB0 := Lib.hid hb0
  have HC : Calls Tryz.prog 55 #[.slice A l.length c, .func (.func 56) #[] #[.pointer (some ⟨w.heap.size, 0, none⟩)]] (w.alloc (Obj.cells #[.int .i64 k] 3)) (RetB (.bool (l.any fun s => !callsS s k)) (w.alloc (Obj.cells #[.int .i64 k] 3))) :=
    contS_any w.heap.size (fun s => !callsS s k) A l c _ (hW.trans (hb0.mono hW.size)) hrep (fun op name at_ fn names e args arms aN cN eo en ev aC lC cC aK lK cK aA cA aR cR hmem _ _ hr w2 hw2 =>
      belowS_any (IH (List.ne_nil_of_mem hmem)) op fn at_ name names e args arms aN cN eo en ev aC lC cC aK lK cK aA cA aR cR w.heap.size k w2 ((hW.trans (hb0.mono hW.size)).trans (hw2.mono (Nat.le_trans hW.size hb0.size))) hr (Nat.lt_of_lt_of_le (lt_of_block hk0) hw2.size)
        ((hw2.cell (p := ⟨w.heap.size, 0, none⟩) (lt_of_block hk0)).trans (cellB' hk0 0 rfl)))
  have HC' := Lib.hid HC
  rw [callsL_any]
  clear HC IH hb0 hk0 hrep
  generalize (l.any fun s => !callsS s k) = b at HC' ⊢
  go_enter Tryz.func35, Tryz.ntmps35
  go_wp2_with fail
  refine HC'.out.mono ?_
  rintro e w2 ⟨rfl, hb2⟩
  have HB2 := Lib.hid hb2
  clear hb2
  go_wp2_with fail
  go_ret
  exact ⟨rfl, HB0.out.trans (HB2.out.mono HB0.out.size)⟩
theorem repS_nil {W : World} {n : Nat} {A : Option Addr} {c : Nat} {l : List FS} (h : RepV (RepS W 0) 12 W (.slice A l.length c) l) : l = [] ∧ RepV (RepS W n) 12 W (.slice A l.length c) l := by
  have hl : l = [] := by
    cases l with
    | nil => rfl
    | cons a r =>
      obtain ⟨_, _, _, _, _, _, hget⟩ := h.get (Below.refl _ _)
      obtain ⟨_, _, _, _, _, _, hR, _⟩ := hget 0 a rfl
      exact hR.elim
  subst hl
  obtain ⟨h1, A', c', he, h2, h3, _⟩ := h
  exact ⟨rfl, h1, A', c', he, h2, h3, fun h => by simp at h⟩
theorem below_any (W : World) : ∀ n, BelowC W n := by
  intro n
  induction n with
  | zero =>
    intro l A c k w hW hrep
    obtain ⟨hl, hr⟩ := repS_nil (n := 1) hrep
    exact below_core l A c k w hW hr (fun h => absurd hl h)
  | succ n ih => exact fun l A c k w hW hrep => below_core l A c k w hW hrep (fun _ => ih)
end Go.Proofs.YtoaajpppbjaomaaGreatDoor
/- A drawn region one of whose operations, the n-th, ends the call (a panic goes through it) whenever it comes up, while those before it are quiet: the first ones may be walked in the text's order. -/
namespace Go.Proofs.YtoaajpppbjaomaaGreatDoor
open Go
section
variable {P : Program} {md : Region.Mode} {ops : Array Oper} {C : World → Prop} {Q : Exit → Act → World → Prop}
/-- whatever stands behind it, the operation does -/
def OutAt (P : Program) (C : World → Prop) (Q : Exit → Act → World → Prop) (o : Oper) (a : Act) : Prop := ∀ w, C w → ∀ next, o.wp P a w next Q
def Deaf (Q : Exit → Act → World → Prop) : Prop := ∀ chain a d v w, Q (.panic chain) (Act.put a d v) w → Q (.panic chain) a w
theorem out_put {oi on : Oper} {a : Act} {v : Value} (hQ : Deaf Q) (hap : oi.apart ops on = true) (hs : ∀ cs b, on.op ≠ .select cs b) (h : OutAt P C Q on (a.put oi.dst v)) : OutAt P C Q on a := by
  obtain ⟨h1, _, _⟩ := Oper.apart_spec hap
  intro w hw next
  have h0 := h w hw (fun _ _ => False)
  unfold Oper.wp at h0 ⊢
  rw [execOp_put on hs a oi.dst v h1] at h0
  generalize (execOp a.eval on).run P w = r at h0 ⊢
  cases r with
  | ok x w' =>
    cases x <;> simp only [Oper.upon] at h0 ⊢
    case enter f args =>
      refine h0.mono fun e w'' he => ?_
      cases e with
      | returned u => exact he.elim
      | panicked chain => exact hQ _ _ _ _ _ he
      | outgrown => exact he
    case row row args => exact h0.mono fun _ _ he => he.elim
  | halt x w' =>
    cases x <;> simp only [Oper.upon] at h0 ⊢
    exact hQ _ _ _ _ _ h0
def QOut (P : Program) (md : Region.Mode) (ops : Array Oper) (C : World → Prop) (Q : Exit → Act → World → Prop) (n : Nat) (on : Oper) : Nat → Array Bool → Act → Prop
  | 0, done, a => Region.ready md ops done = [n] ∧ OutAt P C Q on a
  | f + 1, done, a => Region.ready md ops done ≠ [] ∧ ∀ i ∈ Region.ready md ops done, (i ≠ n ∧ qOp P ops C i (QOut P md ops C Q n on f (done.setIfInBounds i true)) a) ∨ (i = n ∧ OutAt P C Q on a)
theorem wpOp_of_out {n : Nat} {on : Oper} (hn : ops[n]? = some on) (hwant : ∀ a : Act, Region.wanted on (yielded ops a.tmps) = true) {a : Act} {w : World} (hw : C w) (h : OutAt P C Q on a) (K : Act → World → Prop) : wpOp P ops Q n K a w := by
  unfold wpOp
  simp only [hn, hwant, if_true]
  exact .inl (h w hw K)
theorem any_of_qout {n : Nat} {on : Oper} (hn : ops[n]? = some on) (hwant : ∀ a : Act, Region.wanted on (yielded ops a.tmps) = true) (g f : Nat) :
    ∀ (done : Array Bool) (a : Act) (w : World), C w → QOut P md ops C Q n on f done a → wpAny P md ops Q (f + (g + 1)) done a w := by
  induction f with
  | zero =>
    intro done a w hw h
    rw [Nat.zero_add]
    refine ⟨fun h0 => (by rw [h.1] at h0; cases h0), fun i hi => ?_⟩
    rw [h.1] at hi
    obtain rfl : i = n := by simpa using hi
    exact wpOp_of_out hn hwant hw h.2 _
  | succ f ih =>
    intro done a w hw h
    rw [show f + 1 + (g + 1) = (f + (g + 1)) + 1 by omega]
    refine ⟨fun h0 => absurd h0 h.1, fun i hi => ?_⟩
    rcases h.2 i hi with ⟨_, hq⟩ | ⟨rfl, ho⟩
    · exact wpOp_of_qOp hw (fun a' w' hw' h' => ih _ a' w' hw' h') hq
    · exact wpOp_of_out hn hwant hw ho _
theorem qout_first {n i : Nat} {oi on : Oper} {v : Value} (hn : ops[n]? = some on) (hQ : Deaf Q) (hi : ops[i]? = some oi) (hsel : ∀ (j : Nat) (o : Oper) cs b, ops[j]? = some o → o.op ≠ .select cs b) (hin : i ≠ n) (f : Nat) :
    ∀ (done : Array Bool) (a : Act),
      (∀ j oj, ops[j]? = some oj → j ≠ i → done.getD j true = false → (∀ e ∈ oj.after, Region.binds md e = true → e.on ≠ i) → oi.apart ops oj = true) →
      i ∈ Region.ready md ops done → YieldsIn P ops C oi v a →
      QOut P md ops C Q n on f (done.setIfInBounds i true) (a.put oi.dst v) → QOut P md ops C Q n on (f + 1) done a := by
  have hne : ∀ (done : Array Bool) (j : Nat) (oj : Oper), done.getD i true = false → (∀ e ∈ oj.after, Region.binds md e = true → done.getD e.on false = true) → ∀ e ∈ oj.after, Region.binds md e = true → e.on ≠ i := by
    intro done j oj hun hall e he hb heq
    have h1 := hall e he hb
    rw [heq, getD_both hun] at h1
    cases h1
  induction f with
  | zero =>
    intro done a hfree hr hy H
    have hun := (mem_ready.1 hr).1
    refine ⟨List.ne_nil_of_mem hr, fun j hj => ?_⟩
    by_cases hji : j = i
    · rw [hji]; exact .inl ⟨hin, hy.qOp hi H⟩
    · have hjn := ready_mono hj hji
      rw [H.1] at hjn
      obtain rfl : j = n := by simpa using hjn
      obtain ⟨hjun, oj, hoj, hall⟩ := mem_ready.1 hj
      obtain rfl : oj = on := Option.some.inj (hoj.symm.trans hn)
      exact .inr ⟨rfl, out_put hQ (hfree j oj hoj hji hjun (hne done j oj hun hall)) (fun cs b => hsel j oj cs b hoj) H.2⟩
  | succ f ih =>
    intro done a hfree hr hy H
    have hun := (mem_ready.1 hr).1
    refine ⟨List.ne_nil_of_mem hr, fun j hj => ?_⟩
    by_cases hji : j = i
    · rw [hji]; exact .inl ⟨hin, hy.qOp hi H⟩
    · obtain ⟨hjun, oj, hoj, hall⟩ := mem_ready.1 hj
      have hnot := hne done j oj hun hall
      rcases H.2 j (ready_mono hj hji) with ⟨hjn, hq⟩ | ⟨rfl, ho⟩
      · left
        refine ⟨hjn, ?_⟩
        have h2 := qOp_put hoj (hfree j oj hoj hji hjun hnot) (fun cs b => hsel i oi cs b hi) (fun cs b => hsel j oj cs b hoj) hy hq
        refine qOp_mono (fun a' h3 => ih (done.setIfInBounds j true) a' ?_ (ready_mono hr (Ne.symm hji)) h3.1 (by rw [Array.setIfInBounds_comm _ _ hji]; exact h3.2)) h2
        intro k ok hk hki hun' hno
        refine hfree k ok hk hki ?_ hno
        by_cases hjk : j = k
        · rw [← hjk]; exact hjun
        · rwa [getD_set_ne true hjk] at hun'
      · obtain rfl : oj = on := Option.some.inj (hoj.symm.trans hn)
        exact .inr ⟨rfl, out_put hQ (hfree j oj hoj hji hjun hnot) (fun cs b => hsel j oj cs b hoj) ho⟩
/-- in this order, up to the operation: what each step asks -/
def outHead (md : Region.Mode) (ops : Array Oper) (n : Nat) : List Nat → Array Bool → Bool
  | [], done => decide (Region.ready md ops done = [n])
  | k :: ks, done => (Region.ready md ops done).contains k && Region.free md ops done k && decide (k ≠ n) && decide (k < ops.size) && outHead md ops n ks (done.setIfInBounds k true)
theorem qout_lex {n : Nat} {on : Oper} (hn : ops[n]? = some on) (hQ : Deaf Q) (hsel : Region.noSelect ops = true) (ks : List Nat) :
    ∀ (done : Array Bool) (a : Act), outHead md ops n ks done = true → wpQuiet P ops C (fun a' => OutAt P C Q on a') (ks.filterMap (fun k => ops[k]?)) a → QOut P md ops C Q n on ks.length done a := by
  induction ks with
  | nil =>
    intro done a hB h
    exact ⟨by simpa [outHead] using hB, h⟩
  | cons k ks ih =>
    intro done a hB h
    simp only [outHead, Bool.and_eq_true, decide_eq_true_eq] at hB
    obtain ⟨⟨⟨⟨hr, hf⟩, hkn⟩, hkl⟩, hB'⟩ := hB
    have h0 : ops[k]? = some ops[k] := Array.getElem?_eq_getElem hkl
    rw [List.filterMap_cons, h0] at h
    have hr' : k ∈ Region.ready md ops done := by simpa using hr
    have hq : qOp P ops C k (wpQuiet P ops C (fun a' => OutAt P C Q on a') (ks.filterMap (fun k => ops[k]?))) a := by unfold qOp; simp only [h0]; exact h
    obtain ⟨v, hy, hK⟩ := yieldsIn_of_qOp h0 hq
    exact qout_first hn hQ h0 (Region.noSelect_spec hsel) hkn ks.length done a (Region.free_spec h0 hf) hr' hy (ih _ _ hB' hK)
end
def outB (l : List Oper) (ks : List Nat) (n : Nat) : Bool := Region.noSelect l.toArray && decide (ks.length < l.length) && outHead .any l.toArray n ks (Array.replicate l.toArray.size false)
theorem region_out {P : Program} {C : World → Prop} {id : Nat} {Q : Exit → Act → World → Prop} {a : Act} {w : World} {l : List Oper} (pk : List Oper → List Oper) (ks : List Nat) (n : Nat) (on : Oper) (hpk : ks.filterMap (fun k => l[k]?) = pk l) (hm : P.follows .mixedOrders = true) (hB : outB l ks n = true) (hon : l[n]? = some on) (hg : on.guard = none)
    (hQ : Deaf Q) (hC : C w.drew) (h : wpQuiet P l.toArray C (fun a' => OutAt P C Q on a') (pk l) a) : (Code.region id l.toArray true).wp P Q a w := by
  rw [← hpk] at h
  simp only [outB, Bool.and_eq_true, decide_eq_true_eq] at hB
  obtain ⟨⟨hsel, hlen⟩, hlex⟩ := hB
  have hona : l.toArray[n]? = some on := by simpa using hon
  have H := qout_lex (md := .any) (C := C) hona hQ hsel ks (Array.replicate l.toArray.size false) a hlex (by simpa using h)
  refine wp_region_any hm ?_
  have h2 := any_of_qout (md := .any) hona (fun a => by simp [Region.wanted, hg]) (l.length - ks.length - 1) _ _ _ _ hC H
  rw [show ks.length + (l.length - ks.length - 1 + 1) = l.toArray.size by simp; omega] at h2
  exact h2
end Go.Proofs.YtoaajpppbjaomaaGreatDoor
/- A drawn region of reads among which one operation makes a block whenever it comes up, and whose last operations stand in one forced order: the reads may be walked in the text's order, the making behind them. -/
namespace Go.Proofs.YtoaajpppbjaomaaGreatDoor
open Go
section
variable {P : Program} {md : Region.Mode} {ops : Array Oper} {W0 W1 : World} {Q : Exit → Act → World → Prop}
/-- ahead of the making (in W0): whatever comes up -/
def MkHead (P : Program) (md : Region.Mode) (ops : Array Oper) (W0 W1 : World) (n c : Nat) (dc : Option Tmp) (vc : Value) (L : Array Bool → Act → Prop) : Nat → Array Bool → Act → Prop
  | 0, _, _ => False
  | f + 1, done, a => Region.ready md ops done ≠ [] ∧ ∀ i ∈ Region.ready md ops done, i < n ∧
      ((i = c ∧ wpAnyL P md ops W1 n L f (done.setIfInBounds c true) (a.put dc vc)) ∨ (i ≠ c ∧ stOp P ops W0 i (MkHead P md ops W0 W1 n c dc vc L f (done.setIfInBounds i true)) a))
theorem any_of_mk {n c g : Nat} {oc : Oper} {vc : Value} {L : Array Bool → Act → Prop} (hc : ops[c]? = some oc) (hwant : ∀ a : Act, Region.wanted oc (yielded ops a.tmps) = true)
    (hrun : ∀ a : Act, (execOp a.eval oc).run P W0 = .ok (.value vc) W1) (hL : ∀ done a, L done a → wpAny P md ops Q g done a W1) (f : Nat) :
    ∀ (done : Array Bool) (a : Act), MkHead P md ops W0 W1 n c oc.dst vc L f done a → wpAny P md ops Q (f + g) done a W0 := by
  induction f with
  | zero => intro done a h; exact h.elim
  | succ f ih =>
    intro done a h
    rw [show f + 1 + g = (f + g) + 1 by omega]
    refine ⟨fun h0 => absurd h0 h.1, fun i hi => ?_⟩
    rcases (h.2 i hi).2 with ⟨rfl, h2⟩ | ⟨_, h2⟩
    · unfold wpOp
      simp only [hc, hwant, if_true]
      left
      unfold Oper.wp
      rw [hrun, Oper.upon_value]
      exact wpAny_of_head hL f _ _ h2
    · exact wpOp_of_stOp (fun a' h' => ih _ a' h') h2
theorem stOp_and {w : World} {j : Nat} {oj : Oper} (hj : ops[j]? = some oj) {K K' : Act → Prop} {a : Act} (h : stOp P ops w j K a) (h' : ∀ u, K' (a.put oj.dst u)) : stOp P ops w j (fun a' => K a' ∧ K' a') a := by
  obtain ⟨v, hy, hK⟩ := yieldsAt_of_stOp hj h
  exact hy.stOp hj ⟨hK, h' v⟩
theorem yields_put {w : World} {oi oj : Oper} {v : Value} {a : Act} (hap : oi.apart ops oj = true) (hsi : ∀ cs b, oi.op ≠ .select cs b) (hy : YieldsAt P ops w oi v a) (u : Value) : YieldsAt P ops w oi v (a.put oj.dst u) := by
  obtain ⟨_, _, h3⟩ := Oper.apart_spec hap
  exact hy.of_same (execOp_put oi hsi a oj.dst u h3) (wanted_put oi a oj.dst u h3)
theorem mk_first {n c i : Nat} {oi oc : Oper} {v vc : Value} {L : Array Bool → Act → Prop} (hi : ops[i]? = some oi) (hc : ops[c]? = some oc) (hsel : ∀ (j : Nat) (o : Oper) cs b, ops[j]? = some o → o.op ≠ .select cs b)
    (hs : Region.sinkB md ops n = true) (hch : Region.chainB md ops n = true) (hn : n < ops.size) (hin : i < n) (hcn : c < n) (hic : i ≠ c) (hL : ∀ done a, L done a → ∀ j ∈ Region.ready md ops done, n ≤ j) (f : Nat) :
    ∀ (done : Array Bool) (a : Act), HeadInv md ops n done →
      (∀ j oj, ops[j]? = some oj → j ≠ i → done.getD j true = false → (∀ e ∈ oj.after, Region.binds md e = true → e.on ≠ i) → oi.apart ops oj = true) →
      i ∈ Region.ready md ops done → YieldsAt P ops W0 oi v a → YieldsAt P ops W1 oi v a →
      MkHead P md ops W0 W1 n c oc.dst vc L f (done.setIfInBounds i true) (a.put oi.dst v) → MkHead P md ops W0 W1 n c oc.dst vc L (f + 1) done a := by
  induction f with
  | zero => intro done a _ _ _ _ _ H; exact H.elim
  | succ f ih =>
    intro done a inv hfree hr hy hy1 H
    have hun := (mem_ready.1 hr).1
    refine ⟨List.ne_nil_of_mem hr, fun j hj => ?_⟩
    have hjn : j < n := Nat.lt_of_not_le fun h => tail_waits hs hch hn inv _ i rfl hin hun j h hj
    refine ⟨hjn, ?_⟩
    by_cases hji : j = i
    · rw [hji]; exact .inr ⟨hic, hy.stOp hi H⟩
    · obtain ⟨hjun, oj, hoj, hall⟩ := mem_ready.1 hj
      have hnot : ∀ e ∈ oj.after, Region.binds md e = true → e.on ≠ i := by
        intro e he hb heq
        have h1 := hall e he hb
        rw [heq, getD_both hun] at h1
        cases h1
      have hap := hfree j oj hoj hji hjun hnot
      have hfree' : ∀ k ok, ops[k]? = some ok → k ≠ i → (done.setIfInBounds j true).getD k true = false → (∀ e ∈ ok.after, Region.binds md e = true → e.on ≠ i) → oi.apart ops ok = true := by
        intro k ok hk hki hun' hno
        refine hfree k ok hk hki ?_ hno
        by_cases hjk : j = k
        · rw [← hjk]; exact hjun
        · rwa [getD_set_ne true hjk] at hun'
      rcases (H.2 j (ready_mono hj hji)).2 with ⟨rfl, hA⟩ | ⟨hjc, hstep⟩
      · obtain rfl : oj = oc := Option.some.inj (hoj.symm.trans hc)
        obtain ⟨_, h2, _⟩ := Oper.apart_spec hap
        refine .inl ⟨rfl, wpAnyL_first hi hsel hs hch hn hin hL f _ _ (inv.set hj hjn) hfree' (ready_mono hr (Ne.symm hji)) (yields_put hap (fun cs b => hsel i oi cs b hi) hy1 vc) ?_⟩
        rw [Array.setIfInBounds_comm _ _ hji, Act.put_comm a vc v (fun d hd he => h2 d he hd)]
        exact hA
      · right
        refine ⟨hjc, ?_⟩
        have h2 := stOp_put hoj hap (fun cs b => hsel i oi cs b hi) (fun cs b => hsel j oj cs b hoj) hy hstep
        have h3 := stOp_and (K' := fun a' => YieldsAt P ops W1 oi v a') hoj h2 (fun u => yields_put hap (fun cs b => hsel i oi cs b hi) hy1 u)
        refine stOp_mono (fun a' h4 => ih (done.setIfInBounds j true) a' (inv.set hj hjn) hfree' (ready_mono hr (Ne.symm hji)) h4.1.1 h4.2 ?_) h3
        rw [Array.setIfInBounds_comm _ _ hji]
        exact h4.1.2
/-- the reads, in an order of their own: each yields its value in both worlds -/
def wpBoth (P : Program) (ops : Array Oper) (W0 W1 : World) (Q : Act → Prop) : List Oper → Act → Prop
  | [], a => Q a
  | o :: rest, a => ∃ v, YieldsAt P ops W0 o v a ∧ YieldsAt P ops W1 o v a ∧ wpBoth P ops W0 W1 Q rest (a.put o.dst v)
/-- every head operation but the making, in this order, then the making, then the tail -/
def Region.headB (md : Region.Mode) (ops : Array Oper) (n c g : Nat) : List Nat → Array Bool → Bool
  | [], done => decide (Region.ready md ops done = [c]) && Region.seqB md ops g n (done.setIfInBounds c true)
  | k :: ks, done => (Region.ready md ops done).contains k && Region.free md ops done k && decide (k ≠ c) && decide (k < n) && Region.headB md ops n c g ks (done.setIfInBounds k true)
theorem mk_lex {n c g : Nat} {oc : Oper} {vc : Value} {Lq : Act → Prop} (hoc : ops[c]? = some oc) (hsel : Region.noSelect ops = true) (hs : Region.sinkB md ops n = true) (hch : Region.chainB md ops n = true) (hn : n < ops.size) (hcn : c < n) (ks : List Nat) :
    ∀ (l : List Oper) (done : Array Bool) (a : Act), l.map some = ks.map (fun k => ops[k]?) → HeadInv md ops n done → Region.headB md ops n c g ks done = true → wpBoth P ops W0 W1 (fun a' => Lq (a'.put oc.dst vc)) l a →
    MkHead P md ops W0 W1 n c oc.dst vc (fun done' a' => Region.seqB md ops g n done' = true ∧ Lq a') (ks.length + 1) done a := by
  induction ks with
  | nil =>
    intro l done a hl inv hB h
    obtain rfl : l = [] := by simpa using hl
    simp only [Region.headB, Bool.and_eq_true, decide_eq_true_eq] at hB
    refine ⟨by rw [hB.1]; simp, fun i hi => ?_⟩
    rw [hB.1] at hi
    obtain rfl : i = c := by simpa using hi
    exact ⟨hcn, .inl ⟨rfl, hB.2, h⟩⟩
  | cons k ks ih =>
    intro l done a hl inv hB h
    cases l with
    | nil => simp at hl
    | cons o l =>
      simp only [List.map_cons, List.cons.injEq] at hl
      simp only [Region.headB, Bool.and_eq_true, decide_eq_true_eq] at hB
      obtain ⟨⟨⟨⟨hr, hf⟩, hkc⟩, hkn⟩, hB'⟩ := hB
      have hr' : k ∈ Region.ready md ops done := by simpa using hr
      obtain ⟨v, hy0, hy1, h'⟩ := h
      exact mk_first hl.1.symm hoc (Region.noSelect_spec hsel) hs hch hn hkn hcn hkc (fun done' a' hL => seqB_ready hL.1) (ks.length + 1) done a inv (Region.free_spec hl.1.symm hf) hr' hy0 hy1
        (ih l _ _ hl.2 (inv.set hr' hkn) hB' h')
end
/-- all that is to be checked of the region -/
def Region.mkB (ops : Array Oper) (n c : Nat) (ks : List Nat) : Bool :=
  Region.noSelect ops && decide (n < ops.size) && Region.sinkB .any ops n && Region.chainB .any ops n && decide (c < n) && decide (ks.length + 1 = n) && Region.headB .any ops n c (ops.size - n) ks (Array.replicate ops.size false)
/-- A drawn region of reads (in the order ks), one making (at c, unguarded) and a tail in one forced order. -/
theorem region_mk {P : Program} {id : Nat} {Q : Exit → Act → World → Prop} {a : Act} {w W1 : World} {l : List Oper} {oc : Oper} (lk : List Oper → List Oper) (n c : Nat) (ks : List Nat) (vc : Value) (hm : P.follows .mixedOrders = true) (hB : Region.mkB l.toArray n c ks = true)
    (hlk : (lk l).map some = ks.map (fun k => l[k]?)) (hoc : l[c]? = some oc) (hg : oc.guard = none)
    (hrun : ∀ a : Act, (execOp a.eval oc).run P w.drew = .ok (.value vc) W1)
    (h : wpBoth P l.toArray w.drew W1 (fun a' => wpList P l.toArray Q (l.drop n) (a'.put oc.dst vc) W1) (lk l) a) : (Code.region id l.toArray true).wp P Q a w := by
  simp only [Region.mkB, Bool.and_eq_true, decide_eq_true_eq] at hB
  obtain ⟨⟨⟨⟨⟨⟨hsel, hn⟩, hs⟩, hch⟩, hcn⟩, hks⟩, hhead⟩ := hB
  have hn' : n < l.length := by simpa using hn
  have hdl : (l.drop n).length = l.toArray.size - n := by simp
  have inv0 : HeadInv .any l.toArray n (Array.replicate l.toArray.size false) :=
    ⟨by simp, fun j oj _ hl => (by rw [getD_replicate_false] at hl; cases hl), fun t _ ht => getD_in (by simpa using ht) (getD_replicate_false _ _)⟩
  have hoc' : l.toArray[c]? = some oc := by simpa using hoc
  have H := mk_lex (P := P) (W0 := w.drew) (W1 := W1) (md := .any) (g := l.toArray.size - n) (vc := vc) (Lq := fun a' => wpList P l.toArray Q (l.drop n) a' W1) hoc' hsel hs hch hn hcn ks (lk l) _ a (by simpa using hlk) inv0 hhead h
  refine wp_region_any hm ?_
  have := any_of_mk (Q := Q) (g := l.toArray.size - n) hoc' (fun a => by simp [Region.wanted, hg]) hrun (fun done a' hL => by
    have h3 := wpAny_of_seq (md := .any) (Q' := Q) (l.drop n) n done a' W1 (fun j => by simp [List.getElem?_drop]) (by rw [hdl]; exact hL.1) hL.2
    rwa [hdl] at h3) _ _ _ H
  rw [hks, show n + (l.toArray.size - n) = l.toArray.size by omega] at this
  exact this
theorem both_one {P : Program} {ops : Array Oper} {W0 W1 : World} {Q : Act → Prop} {a : Act} {o : Oper} {rest : List Oper} (v : Value) (hw : Region.wanted o (yielded ops a.tmps) = true)
    (h0 : (execOp a.eval o).run P W0 = .ok (.value v) W0) (h1 : (execOp a.eval o).run P W1 = .ok (.value v) W1) (h : wpBoth P ops W0 W1 Q rest (a.put o.dst v)) : wpBoth P ops W0 W1 Q (o :: rest) a :=
  ⟨v, .inl ⟨hw, .inl h0⟩, .inl ⟨hw, .inl h1⟩, h⟩
end Go.Proofs.YtoaajpppbjaomaaGreatDoor
/- The runner's statements: the loop. -/
namespace Go.Proofs.YtoaajpppbjaomaaGreatDoor
open Go.RowKit
theorem RnF.cnt' {W w : World} {F R M V : Nat} {fv : Value} {base : Nat} {mem : Mem} {cnt : Int} {vs : Vars} (h : RnF W w F R M V fv base mem cnt vs) (c : Int) :
    RnF W (w.setCell ⟨R, 3, none⟩ (.int .i64 c)) F R M V fv base mem c vs ∧ Keep [R, M, V] w (w.setCell ⟨R, 3, none⟩ (.int .i64 c)) := by
  have hk : Keep [R, M, V] w (w.setCell ⟨R, 3, none⟩ (.int .i64 c)) := (Keep.refl _ _).setCell (.inl (by simp)) _
  have hVM : V ≠ R := by
    obtain ⟨es, clk, h1, _⟩ := h.hV
    exact (block_ne h.hR h1).symm
  refine ⟨{ h with
    below := hk.below h.below h.below.size (fun x hx => by
      simp only [List.mem_cons, List.mem_nil_iff, or_false] at hx
      rcases hx with rfl | rfl | rfl
      · exact h.geR
      · exact h.geM
      · exact h.geV)
    hF := (heap_setCell_ne 3 _ h.FR).trans h.hF
    hR := by rw [heap_setCell_eq h.hR]; rfl
    hM := (heap_setCell_ne 3 _ (Ne.symm h.RM)).trans h.hM
    hV := h.hV.of_block (heap_setCell_ne 3 _ hVM) }, hk⟩
/-- what a step must do -/
def StepC (W : World) (F R M V : Nat) (fv : Value) (base : Nat) (I : Inst) (funs : List FN) (K : Nat) (n : Nat) : Prop :=
  ∀ (w : World) (st : St) (name : ByteArray) (at_ fn : Int) (names : List ByteArray) (args : List XE) (aN aA aR : Option Addr) (cN cA lR cR : Nat) (eo ev : Int) (en : ByteArray) (aC aK : Option Addr) (lC cC lK cK : Nat),
    RnF W w F R M V fv base st.mem st.cnt st.vs → 0 ≤ fn → fn < K → I64 at_ → RepV RStr 1 W (.slice aN names.length cN) names → RepV (RepX W n) 5 W (.slice aA args.length cA) args →
    Calls Tryz.prog 62 #[.pointer (some ⟨F, 0, none⟩), .agg #[.int .i64 3, .string name, .int .i64 at_, .int .i64 fn, .slice aN names.length cN, .int .i64 eo, .string en, .int .i64 ev, .slice aC lC cC, .slice aK lK cK, .slice aA args.length cA, .slice aR lR cR]] w
      (StP W F R M V fv base (doStep I funs base at_ fn names args st) w)
theorem RnF.setVar {W w : World} {F R M V : Nat} {fv : Value} {base : Nat} {mem : Mem} {cnt : Int} {vs : Vars} (h : RnF W w F R M V fv base mem cnt vs) {es : Array MapEntry} {clk : Nat} {s : ByteArray} {o : Option Int}
    (hg : GoodEs es.toList (setv vs s o)) (ho : ∀ x, o = some x → I64 x) :
    RnF W { w with heap := w.heap.setIfInBounds V (.map es clk) } F R M V fv base mem cnt (setv vs s o) ∧ Keep [R, M, V] w { w with heap := w.heap.setIfInBounds V (.map es clk) } := by
  have hk : Keep [R, M, V] w { w with heap := w.heap.setIfInBounds V (.map es clk) } := (Keep.refl _ _).setObj (.inl (by simp)) _
  have hlt := h.hV.lt
  obtain ⟨es0, clk0, h1, _⟩ := h.hV
  have hne : ∀ (k : Nat) (c : Array Value) (t : TypeId) (z : Nat × Nat), w.heap[k]? = some (Obj.cells c t z) → ({ w with heap := w.heap.setIfInBounds V (.map es clk) } : World).heap[k]? = w.heap[k]? := by
    intro k c t z hk'
    have hn := block_ne hk' h1
    show (w.heap.setIfInBounds V _)[k]? = _
    rw [Array.getElem?_setIfInBounds, if_neg (Ne.symm hn)]
  refine ⟨{ h with
    below := hk.below h.below h.below.size (fun x hx => by
      simp only [List.mem_cons, List.mem_nil_iff, or_false] at hx
      rcases hx with rfl | rfl | rfl
      · exact h.geR
      · exact h.geM
      · exact h.geV)
    hF := (hne _ _ _ _ h.hF).trans h.hF
    hR := (hne _ _ _ _ h.hR).trans h.hR
    hM := (hne _ _ _ _ h.hM).trans h.hM
    hV := ⟨es, clk, by show (w.heap.setIfInBounds V _)[V]? = _; simp [hlt], hg⟩
    vsI := fun t x hx => by
      rw [getv_setv] at hx
      split at hx
      · exact ho x hx
      · exact h.vsI t x hx }, hk⟩
theorem doL_yes {I : Inst} {funs : List FN} {base : Nat} {l : List FS} {j : Nat} {s : FS} (hj : l[j]? = some s) {st st' : St} (h : doS I funs base s { st with cnt := wrap64 (st.cnt + 1) } = (true, st')) :
    doL I funs base (l.drop j) st = doL I funs base (l.drop (j + 1)) st' := by
  obtain ⟨hlt, he⟩ := List.getElem?_eq_some_iff.1 hj
  rw [List.drop_eq_getElem_cons hlt, he]
  simp only [doL, h]
theorem doL_no {I : Inst} {funs : List FN} {base : Nat} {l : List FS} {j : Nat} {s : FS} (hj : l[j]? = some s) {st st' : St} (h : doS I funs base s { st with cnt := wrap64 (st.cnt + 1) } = (false, st')) :
    doL I funs base (l.drop j) st = (false, st') := by
  obtain ⟨hlt, he⟩ := List.getElem?_eq_some_iff.1 hj
  rw [List.drop_eq_getElem_cons hlt, he]
  simp only [doL, h]
theorem callsL_at {l : List FS} {k : Int} (h : callsL l k = true) {j : Nat} {s : FS} (hj : l[j]? = some s) : callsS s k = true := by
  induction l generalizing j with
  | nil => simp at hj
  | cons a r ih =>
    simp only [callsL, Bool.and_eq_true] at h
    cases j with
    | zero => simp at hj; rw [← hj]; exact h.1
    | succ j => exact ih h.2 (by simpa using hj)
theorem callsAs_at {l : List FA} {k : Int} (h : callsAs l k = true) {j : Nat} {a : FA} (hj : l[j]? = some a) : callsL a.body k = true := by
  induction l generalizing j with
  | nil => simp at hj
  | cons x r ih =>
    simp only [callsAs, Bool.and_eq_true] at h
    cases j with
    | zero =>
      simp at hj
      subst hj
      cases x
      have h1 := h.1
      simp only [callsA] at h1
      exact h1
    | succ j => exact ih h.2 (by simpa using hj)
theorem reset_any {W w : World} {funs : List FN} {nf : Nat} {F R M V : Nat} {fv : Value} {base : Nat} (hrep : RepV (RepF W nf) 6 W fv funs) (hr : RightP funs) (st : St) (h : RnF W w F R M V fv base st.mem st.cnt st.vs) (fn : Int) (hf0 : 0 ≤ fn) (hfn : fn < funs.length) (at_ : Int) (op : Int) (name en : ByteArray) (eo ev : Int) (lN lA lR cN cA cR : Nat) (aN aA aR : Option Addr) (ec ek : Value) :
    Calls Tryz.prog 63 #[.pointer (some ⟨F, 0, none⟩), .agg #[.int .i64 op, .string name, .int .i64 at_, .int .i64 fn, .slice aN lN cN, .int .i64 eo, .string en, .int .i64 ev, ec, ek, .slice aA lA cA, .slice aR lR cR]] w
      (StP W F R M V fv base (doReset funs base at_ fn st) w) := by
  obtain ⟨k, rfl⟩ := Int.eq_ofNat_of_zero_le hf0
  have hk : k < funs.length := by omega
  by_cases hc : 0 ≤ at_ ∧ at_ ≤ (st.mem.length : Int) - base ∧ (funs.getD k default).cells ≤ (st.mem.length : Int) - further st.mem.length base at_
  · have e : doReset funs base at_ k st = (true, { st with mem := anewF funs funs.length k (further st.mem.length base at_) st.mem }) := by
      unfold doReset
      rw [if_pos (by simpa using hc)]; rfl
    rw [e]
    exact reset_yes hrep hr h k hk at_ op name en eo ev lN lA lR cN cA cR aN aA aR ec ek hc.1 hc.2.1 hc.2.2
  · have e : doReset funs base at_ k st = (false, st) := by
      unfold doReset
      rw [if_neg (by simpa using hc)]
    rw [e]
    exact reset_no hrep hr h k hk at_ op name en eo ev lN lA lR cN cA cR aN aA aR ec ek hc
theorem bq_one {P : Program} {ops : Array Oper} {C : World → Prop} {a : Act} {o : Oper} {K : Act → Prop} (v : Value) (hw : Region.wanted o (yielded ops a.tmps) = true)
    (hv : ∀ w, C w → o.quietAt P a C w v) (h : K (a.put o.dst v)) : if Region.wanted o (yielded ops a.tmps) then o.quiet P a C K else K (a.put o.dst undef) := by
  rw [if_pos hw]; exact ⟨v, hv, h⟩
set_option maxRecDepth 100000 in
set_option maxHeartbeats 2000000 in
theorem do_step {W : World} {F R M V : Nat} {fv : Value} {base : Nat} {I : Inst} {funs : List FN} {nf K n : Nat} (hrep : RepV (RepF W nf) 6 W fv funs) (hr : RightP funs) (hK : K ≤ funs.length)
    (HS : StepC W F R M V fv base I funs K n)
    (IH : ∀ (l : List FS) (A : Option Addr) (c : Nat) (w : World) (st : St), RnF W w F R M V fv base st.mem st.cnt st.vs → callsL l K = true → RepV (RepS W n) 12 W (.slice A l.length c) l →
      Calls Tryz.prog 40 #[.pointer (some ⟨F, 0, none⟩), .slice A l.length c] w (StP W F R M V fv base (doL I funs base l st) w))
    (l : List FS) (A : Option Addr) (c : Nat) (w : World) (st : St) (hF : RnF W w F R M V fv base st.mem st.cnt st.vs) (hc : callsL l K = true) (hl : RepV (RepS W (n + 1)) 12 W (.slice A l.length c) l) :
    Calls Tryz.prog 40 #[.pointer (some ⟨F, 0, none⟩), .slice A l.length c] w (StP W F R M V fv base (doL I funs base l st) w) := by
  have hll := hl.1
  have HL := Lib.hid hl
  have HF := Lib.hid hF
  have HSt := Lib.hid HS
  have HI := Lib.hid IH
  clear hl hF HS IH
  go_enter Tryz.func40, Tryz.ntmps40
  go_wp2_with fail
  go_loopw [11] (fun i wr => DoRel W F R M V fv base I funs l st w i wr) (fun i _ => l.length - (intOf i).toNat)
  case atStart => exact ⟨0, st, Nat.zero_le _, rfl, HF.out, rfl, Keep.refl _ _⟩
  case round =>
    obtain ⟨j, sj, hj, rfl, hRj, hdo, hkj⟩ := hrel
    by_cases hlt : j < l.length
    · obtain ⟨b, o, c', op, name, at_, fn, names, e, args, arms, aN, cN, eo, en, ev, aC, lC, cC, aK, lK, cK, aA, cA, aR, cR, he, hbW, hs, q0, q1, q2, q3, q4, q5, q6, q7, q8, q9, q10, q11, i1, i2, i3, p1, p2, p3, p4⟩ := stmt_cells HL.out hRj.below hlt
      injection he with he1 he2 he3
      subst he1
      have hbw : b < wr.heap.size := Nat.lt_of_lt_of_le hbW hRj.below.size
      have g0 := hRj.c0
      have g1 := hRj.r3
      have gf : wr.frozen? ⟨R, 3, none⟩ = false := frozB hRj.hR 3
      have hRl := lt_of_block hRj.hR
      have hFl := lt_of_block hRj.hF
      obtain ⟨w1, hw1⟩ : ∃ w1, w1 = (wr.setCell ⟨R, 3, none⟩ (.int .i64 (wrap64 (sj.cnt + 1)))).alloc (Obj.cells #[Value.int IntKind.i64 op, Value.string name, Value.int IntKind.i64 at_, Value.int IntKind.i64 fn, Value.slice aN names.length cN, Value.int IntKind.i64 eo, Value.string en, Value.int IntKind.i64 ev, Value.slice aC lC cC, Value.slice aK lK cK, Value.slice aA args.length cA, Value.slice aR arms.length cR] 88) := ⟨_, rfl⟩
      obtain ⟨hR0, hk0⟩ := hRj.cnt' (wrap64 (sj.cnt + 1))
      have hR1 : RnF W w1 F R M V fv base sj.mem (wrap64 (sj.cnt + 1)) sj.vs := by rw [hw1]; exact hR0.on ((Below.refl _ _).alloc (Nat.le_refl _) _)
      have hk1 : Keep [R, M, V] w w1 := by rw [hw1]; exact hkj.trans (hk0.alloc _)
      have hN : w1.heap[wr.heap.size]? = some (.cells #[Value.int IntKind.i64 op, Value.string name, Value.int IntKind.i64 at_, Value.int IntKind.i64 fn, Value.slice aN names.length cN, Value.int IntKind.i64 eo, Value.string en, Value.int IntKind.i64 ev, Value.slice aC lC cC, Value.slice aK lK cK, Value.slice aA args.length cA, Value.slice aR arms.length cR] 88 (0, 0)) := by
        rw [hw1]
        have e : wr.heap.size = (wr.setCell ⟨R, 3, none⟩ (.int .i64 (wrap64 (sj.cnt + 1)))).heap.size := by simp [World.setCell]
        show ((wr.setCell ⟨R, 3, none⟩ (.int .i64 (wrap64 (sj.cnt + 1)))).heap.push _)[wr.heap.size]? = _
        rw [e, Array.getElem?_push_size]
      have hNw := lt_of_block hN
      have HW1 := Lib.hid hw1
      have HR1 := Lib.hid hR1
      have HK1 := Lib.hid hk1
      have HN := Lib.hid hN
      have hgj : l[j]? = some (FS.mk op name at_ fn names e args arms) := by rw [List.getElem?_eq_getElem hlt, hs]
      have HG := Lib.hid hgj
      clear hw1 hR1 hk1 hN hR0 hk0 hgj
      have HDO := Lib.hid hdo
      clear hRj hdo hkj hs he2 he3
      by_cases h1 : op = 1
      · subst h1
        go_wp2_with fail
        rw [← HW1.out]
        have hR1 := HR1.out
        have hk1 := HK1.out
        have hN := HN.out
        cases hval : value sj.vs sj.mem base e with
        | none =>
          have hds : doS I funs base (.mk 1 name at_ fn names e args arms) { sj with cnt := wrap64 (sj.cnt + 1) } = (false, { sj with cnt := wrap64 (sj.cnt + 1) }) := by simp [doS, doSet, hval]
          have hend := doL_no HG.out hds
          refine region_out (C := fun w' => Below w1.heap.size w1 w') (fun l => l.take 9) [0, 1, 2, 3, 4, 5, 6, 7, 8] 9 _ rfl (by kernel_rfl) (by kernel_rfl) rfl rfl (by intro chain a d v w h; cases d <;> exact h) (Below.refl _ _).drew ?_
          simp only [List.take_succ_cons, List.take_zero]
          go_big_quiet_step (fail)
          refine wpQuiet_step (fun K hK => ?_)
          refine bq_one (.pointer (some ⟨F, 0, none⟩)) (by kernel_rfl) (fun w' hw' => ?_) ?_
          · simp [Oper.quietAt, Oper.quietUpon, execOp, go_sem]
          go_simp
          refine hK _ ?_
          clear hK K
          refine wpQuiet_step (fun K hK => ?_)
          refine bq_one (.pointer (some ⟨F, 2, none⟩)) (by kernel_rfl) (fun w' hw' => ?_) ?_
          · simp [Oper.quietAt, Oper.quietUpon, execOp, go_sem]
          go_simp
          refine hK _ ?_
          clear hK K
          refine wpQuiet_step (fun K hK => ?_)
          refine bq_one (.map (some V)) (by kernel_rfl) (fun w' hw' => ?_) ?_
          · have q := (hw'.cell (p := ⟨F, 2, none⟩) (lt_of_block hR1.hF)).trans hR1.c2
            simp [Oper.quietAt, Oper.quietUpon, execOp, go_sem, q]
          go_simp
          refine hK _ ?_
          clear hK K
          refine wpQuiet_step (fun K hK => ?_)
          refine bq_one (.pointer (some ⟨wr.heap.size, 1, none⟩)) (by kernel_rfl) (fun w' hw' => ?_) ?_
          · simp [Oper.quietAt, Oper.quietUpon, execOp, go_sem]
          go_simp
          refine hK _ ?_
          clear hK K
          refine wpQuiet_step (fun K hK => ?_)
          refine bq_one (.string name) (by kernel_rfl) (fun w' hw' => ?_) ?_
          · have q := (hw'.cell (p := ⟨wr.heap.size, 1, none⟩) (lt_of_block hN)).trans (cellB' hN 1 rfl)
            simp [Oper.quietAt, Oper.quietUpon, execOp, go_sem, q]
          go_simp
          refine hK _ ?_
          clear hK K
          go_big_quiet_step (fail)
          refine wpQuiet_step (fun K hK => ?_)
          refine bq_one (.pointer (some ⟨wr.heap.size, 5, none⟩)) (by kernel_rfl) (fun w' hw' => ?_) ?_
          · simp [Oper.quietAt, Oper.quietUpon, execOp, go_sem]
          go_simp
          refine hK _ ?_
          clear hK K
          refine wpQuiet_step (fun K hK => ?_)
          refine bq_one (.agg #[.int .i64 eo, .string en, .int .i64 ev, .slice aC lC cC, .slice aK lK cK]) (by kernel_rfl) (fun w' hw' => ?_) ?_
          · have q0 := (hw'.cell (p := ⟨wr.heap.size, 5, none⟩) (lt_of_block hN)).trans (cellB' hN 5 rfl)
            have q1 := (hw'.cell (p := ⟨wr.heap.size, 6, none⟩) (lt_of_block hN)).trans (cellB' hN 6 rfl)
            have q2 := (hw'.cell (p := ⟨wr.heap.size, 7, none⟩) (lt_of_block hN)).trans (cellB' hN 7 rfl)
            have q3 := (hw'.cell (p := ⟨wr.heap.size, 8, none⟩) (lt_of_block hN)).trans (cellB' hN 8 rfl)
            have q4 := (hw'.cell (p := ⟨wr.heap.size, 9, none⟩) (lt_of_block hN)).trans (cellB' hN 9 rfl)
            simp [Oper.quietAt, Oper.quietUpon, execOp, go_sem, q0, q1, q2, q3, q4]
          go_simp
          refine hK _ ?_
          clear hK K
          refine wpQuiet_nil ?_
          intro w' hw' next
          go_simp
          refine (value_any n e _ _ p2 (hR1.on hw')).mono ?_
          intro e' w2 hv
          rw [hval] at hv
          obtain ⟨rfl, hb2⟩ := valT hv
          have hb3 : Below w1.heap.size w1 w2 := hw'.trans (hb2.mono hw'.size)
          exact ⟨rfl, ⟨hk1.trans (Keep.of_below hb3), (fun h => by rw [HDO.out, hend] at h; cases h), fun _ => ⟨rfl, by rw [HDO.out, hend]; exact hR1.memSt.later hb3⟩⟩⟩
        | some o =>
          have hds : doS I funs base (.mk 1 name at_ fn names e args arms) { sj with cnt := wrap64 (sj.cnt + 1) } = (true, { sj with cnt := wrap64 (sj.cnt + 1), vs := setv sj.vs name o }) := by simp [doS, doSet, hval]
          have hend := doL_yes HG.out hds
          refine region_qtail_in (C := fun w' => Below w1.heap.size w1 w') 10 (by kernel_rfl) (by kernel_rfl) (Below.refl _ _).drew ?_
          simp only [List.take_succ_cons, List.take_zero, List.drop_succ_cons, List.drop_zero]
          go_big_quiet_step (fail)
          refine wpQuiet_step (fun K hK => ?_)
          refine bq_one (.pointer (some ⟨F, 0, none⟩)) (by kernel_rfl) (fun w' hw' => ?_) ?_
          · simp [Oper.quietAt, Oper.quietUpon, execOp, go_sem]
          go_simp
          refine hK _ ?_
          clear hK K
          refine wpQuiet_step (fun K hK => ?_)
          refine bq_one (.pointer (some ⟨F, 2, none⟩)) (by kernel_rfl) (fun w' hw' => ?_) ?_
          · simp [Oper.quietAt, Oper.quietUpon, execOp, go_sem]
          go_simp
          refine hK _ ?_
          clear hK K
          refine wpQuiet_step (fun K hK => ?_)
          refine bq_one (.map (some V)) (by kernel_rfl) (fun w' hw' => ?_) ?_
          · have q := (hw'.cell (p := ⟨F, 2, none⟩) (lt_of_block hR1.hF)).trans hR1.c2
            simp [Oper.quietAt, Oper.quietUpon, execOp, go_sem, q]
          go_simp
          refine hK _ ?_
          clear hK K
          refine wpQuiet_step (fun K hK => ?_)
          refine bq_one (.pointer (some ⟨wr.heap.size, 1, none⟩)) (by kernel_rfl) (fun w' hw' => ?_) ?_
          · simp [Oper.quietAt, Oper.quietUpon, execOp, go_sem]
          go_simp
          refine hK _ ?_
          clear hK K
          refine wpQuiet_step (fun K hK => ?_)
          refine bq_one (.string name) (by kernel_rfl) (fun w' hw' => ?_) ?_
          · have q := (hw'.cell (p := ⟨wr.heap.size, 1, none⟩) (lt_of_block hN)).trans (cellB' hN 1 rfl)
            simp [Oper.quietAt, Oper.quietUpon, execOp, go_sem, q]
          go_simp
          refine hK _ ?_
          clear hK K
          go_big_quiet_step (fail)
          refine wpQuiet_step (fun K hK => ?_)
          refine bq_one (.pointer (some ⟨wr.heap.size, 5, none⟩)) (by kernel_rfl) (fun w' hw' => ?_) ?_
          · simp [Oper.quietAt, Oper.quietUpon, execOp, go_sem]
          go_simp
          refine hK _ ?_
          clear hK K
          refine wpQuiet_step (fun K hK => ?_)
          refine bq_one (.agg #[.int .i64 eo, .string en, .int .i64 ev, .slice aC lC cC, .slice aK lK cK]) (by kernel_rfl) (fun w' hw' => ?_) ?_
          · have q0 := (hw'.cell (p := ⟨wr.heap.size, 5, none⟩) (lt_of_block hN)).trans (cellB' hN 5 rfl)
            have q1 := (hw'.cell (p := ⟨wr.heap.size, 6, none⟩) (lt_of_block hN)).trans (cellB' hN 6 rfl)
            have q2 := (hw'.cell (p := ⟨wr.heap.size, 7, none⟩) (lt_of_block hN)).trans (cellB' hN 7 rfl)
            have q3 := (hw'.cell (p := ⟨wr.heap.size, 8, none⟩) (lt_of_block hN)).trans (cellB' hN 8 rfl)
            have q4 := (hw'.cell (p := ⟨wr.heap.size, 9, none⟩) (lt_of_block hN)).trans (cellB' hN 9 rfl)
            simp [Oper.quietAt, Oper.quietUpon, execOp, go_sem, q0, q1, q2, q3, q4]
          go_simp
          refine hK _ ?_
          clear hK K
          refine wpQuiet_step (fun K hK => ?_)
          refine bq_one (.agg #[.int .i64 (o.getD 0), .bool o.isSome]) (by kernel_rfl) (fun w' hw' => ?_) ?_
          · have hv := value_any n e _ _ p2 (hR1.on hw')
            rw [hval] at hv
            simp [Oper.quietAt, Oper.quietUpon, go_sem]
            exact hv.mono fun e' w2 h2 => ⟨h2.1, hw'.trans (h2.2.mono hw'.size)⟩
          go_simp
          refine hK _ ?_
          clear hK K
          refine wpQuiet_nil ?_
          intro w' hw'
          refine wpList_updateR rfl _ _ _ rfl (V := V) (vs := sj.vs) (s := name) (c := o) (hR1.on hw').hV rfl rfl rfl ?_
          intro es clk hg
          obtain ⟨hR2, hk2⟩ := (hR1.on hw').setVar hg (fun x hx => value_I64 hR1.memI hR1.vsI n e _ x p2 (by rw [hval, hx]))
          have HR2 := Lib.hid hR2
          have HK2 := Lib.hid ((hk1.trans (Keep.of_below hw')).trans hk2)
          have HE := Lib.hid hend
          generalize { w' with heap := w'.heap.setIfInBounds V (Obj.map es clk) } = w2 at HR2 HK2 ⊢
          go_wp2_with fail
          refine ⟨⟨j + 1, _, by omega, by go_num, HR2.out, by rw [HDO.out, HE.out], HK2.out⟩, by simp [intOf]; omega⟩
      by_cases h2 : op = 2
      · subst h2
        go_wp2_with fail
        rw [← HW1.out]
        have hR1 := HR1.out
        have hk1 := HK1.out
        have hN := HN.out
        refine (value_any n e _ _ p2 hR1).mono ?_
        intro e' w2 hv
        cases hval : value sj.vs sj.mem base e with
        | none =>
          have hds : doS I funs base (.mk 2 name at_ fn names e args arms) { sj with cnt := wrap64 (sj.cnt + 1) } = (false, { sj with cnt := wrap64 (sj.cnt + 1) }) := by simp [doS, doKeep, hval]
          have hend := doL_no HG.out hds
          rw [hval] at hv
          obtain ⟨rfl, hb3⟩ := valT hv
          exact ⟨rfl, ⟨hk1.trans (Keep.of_below hb3), (fun h => by rw [HDO.out, hend] at h; cases h), fun _ => ⟨rfl, by rw [HDO.out, hend]; exact hR1.memSt.later hb3⟩⟩⟩
        | some oo =>
          cases oo with
          | none =>
            have hds : doS I funs base (.mk 2 name at_ fn names e args arms) { sj with cnt := wrap64 (sj.cnt + 1) } = (false, { sj with cnt := wrap64 (sj.cnt + 1) }) := by simp [doS, doKeep, hval]
            have hend := doL_no HG.out hds
            rw [hval] at hv
            obtain ⟨rfl, hb2⟩ := valN hv
            have HB2 := Lib.hid hb2
            have HE := Lib.hid hend
            clear hb2 hv hval hds hend hR1 hk1 hN
            go_wp2_with fail
            refine (must_false _).mono ?_
            rintro e3 w3 ⟨rfl, hb3'⟩
            have hR1 := HR1.out
            have hk1 := HK1.out
            have hend := HE.out
            have hb3 : Below w1.heap.size w1 w3 := (HB2.out.alloc HB2.out.size _).trans (hb3'.mono (by have := HB2.out.size; simp; omega))
            exact ⟨rfl, ⟨hk1.trans (Keep.of_below hb3), (fun h => by rw [HDO.out, hend] at h; cases h), fun _ => ⟨rfl, by rw [HDO.out, hend]; exact hR1.memSt.later hb3⟩⟩⟩
          | some v =>
            rw [hval] at hv
            obtain ⟨rfl, hb2⟩ := valS hv
            have HB2 := Lib.hid hb2
            have hvI := value_I64 hR1.memI hR1.vsI n e _ v p2 hval
            have HV := Lib.hid hval
            have hR2 := hR1.on hb2
            have HR2 := Lib.hid hR2
            have HK2 := Lib.hid (hk1.trans (Keep.of_below hb2))
            have hN2 := (hb2.block wr.heap.size hNw).trans hN
            have f2 : w2.cell? ⟨wr.heap.size, 2, none⟩ = some (.int .i64 at_) := cellB' hN2 2 rfl
            have hN2l := lt_of_block hN2
            clear hb2 hv hval hR1 hk1 hN hR2 hN2
            go_wp2_with fail
            refine (must_true _).mono ?_
            rintro e3 w3 ⟨rfl, rfl⟩
            have hR3 := HR2.out.on ((Below.refl _ _).alloc (Nat.le_refl _) (Obj.cells #[Value.int IntKind.i64 v, Value.bool true] 73))
            have HR3 := Lib.hid hR3
            have hal := hR3.blen
            have hM2 := lt_of_block HR2.out.hM
            by_cases hat : 0 ≤ at_ ∧ at_ < (sj.mem.length : Int) - base
            · have hds : doS I funs base (.mk 2 name at_ fn names e args arms) { sj with cnt := wrap64 (sj.cnt + 1) } = (true, { sj with cnt := wrap64 (sj.cnt + 1), mem := sj.mem.set (base + at_.toNat) (some v) }) := by simp [doS, doKeep, HV.out, hat]
              have hend := doL_yes HG.out hds
              have HE := Lib.hid hend
              have HAT := Lib.hid hat
              have hlt2 : base + at_.toNat < sj.mem.length := by omega
              obtain ⟨⟨x1, gg1⟩, ⟨x2, gg2⟩, gg3, gg4⟩ := cells_get HR2.out.hM hlt2
              clear hR3 hds hend hat
              go_wp2_with fail
              refine region_qtail 6 (by kernel_rfl) (by kernel_rfl) ?_
              simp only [List.take_succ_cons, List.take_zero, List.drop_succ_cons, List.drop_zero]
              repeat (go_big_quiet_step ((go_at_call 61; exact Calls.quiet_of (at_in (HR3.out.on (Below.drewN' (Below.refl _ _) _)) _ HAT.out.1 HAT.out.2))))
              refine wpQuiet_nil ?_
              intro kq
              have hP := (HR3.out.on (Below.drewN' (Below.refl _ _) kq)).memSt.put (base + at_.toNat) (some v) hlt2
              have hR4 := (HR3.out.on (Below.drewN' (Below.refl _ _) kq)).newMem hP.2 hP.1.hM (by simp) (setM_I64 HR2.out.memI hvI)
              have HR4 := Lib.hid hR4
              have HK4 := Lib.hid ((((HK2.out).alloc (Obj.cells #[Value.int IntKind.i64 v, Value.bool true] 73)).trans (Keep.of_below (Below.drewN' (Below.refl _ _) kq))).trans (hP.2.mono (by simp)))
              clear hP hR4
              go_wp2_with fail
              refine ⟨⟨j + 1, { sj with cnt := wrap64 (sj.cnt + 1), mem := sj.mem.set (base + at_.toNat) (some v) }, by omega, by go_num, HR4.out, by rw [HDO.out, HE.out], HK4.out⟩, by simp [intOf]; omega⟩
            · have hds : doS I funs base (.mk 2 name at_ fn names e args arms) { sj with cnt := wrap64 (sj.cnt + 1) } = (false, { sj with cnt := wrap64 (sj.cnt + 1) }) := by simp [doS, doKeep, HV.out, hat]
              have hend := doL_no HG.out hds
              have HE := Lib.hid hend
              have HAT := Lib.hid hat
              clear hR3 hds hend hat
              go_wp2_with fail
              refine region_out (C := fun w' => ∃ n, w' = (w2.alloc (Obj.cells #[Value.int IntKind.i64 v, Value.bool true] 73)).drewN n) (fun l => l.take 3 ++ (l.drop 4).take 1) [0, 1, 2, 4] 3 _ rfl (by kernel_rfl) (by kernel_rfl) rfl rfl (by intro chain a d v w h; cases d <;> exact h) ⟨1, rfl⟩ ?_
              simp only [List.take_succ_cons, List.take_zero, List.drop_succ_cons, List.drop_zero, List.cons_append, List.nil_append]
              repeat (go_big_quiet_step (fail))
              refine wpQuiet_nil ?_
              rintro w' ⟨kq, rfl⟩ next
              go_simp
              refine (at_out (HR3.out.on (Below.drewN' (Below.refl _ _) _)) _ HAT.out).mono ?_
              rintro e4 w4 ⟨rfl, hb4⟩
              have hb3 : Below (w2.alloc (Obj.cells #[Value.int IntKind.i64 v, Value.bool true] 73)).heap.size (w2.alloc (Obj.cells #[Value.int IntKind.i64 v, Value.bool true] 73)) w4 := (Below.drewN' (Below.refl _ _) kq).trans hb4
              have hR1 := HR3.out
              have hk1 := HK2.out.alloc (Obj.cells #[Value.int IntKind.i64 v, Value.bool true] 73)
              have hend := HE.out
              exact ⟨rfl, ⟨hk1.trans (Keep.of_below hb3), (fun h => by rw [HDO.out, hend] at h; cases h), fun _ => ⟨rfl, by rw [HDO.out, hend]; exact hR1.memSt.later hb3⟩⟩⟩
      by_cases h3 : op = 3
      · subst h3
        have hcs := callsL_at hc HG.out
        have hfn : 0 ≤ fn ∧ fn < K := by
          simp only [callsS, Bool.and_eq_true, Bool.not_eq_true', Bool.and_eq_false_iff, Bool.or_eq_false_iff] at hcs
          have h := hcs.1
          simp at h
          omega
        have HFN := Lib.hid hfn
        obtain ⟨fnn, hfnn⟩ := Int.eq_ofNat_of_zero_le hfn.1
        have HFNN := Lib.hid hfnn
        have hN := HN.out
        have n0 := cellB' hN 0 rfl
        clear hcs hfn hfnn hN n0
        go_wp2_with fail
        rw [← HW1.out]
        have hR1 := HR1.out
        have hk1 := HK1.out
        refine (HSt.out w1 { sj with cnt := wrap64 (sj.cnt + 1) } name at_ fn names args _ _ _ _ _ _ _ _ _ _ _ _ _ _ _ _ hR1 HFN.out.1 HFN.out.2 i2 p1 p3).mono ?_
        intro e' w2 hS
        have hds : doS I funs base (.mk 3 name at_ fn names e args arms) { sj with cnt := wrap64 (sj.cnt + 1) } = doStep I funs base at_ fn names args { sj with cnt := wrap64 (sj.cnt + 1) } := by simp [doS]
        cases hrr : doStep I funs base at_ fn names args { sj with cnt := wrap64 (sj.cnt + 1) } with
        | mk ok st' =>
          rw [hrr] at hS hds
          cases ok with
          | false =>
            have hend := doL_no HG.out hds
            obtain ⟨rfl, hm⟩ := hS.no rfl
            exact ⟨rfl, ⟨hk1.trans hS.keep, (fun h => by rw [HDO.out, hend] at h; cases h), fun _ => ⟨rfl, by rw [HDO.out, hend]; exact hm⟩⟩⟩
          | true =>
            have hend := doL_yes HG.out hds
            obtain ⟨rfl, hm⟩ := hS.yes rfl
            have HR2 := Lib.hid hm
            have HK2 := Lib.hid (hk1.trans hS.keep)
            have HE := Lib.hid hend
            clear hm hS hrr hds hend hR1 hk1
            go_wp2_with fail
            refine ⟨⟨j + 1, st', by omega, by go_num, HR2.out, by rw [HDO.out, HE.out], HK2.out⟩, by simp [intOf]; omega⟩
      by_cases h4 : op = 4
      · subst h4
        have hcs := callsL_at hc HG.out
        have hfn : 0 ≤ fn ∧ fn < K := by
          simp only [callsS, Bool.and_eq_true, Bool.not_eq_true', Bool.and_eq_false_iff, Bool.or_eq_false_iff] at hcs
          have h := hcs.1
          simp at h
          omega
        have HFN := Lib.hid hfn
        obtain ⟨fnn, hfnn⟩ := Int.eq_ofNat_of_zero_le hfn.1
        have HFNN := Lib.hid hfnn
        have hN := HN.out
        have n0 := cellB' hN 0 rfl
        clear hcs hfn hfnn hN n0
        go_wp2_with fail
        rw [← HW1.out]
        have hR1 := HR1.out
        have hk1 := HK1.out
        refine (reset_any hrep hr { sj with cnt := wrap64 (sj.cnt + 1) } hR1 fn HFN.out.1 (by have := HFN.out.2; omega) at_ 4 name en eo ev _ _ _ _ _ _ _ _ _ _ _).mono ?_
        intro e' w2 hS
        have hds : doS I funs base (.mk 4 name at_ fn names e args arms) { sj with cnt := wrap64 (sj.cnt + 1) } = doReset funs base at_ fn { sj with cnt := wrap64 (sj.cnt + 1) } := by simp [doS]
        cases hrr : doReset funs base at_ fn { sj with cnt := wrap64 (sj.cnt + 1) } with
        | mk ok st' =>
          rw [hrr] at hS hds
          cases ok with
          | false =>
            have hend := doL_no HG.out hds
            obtain ⟨rfl, hm⟩ := hS.no rfl
            exact ⟨rfl, ⟨hk1.trans hS.keep, (fun h => by rw [HDO.out, hend] at h; cases h), fun _ => ⟨rfl, by rw [HDO.out, hend]; exact hm⟩⟩⟩
          | true =>
            have hend := doL_yes HG.out hds
            obtain ⟨rfl, hm⟩ := hS.yes rfl
            have HR2 := Lib.hid hm
            have HK2 := Lib.hid (hk1.trans hS.keep)
            have HE := Lib.hid hend
            clear hm hS hrr hds hend hR1 hk1
            go_wp2_with fail
            refine ⟨⟨j + 1, st', by omega, by go_num, HR2.out, by rw [HDO.out, HE.out], HK2.out⟩, by simp [intOf]; omega⟩
      by_cases h5 : op = 5
      · subst h5
        have hN := HN.out
        have hFw := lt_of_block HR1.out.hF
        have g2 := HR1.out.c2
        have n1 := cellB' hN 1 rfl
        have hR1 := HR1.out
        go_wp2_with fail
        rw [← HW1.out]
        obtain ⟨vv, bb, hx, hgv⟩ : ∃ (vv : Int) (bb : Bool), cellR (getv sj.vs name) = .agg #[.int .i64 vv, .bool bb] ∧ ((bb = true ∧ getv sj.vs name = some vv) ∨ (bb = false ∧ getv sj.vs name = none)) := by
          cases hg : getv sj.vs name with
          | none => exact ⟨0, false, rfl, .inr ⟨rfl, rfl⟩⟩
          | some v => exact ⟨v, true, rfl, .inl ⟨rfl, rfl⟩⟩
        have q0 : ∀ w', Below w1.heap.size w1 w' → w'.cell? ⟨F, 2, none⟩ = some (.map (some V)) := fun w' hw' => (hw'.cell (p := ⟨F, 2, none⟩) (lt_of_block hR1.hF)).trans hR1.c2
        have q1 : ∀ w', Below w1.heap.size w1 w' → w'.cell? ⟨wr.heap.size, 1, none⟩ = some (.string name) := fun w' hw' => (hw'.cell (p := ⟨wr.heap.size, 1, none⟩) (lt_of_block hN)).trans (cellB' hN 1 rfl)
        have b0 : Below w1.heap.size w1 w1.drew := (Below.refl _ _).drew
        obtain ⟨W1, hW1⟩ : ∃ W1, W1 = w1.drew.alloc (Obj.cells #[.int .i64 0, .bool false] 73) := ⟨_, rfl⟩
        have b1 : Below w1.heap.size w1 W1 := by rw [hW1]; exact b0.alloc (Nat.le_refl _) _
        have hA : W1.heap[w1.heap.size]? = some (Obj.cells #[.int .i64 0, .bool false] 73 (0, 0)) := by rw [hW1]; show (w1.heap.push _)[w1.heap.size]? = _; rw [Array.getElem?_push_size]
        refine region_mk (W1 := W1) (fun l => l.take 7) 8 7 [0, 1, 2, 3, 4, 5, 6] (.pointer (some ⟨w1.heap.size, 0, none⟩)) (by kernel_rfl) (by kernel_rfl) rfl rfl rfl (fun a => by rw [hW1]; simp [execOp, go_sem]) ?_
        clear hW1
        generalize w1.drew = W0 at b0 ⊢
        simp only [List.take_succ_cons, List.take_zero, List.drop_succ_cons, List.drop_zero]
        refine both_one (.pointer (some ⟨F, 0, none⟩)) (by kernel_rfl) (by simp [execOp, go_sem]) (by simp [execOp, go_sem]) ?_
        go_simp
        refine both_one (.pointer (some ⟨F, 0, none⟩)) (by kernel_rfl) (by simp [execOp, go_sem]) (by simp [execOp, go_sem]) ?_
        go_simp
        refine both_one (.pointer (some ⟨F, 2, none⟩)) (by kernel_rfl) (by simp [execOp, go_sem]) (by simp [execOp, go_sem]) ?_
        go_simp
        refine both_one (.map (some V)) (by kernel_rfl) (by simp [execOp, go_sem, q0 _ b0]) (by simp [execOp, go_sem, q0 _ b1]) ?_
        go_simp
        refine both_one (.pointer (some ⟨wr.heap.size, 1, none⟩)) (by kernel_rfl) (by simp [execOp, go_sem]) (by simp [execOp, go_sem]) ?_
        go_simp
        refine both_one (.string name) (by kernel_rfl) (by simp [execOp, go_sem, q1 _ b0]) (by simp [execOp, go_sem, q1 _ b1]) ?_
        go_simp
        refine both_one (.agg #[.int .i64 vv, .bool bb]) (by kernel_rfl) (by simp [execOp, go_sem, run_lookup (hR1.on b0).hV name, hx]) (by simp [execOp, go_sem, run_lookup (hR1.on b1).hV name, hx]) ?_
        go_simp
        refine (?_ : wpList _ _ _ _ _ _)
        have a0 : W1.cell? ⟨w1.heap.size, 0, none⟩ = some (.int .i64 0) := cellB' hA 0 rfl
        have a1 : W1.cell? ⟨w1.heap.size, 1, none⟩ = some (.bool false) := cellB' hA 1 rfl
        have gA0 : W1.frozen? ⟨w1.heap.size, 0, none⟩ = false := frozB hA 0
        have gA1 : W1.frozen? ⟨w1.heap.size, 1, none⟩ = false := frozB hA 1
        go_simp
        go_wp2_with fail
        have hb2 : Below w1.heap.size w1 ((W1.setCell ⟨w1.heap.size, 0, none⟩ (.int .i64 vv)).setCell ⟨w1.heap.size, 1, none⟩ (.bool bb)) := (b1.setCell (p := ⟨w1.heap.size, 0, none⟩) (Nat.le_refl _) _).setCell (p := ⟨w1.heap.size, 1, none⟩) (Nat.le_refl _) _
        have hA2 : ((W1.setCell ⟨w1.heap.size, 0, none⟩ (.int .i64 vv)).setCell ⟨w1.heap.size, 1, none⟩ (.bool bb)).heap[w1.heap.size]? = some (Obj.cells #[.int .i64 vv, .bool bb] 73 (0, 0)) := by
          rw [heap_setCell_eq (heap_setCell_eq hA 0 (.int .i64 vv))]; rfl
        generalize (W1.setCell ⟨w1.heap.size, 0, none⟩ (.int .i64 vv)).setCell ⟨w1.heap.size, 1, none⟩ (.bool bb) = w2 at hb2 hA2 ⊢
        clear q0 q1 b0 b1 hA a0 a1 gA0 gA1 hx
        rcases hgv with ⟨rfl, hgv⟩ | ⟨rfl, hgv⟩
        · have HD := Lib.hid (show doS I funs base (.mk 5 name at_ fn names e args arms) { sj with cnt := wrap64 (sj.cnt + 1) } = doAs I funs base arms vv { sj with cnt := wrap64 (sj.cnt + 1) } by simp [doS, hgv])
          have HR2 := Lib.hid (hR1.on hb2)
          have HK2 := Lib.hid (HK1.out.trans (Keep.of_below hb2))
          have hN2 := (hb2.block wr.heap.size (lt_of_block hN)).trans hN
          have HN2 := Lib.hid hN2
          have n7 := cellB' hN2 11 rfl
          have hN2l := lt_of_block hN2
          have HA2 := Lib.hid (cellB' hA2 0 rfl)
          have hA2l := lt_of_block hA2
          clear hb2 hgv hR1 hN hA2 hN2
          refine (must_true _).mono ?_
          rintro e3 w3 ⟨rfl, rfl⟩
          go_wp2_with fail
          refine (idxArm_any _ _ _ _ vv _ HR2.out.below p4 hA2l HA2.out).mono ?_
          rintro e4 w4 ⟨rfl, hb4⟩
          have HR4 := Lib.hid (HR2.out.on hb4)
          have HK4 := Lib.hid (HK2.out.trans (Keep.of_below hb4))
          have n7 := cellB' ((hb4.block wr.heap.size hN2l).trans HN2.out) 11 rfl
          have hN4l : wr.heap.size < w4.heap.size := Nat.lt_of_lt_of_le hN2l hb4.size
          clear hb4
          by_cases hk : 0 ≤ armIdx arms vv
          · obtain ⟨a, ha, hda⟩ := doAs_some I funs base vv arms { sj with cnt := wrap64 (sj.cnt + 1) } hk
            obtain ⟨m, hm⟩ := Int.eq_ofNat_of_zero_le hk
            rw [hm] at ha ⊢
            simp only [Int.toNat_natCast] at ha
            have hml := (List.getElem?_eq_some_iff.1 ha).1
            obtain ⟨_, _, hse, _, _, _, hget⟩ := p4.get HR4.out.below
            obtain ⟨bF, oF, cs, hAf, hbF, _, hRI, hAt⟩ := hget m a ha
            obtain ⟨vb, rfl, _, hvb⟩ := hRI
            obtain ⟨A2, c2, rfl, _⟩ := hvb.sl
            have h1 : w4.cell? ⟨bF, oF + m * 2 + 1, none⟩ = some (.slice A2 a.body.length c2) := hAt 1 _ rfl
            injection hse with hs1 hs2 hs3
            subst hs1
            subst hAf
            go_wp2_with fail
            have hcb : callsL a.body K = true := by
              have hcs := callsL_at hc HG.out
              simp only [callsS, Bool.and_eq_true] at hcs
              exact callsAs_at hcs.2 ha
            refine (HI.out a.body _ _ _ { sj with cnt := wrap64 (sj.cnt + 1) } HR4.out hcb hvb).mono ?_
            intro e' w5 hS
            have hds := HD.out.trans hda
            cases hrr : doL I funs base a.body { sj with cnt := wrap64 (sj.cnt + 1) } with
            | mk ok st' =>
              rw [hrr] at hS hds
              cases ok with
              | false =>
                have hend := doL_no HG.out hds
                obtain ⟨rfl, hm⟩ := hS.no rfl
                have hk4 := HK4.out
                exact ⟨rfl, ⟨hk4.trans hS.keep, (fun h => by rw [HDO.out, hend] at h; cases h), fun _ => ⟨rfl, by rw [HDO.out, hend]; exact hm⟩⟩⟩
              | true =>
                have hend := doL_yes HG.out hds
                obtain ⟨rfl, hm⟩ := hS.yes rfl
                have HR5 := Lib.hid hm
                have HK5 := Lib.hid (HK4.out.trans hS.keep)
                have HE := Lib.hid hend
                clear hm hS hrr hds hend
                go_wp2_with fail
                refine ⟨⟨j + 1, st', by omega, by go_num, HR5.out, by rw [HDO.out, HE.out], HK5.out⟩, by simp [intOf]; omega⟩
          · have hda := doAs_none I funs base vv arms { sj with cnt := wrap64 (sj.cnt + 1) } (by omega)
            have hge := armIdx_ge arms vv
            have hm1 : armIdx arms vv = -1 := by omega
            have HE := Lib.hid (doL_yes HG.out (HD.out.trans hda))
            rw [hm1]
            clear hda hk hge hm1
            go_wp2_with fail
            refine ⟨⟨j + 1, { sj with cnt := wrap64 (sj.cnt + 1) }, by omega, by go_num, HR4.out, by rw [HDO.out, HE.out], HK4.out⟩, by simp [intOf]; omega⟩
        · have hds : doS I funs base (.mk 5 name at_ fn names e args arms) { sj with cnt := wrap64 (sj.cnt + 1) } = (false, { sj with cnt := wrap64 (sj.cnt + 1) }) := by simp [doS, hgv]
          have HE := Lib.hid (doL_no HG.out hds)
          have HR2 := Lib.hid (hR1.on hb2)
          have HK2 := Lib.hid (HK1.out.trans (Keep.of_below hb2))
          clear hds hgv hb2 hR1 hN
          refine (must_false _).mono ?_
          rintro e3 w3 ⟨rfl, hb3⟩
          have hend := HE.out
          exact ⟨rfl, ⟨HK2.out.trans (Keep.of_below hb3), (fun h => by rw [HDO.out, hend] at h; cases h), fun _ => ⟨rfl, by rw [HDO.out, hend]; exact HR2.out.memSt.later hb3⟩⟩⟩
      · have e1 : (op == 1) = false := by simp [h1]
        have e2 : (op == 2) = false := by simp [h2]
        have e3 : (op == 3) = false := by simp [h3]
        have e4 : (op == 4) = false := by simp [h4]
        have e5 : (op == 5) = false := by simp [h5]
        have hds : doS I funs base (.mk op name at_ fn names e args arms) { sj with cnt := wrap64 (sj.cnt + 1) } = (false, { sj with cnt := wrap64 (sj.cnt + 1) }) := by simp [doS, h1, h2, h3, h4, h5]
        have HE := Lib.hid (doL_no HG.out hds)
        clear hds h1 h2 h3 h4 h5
        go_wp2_with fail
        rw [← HW1.out]
        refine (must_false _).mono ?_
        rintro e3 w3 ⟨rfl, hb3⟩
        have hR1 := HR1.out
        have hk1 := HK1.out
        have hend := HE.out
        exact ⟨rfl, ⟨hk1.trans (Keep.of_below hb3), (fun h => by rw [HDO.out, hend] at h; cases h), fun _ => ⟨rfl, by rw [HDO.out, hend]; exact hR1.memSt.later hb3⟩⟩⟩
    · obtain rfl : j = l.length := by omega
      have HDO := Lib.hid hdo
      have HRJ := Lib.hid hRj
      have HKJ := Lib.hid hkj
      clear hdo hRj hkj
      go_wp2_with fail
      go_end0
      refine ⟨HKJ.out, fun _ => ⟨rfl, ?_⟩, fun h => ?_⟩
      · rw [HDO.out, List.drop_length]; exact HRJ.out
      · rw [HDO.out, List.drop_length] at h; cases h
end Go.Proofs.YtoaajpppbjaomaaGreatDoor
/- The runner's statements: all of them. -/
namespace Go.Proofs.YtoaajpppbjaomaaGreatDoor
open Go.RowKit
set_option maxRecDepth 100000 in
set_option maxHeartbeats 400000 in
theorem do_nil {W w : World} {F R M V : Nat} {fv : Value} {base : Nat} {mem : Mem} {cnt : Int} {vs : Vars} (hF : RnF W w F R M V fv base mem cnt vs) (A : Option Addr) (c : Nat) :
    Calls Tryz.prog 40 #[.pointer (some ⟨F, 0, none⟩), .slice A 0 c] w (StP W F R M V fv base (true, ⟨mem, cnt, vs⟩) w) := by
  have HF := Lib.hid hF
  clear hF
  go_enter Tryz.func40, Tryz.ntmps40
  go_wp2_with fail
  go_loopw [11] (fun i wr => i = .int .i64 0 ∧ wr = w) (fun i _ => 0)
  case atStart => exact ⟨rfl, rfl⟩
  case round =>
    obtain ⟨rfl, rfl⟩ := hrel
    go_wp2_with fail
    go_end0
    exact ⟨Keep.refl _ _, fun _ => ⟨rfl, HF.out⟩, fun h => by cases h⟩
theorem do_any {W : World} {F R M V : Nat} {fv : Value} {base : Nat} {I : Inst} {funs : List FN} {nf K : Nat} (hrep : RepV (RepF W nf) 6 W fv funs) (hr : RightP funs) (hK : K ≤ funs.length)
    (HS : ∀ n, StepC W F R M V fv base I funs K n) :
    ∀ (n : Nat) (l : List FS) (A : Option Addr) (c : Nat) (w : World) (st : St), RnF W w F R M V fv base st.mem st.cnt st.vs → callsL l K = true → RepV (RepS W n) 12 W (.slice A l.length c) l →
      Calls Tryz.prog 40 #[.pointer (some ⟨F, 0, none⟩), .slice A l.length c] w (StP W F R M V fv base (doL I funs base l st) w) := by
  intro n
  induction n with
  | zero =>
    intro l A c w st h hc hl
    obtain rfl : l = [] := by
      cases l with
      | nil => rfl
      | cons a r =>
        obtain ⟨_, _, _, _, _, _, hget⟩ := hl.get (Below.refl _ _)
        obtain ⟨_, _, _, _, _, _, hR, _⟩ := hget 0 a rfl
        exact hR.elim
    exact do_nil h A c
  | succ n ih => exact fun l A c w st h hc hl => do_step hrep hr hK (HS n) ih l A c w st h hc hl
end Go.Proofs.YtoaajpppbjaomaaGreatDoor
