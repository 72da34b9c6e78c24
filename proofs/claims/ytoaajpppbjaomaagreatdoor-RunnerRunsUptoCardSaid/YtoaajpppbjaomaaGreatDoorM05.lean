/- Texts merged by program: parts Rr, Rs, Ca, Cb, Cc, Qa, Rn. -/
import Derived.Test.YtoaajpppbjaomaaGreatDoorM04
import Derived.Deep.CutRange
import Derived.Deep.OwnRows
/- The runner's weigh: its parts. -/
namespace Go.Proofs.YtoaajpppbjaomaaGreatDoor
open Go.RowKit
theorem flag1_any (n : Int) (fb : Nat) (cells : Int) (w : World) (_hlt : fb < w.heap.size) (hc : w.cell? ⟨fb, 2, none⟩ = some (.int .i64 cells)) :
    Calls Tryz.prog 37 #[.int .i64 n, .pointer (some ⟨fb, 0, none⟩)] w (RetB (.bool (!flagOk cells n)) w) := by
  have e : (!flagOk cells n) = (decide (n < 0) || decide (cells ≤ n)) := by
    unfold flagOk
    by_cases h1 : n < 0 <;> by_cases h2 : cells ≤ n <;> simp [h1, h2, Int.not_le.2, Int.not_lt.2] <;> omega
  rw [e]
  cases hl : decide (n < 0) <;> cases hg : decide (cells ≤ n) <;> simp only [Bool.or_true, Bool.or_false] <;>
  go_enter Tryz.func37, Tryz.ntmps37 <;>
  (go_wp2_with fail) <;>
  (go_ret; exact ⟨rfl, Below.refl _ _⟩)
theorem intL_cell {W w : World} {v : Value} {l : List Int} (h : RepV RInt 1 W v l) (hb : Below W.heap.size W w) {j : Nat} (hj : j < l.length) : ∃ b o c, v = .slice (some ⟨b, o, none⟩) l.length c ∧ b < W.heap.size ∧ w.cell? ⟨b, o + j, none⟩ = some (.int .i64 l[j]) ∧ I64 l[j] := by
  obtain ⟨A, c, rfl, h1, h2, h3, h4⟩ := h.get hb
  obtain ⟨b, o, cs, rfl, hlt, hlen, hR, hAt⟩ := h4 j _ (List.getElem?_eq_getElem hj)
  obtain ⟨rfl, hI⟩ := hR
  exact ⟨b, o, c, rfl, hlt, by have := hAt 0 _ rfl; simpa using this, hI⟩
set_option maxRecDepth 100000 in
set_option maxHeartbeats 400000 in
theorem idxI_any {W : World} (fb : Nat) (cells : Int) (A : Option Addr) (l : List Int) (c : Nat) (w : World) (hW : Below W.heap.size W w) (hrep : RepV RInt 1 W (.slice A l.length c) l)
    (hlt : fb < w.heap.size) (hc : w.cell? ⟨fb, 2, none⟩ = some (.int .i64 cells)) :
    Calls Tryz.prog 59 #[.slice A l.length c, .func (.func 37) #[] #[.pointer (some ⟨fb, 0, none⟩)]] w (RetB (.int .i64 (idxOf (fun n => !flagOk cells n) l)) w) := by
  have hll := hrep.1
  have HREP := Lib.hid hrep
  clear hrep
  generalize hpp : (fun n => !flagOk cells n) = p
  have HPP := Lib.hid hpp
  clear hpp
  go_enter Tryz.func59, Tryz.ntmps59
  go_wp2_with fail
  go_loopw [8] (fun i wr => FRel p l w i wr) (fun i _ => l.length - (intOf i).toNat)
  case atStart => exact ⟨0, Nat.zero_le _, rfl, fun i a hi => by omega, Below.refl _ _⟩
  case round =>
    obtain ⟨j, hj, rfl, hn, hb⟩ := hrel
    by_cases hj2 : j < l.length
    · obtain ⟨bF, oF, c', he, hbF, h0, _⟩ := intL_cell HREP.out (hW.trans (hb.mono hW.size)) hj2
      injection he with he1 he2 he3
      subst he1
      have HB := Lib.hid hb
      have HN := Lib.hid hn
      have HG := Lib.hid (List.getElem?_eq_getElem hj2)
      have HC := Lib.hid (flag1_any l[j] fb cells wr (Nat.lt_of_lt_of_le hlt hb.size) ((hb.cell (p := ⟨fb, 2, none⟩) hlt).trans hc))
      clear he2 he3 hb hn
      go_wp2_with fail
      refine HC.out.mono ?_
      rintro e2 w2 ⟨rfl, hb2⟩
      have HB2 := Lib.hid hb2
      clear hb2
      rw [show (!flagOk cells l[j]) = p l[j] from by rw [← HPP.out]]
      generalize hp : p l[j] = pb
      have HPJ := Lib.hid hp
      clear hp
      cases pb with
      | true =>
        go_wp2_with fail
        go_ret
        refine ⟨?_, HB.out.trans (HB2.out.mono HB.out.size)⟩
        rw [idxOf_at p l j _ HN.out HG.out HPJ.out]; rfl
      | false =>
        go_wp2_with fail
        refine ⟨⟨j + 1, by omega, by go_num, fun i a hi ha => ?_, HB.out.trans (HB2.out.mono HB.out.size)⟩, by simp [intOf]; omega⟩
        rcases Nat.lt_or_ge i j with h | h
        · exact HN.out i a h ha
        · obtain rfl : i = j := by omega
          rw [HG.out] at ha
          simp only [Option.some.injEq] at ha
          rw [← ha, HPJ.out]
    · obtain rfl : j = l.length := by omega
      have HB := Lib.hid hb
      have HN := Lib.hid (idxOf_none p l hn)
      clear hb hn
      go_wp2_with fail
      go_ret
      exact ⟨by rw [HN.out]; rfl, HB.out⟩
theorem contI_any {W : World} (fb : Nat) (cells : Int) (A : Option Addr) (l : List Int) (c : Nat) (w : World) (hW : Below W.heap.size W w) (hrep : RepV RInt 1 W (.slice A l.length c) l)
    (hlt : fb < w.heap.size) (hc : w.cell? ⟨fb, 2, none⟩ = some (.int .i64 cells)) :
    Calls Tryz.prog 36 #[.slice A l.length c, .func (.func 37) #[] #[.pointer (some ⟨fb, 0, none⟩)]] w (RetB (.bool (!(l.all (flagOk cells)))) w) := by
  have HC := Lib.hid (idxI_any fb cells A l c w hW hrep hlt hc)
  have e : (!(l.all (flagOk cells))) = l.any (fun n => !flagOk cells n) := by simp [List.not_all_eq_any_not]
  rw [e]
  clear hrep
  go_enter Tryz.func36, Tryz.ntmps36
  go_wp2_with fail
  refine HC.out.mono ?_
  rintro e w2 ⟨rfl, hb2⟩
  have HB2 := Lib.hid hb2
  clear hb2
  go_wp2_with fail
  go_ret
  exact ⟨by rw [← idxOf_any]; rfl, HB2.out⟩
mutual
theorem takesL_congr {c : Int} {w w' : List Int} (h : ∀ i, w.getD i 0 = w'.getD i 0) : ∀ (l : List FS) (n : Int), takesL c w l n = takesL c w' l n
  | [], n => by simp [takesL]
  | s :: r, n => by simp only [takesL]; rw [takesS_congr h s n, takesL_congr h r]
theorem takesS_congr {c : Int} {w w' : List Int} (h : ∀ i, w.getD i 0 = w'.getD i 0) : ∀ (s : FS) (n : Int), takesS c w s n = takesS c w' s n
  | .mk op _ _ fn _ _ _ arms, n => by simp only [takesS]; rw [h, takesAs_congr h arms]
theorem takesAs_congr {c : Int} {w w' : List Int} (h : ∀ i, w.getD i 0 = w'.getD i 0) : ∀ (l : List FA) (n : Int), takesAs c w l n = takesAs c w' l n
  | [], n => by simp [takesAs]
  | a :: r, n => by simp only [takesAs]; rw [takesA_congr h a, takesAs_congr h r]
theorem takesA_congr {c : Int} {w w' : List Int} (h : ∀ i, w.getD i 0 = w'.getD i 0) : ∀ (a : FA), takesA c w a = takesA c w' a
  | .mk _ body => by simp only [takesA]; rw [takesL_congr h body]
end
theorem pad_getD (ws : List Int) (m i : Nat) : (ws ++ List.replicate m 0).getD i 0 = ws.getD i 0 := by
  rw [List.getD_eq_getElem?_getD, List.getD_eq_getElem?_getD]
  rcases Nat.lt_or_ge i ws.length with h | h
  · rw [List.getElem?_append_left h]
  · rw [List.getElem?_append_right h, List.getElem?_eq_none h, List.getElem?_replicate]
    split <;> rfl
end Go.Proofs.YtoaajpppbjaomaaGreatDoor
/- The runner's weigh. -/
namespace Go.Proofs.YtoaajpppbjaomaaGreatDoor
open Go.RowKit
theorem weightAt_ge (ws : List Int) (hw : ∀ x, x ∈ ws → 0 ≤ x) : ∀ (l : List PT) (n : Int), 0 ≤ n ∧ n ≤ 1001 → 0 ≤ l.foldl (fun n p => min (n + ws.getD p.fn.toNat 0) 1001) n ∧ l.foldl (fun n p => min (n + ws.getD p.fn.toNat 0) 1001) n ≤ 1001
  | [], n, h => h
  | p :: r, n, h => by
    rw [List.foldl_cons]
    refine weightAt_ge ws hw r _ ?_
    have : 0 ≤ ws.getD p.fn.toNat 0 := by
      rw [List.getD_eq_getElem?_getD]
      cases hx : ws[p.fn.toNat]? with
      | none => simp
      | some x => simpa using hw x (List.mem_of_getElem? hx)
    omega
theorem weightsUpto_len (funs : List FN) : ∀ k, (weightsUpto funs k).length = k
  | 0 => rfl
  | k + 1 => by simp [weightsUpto, weightsUpto_len funs k]
theorem stepsUpto_len (funs : List FN) : ∀ k, (stepsUpto funs k).length = k
  | 0 => rfl
  | k + 1 => by simp [stepsUpto, stepsUpto_len funs k]
theorem weightsUpto_small (funs : List FN) : ∀ k, Small (weightsUpto funs k)
  | 0 => fun x hx => by simp [weightsUpto] at hx
  | k + 1 => fun x hx => by
    have ih := weightsUpto_small funs k
    simp only [weightsUpto, List.mem_append, List.mem_singleton] at hx
    rcases hx with hx | rfl
    · exact ih x hx
    · exact weightAt_ge _ (fun x hx => (ih x hx).1) _ _ (by omega)
theorem stepsUpto_small (funs : List FN) : ∀ k, Small (stepsUpto funs k)
  | 0 => fun x hx => by simp [stepsUpto] at hx
  | k + 1 => fun x hx => by
    have ih := stepsUpto_small funs k
    simp only [stepsUpto, List.mem_append, List.mem_singleton] at hx
    rcases hx with hx | rfl
    · exact ih x hx
    · have h1 := takesL_ge (c := 1000) (w := stepsUpto funs k) (by omega) (fun x hx => (ih x hx).1) (funs.getD k default).body 0 (by omega)
      have h2 := takesL_le (c := 1000) (w := stepsUpto funs k) (funs.getD k default).body 0 (by omega)
      omega
theorem small_pad {ws : List Int} (h : Small ws) (m : Nat) : Small (ws ++ List.replicate m 0) := fun x hx => by
  rcases List.mem_append.1 hx with hx | hx
  · exact h x hx
  · have := List.eq_of_mem_replicate hx
    omega
/-- a block of numbers -/
def IntB (w : World) (b : Nat) (l : List Int) : Prop := w.heap[b]? = some (.cells (l.map (Value.int .i64)).toArray 3 (0, 0))
def Made (n : Nat) (w : World) (v4 v5 : Value) (wx : World) : Prop :=
  ∃ WB TB, WB ≠ TB ∧ v4 = .slice (some ⟨WB, 0, none⟩) n n ∧ v5 = .slice (some ⟨TB, 0, none⟩) n n ∧ w.heap.size ≤ WB ∧ w.heap.size ≤ TB ∧ IntB wx WB (List.replicate n 0) ∧ IntB wx TB (List.replicate n 0) ∧ Below w.heap.size w wx
theorem madeCells_int (n : Nat) : madeCells #[Value.int .i64 0] n = ((List.replicate n (0 : Int)).map (Value.int .i64)).toArray := by
  apply Array.ext
  · simp [madeCells]
  · intro i h1 h2
    simp [madeCells, Nat.mod_one]
theorem made_two (n : Nat) (w : World) :
    (∃ wx, wx = ((w.alloc (Obj.cells (madeCells #[Value.int .i64 0] n) 3)).alloc (Obj.cells (madeCells #[Value.int .i64 0] n) 3)).drew ∧ IntB wx w.heap.size (List.replicate n 0) ∧ IntB wx (w.heap.size + 1) (List.replicate n 0) ∧ Below w.heap.size w wx) := by
  refine ⟨_, rfl, ?_, ?_, ?_⟩
  · have s1 : (w.alloc (Obj.cells (madeCells #[Value.int .i64 0] n) 3)).heap.size = w.heap.size + 1 := by simp
    show ((w.alloc _).alloc _).heap[w.heap.size]? = _
    rw [heap_alloc_lt (by rw [s1]; omega), heap_alloc_at, madeCells_int]
  · have s1 : (w.alloc (Obj.cells (madeCells #[Value.int .i64 0] n) 3)).heap.size = w.heap.size + 1 := by simp
    show ((w.alloc _).alloc _).heap[w.heap.size + 1]? = _
    rw [← s1, heap_alloc_at, madeCells_int]
  · exact (((Below.refl _ _).alloc (Nat.le_refl _) _).alloc (by simp) _).drew
theorem made_a (n : Nat) (w : World) : Made n w (.slice (some ⟨w.heap.size, 0, none⟩) n n) (.slice (some ⟨w.heap.size + 1, 0, none⟩) n n) ((w.alloc (Obj.cells (madeCells #[Value.int .i64 0] n) 3)).alloc (Obj.cells (madeCells #[Value.int .i64 0] n) 3)).drew := by
  obtain ⟨wx, rfl, h1, h2, h3⟩ := made_two n w
  exact ⟨_, _, by omega, rfl, rfl, by omega, by omega, h1, h2, h3⟩
theorem made_b (n : Nat) (w : World) : Made n w (.slice (some ⟨w.heap.size + 1, 0, none⟩) n n) (.slice (some ⟨w.heap.size, 0, none⟩) n n) ((w.alloc (Obj.cells (madeCells #[Value.int .i64 0] n) 3)).alloc (Obj.cells (madeCells #[Value.int .i64 0] n) 3)).drew := by
  obtain ⟨wx, rfl, h1, h2, h3⟩ := made_two n w
  exact ⟨_, _, by omega, rfl, rfl, by omega, by omega, h2, h1, h3⟩
theorem Tryz.infoInt : (Tryz.prog.info? 3).map (fun i => (i.zero, i.size, i.bytes)) = some (some (.int .i64 0), 1, 8) := by kernel_rfl
theorem IntB.get {w : World} {b : Nat} {l : List Int} (h : IntB w b l) {i : Nat} {x : Int} (hx : l[i]? = some x) : w.cell? ⟨b, i, none⟩ = some (.int .i64 x) := cellB' h i (by simp [hx])
theorem IntB.on {w w' : World} {b : Nat} {l : List Int} (h : IntB w b l) (hb : Below w.heap.size w w') : IntB w' b l := (hb.block b (lt_of_block h)).trans h
theorem IntB.other {w : World} {b : Nat} {l : List Int} (h : IntB w b l) {b' : Nat} (i : Nat) (v : Value) (hne : b ≠ b') : IntB (w.setCell ⟨b', i, none⟩ v) b l := (heap_setCell_ne i v hne).trans h
theorem IntB.set {w : World} {b : Nat} {l : List Int} (h : IntB w b l) (i : Nat) (x : Int) : IntB (w.setCell ⟨b, i, none⟩ (.int .i64 x)) b (l.set i x) := by
  unfold IntB
  rw [heap_setCell_eq h]
  congr 2
  apply Array.ext'
  simp [List.map_set]
theorem IntB.ints {w : World} {b : Nat} {l : List Int} {n : Nat} (h : IntB w b l) (hn : l.length = n) : Ints w (.slice (some ⟨b, 0, none⟩) n n) l := by
  subst hn
  exact ⟨_, _, rfl, fun j x hj => ⟨b, 0, rfl, lt_of_block h, by rw [Nat.zero_add]; exact h.get hj⟩⟩
theorem rightF_no {funs : List FN} {k : Nat} (hk : k < funs.length) (h : rightAt funs k = false) : rightF funs = false := by
  unfold rightF
  rw [Bool.and_eq_false_iff]
  left
  rw [List.all_eq_false]
  exact ⟨k, by simpa using hk, by simp [h]⟩
theorem rightAt_cells {funs : List FN} {k : Nat} {f : FN} (hf : funs.getD k default = f) (h : ¬ (0 ≤ f.cells ∧ f.cells ≤ 1000)) : rightAt funs k = false := by
  unfold rightAt
  rw [hf]
  have : (decide (0 ≤ f.cells) && decide (f.cells ≤ 1000)) = false := by
    rw [Bool.and_eq_false_iff]
    by_cases h0 : 0 ≤ f.cells
    · right; simp; omega
    · left; simp; omega
  simp only [this, Bool.false_and]
theorem rightAt_calls {funs : List FN} {k : Nat} {f : FN} (hf : funs.getD k default = f) (h : callsL f.body k = false) : rightAt funs k = false := by
  unfold rightAt
  rw [hf]
  simp [h]
theorem rightAt_flags {funs : List FN} {k : Nat} {f : FN} (hf : funs.getD k default = f) (h : f.flags.all (flagOk f.cells) = false) : rightAt funs k = false := by
  unfold rightAt
  rw [hf]
  simp only [h, Bool.and_false, Bool.false_and]
theorem rightAt_flag {funs : List FN} {k : Nat} {f : FN} (hf : funs.getD k default = f) {i : Nat} {x : Int} (hx : f.flags[i]? = some x) (h : flagOk f.cells x = false) : rightAt funs k = false := by
  apply rightAt_flags hf
  rw [List.all_eq_false]
  exact ⟨x, List.mem_of_getElem? hx, by simp [h]⟩
theorem rightAt_part {funs : List FN} {k : Nat} {f : FN} (hf : funs.getD k default = f) {i : Nat} {p : PT} (hp : f.parts[i]? = some p) (h : partOk funs f.cells k p = false) : rightAt funs k = false := by
  unfold rightAt
  rw [hf]
  have : f.parts.all (partOk funs f.cells k) = false := by
    rw [List.all_eq_false]
    exact ⟨p, List.mem_of_getElem? hp, by simp [h]⟩
  simp only [this, Bool.and_false]
theorem rightAt_yes {funs : List FN} {k : Nat} {f : FN} (hf : funs.getD k default = f) (h0 : 0 ≤ f.cells) (h1 : f.cells ≤ 1000) (h2 : callsL f.body k = true) (h3 : f.flags.all (flagOk f.cells) = true) (h4 : f.parts.all (partOk funs f.cells k) = true) : rightAt funs k = true := by
  unfold rightAt
  rw [hf]
  simp [h0, h1, h2, h3, h4]
theorem partOk_no {funs : List FN} {c k : Int} {p : PT} (h : ¬ (0 ≤ p.fn ∧ p.fn < k ∧ 0 ≤ p.at_ ∧ p.at_ ≤ c ∧ (funs.getD p.fn.toNat default).cells ≤ c - p.at_)) : partOk funs c k p = false := by
  unfold partOk
  rw [← Bool.not_eq_true]
  intro hh
  simp only [Bool.and_eq_true, decide_eq_true_eq] at hh
  exact h ⟨hh.1.1.1.1, hh.1.1.1.2, hh.1.1.2, hh.1.2, hh.2⟩
theorem partOk_yes {funs : List FN} {c k : Int} {p : PT} (h : 0 ≤ p.fn ∧ p.fn < k ∧ 0 ≤ p.at_ ∧ p.at_ ≤ c ∧ (funs.getD p.fn.toNat default).cells ≤ c - p.at_) : partOk funs c k p = true := by
  unfold partOk
  simp only [Bool.and_eq_true, decide_eq_true_eq]
  exact ⟨⟨⟨⟨h.1, h.2.1⟩, h.2.2.1⟩, h.2.2.2.1⟩, h.2.2.2.2⟩
def WRel (funs : List FN) (WB TB : Nat) (w : World) (i : Value) (wr : World) : Prop :=
  ∃ k : Nat, k ≤ funs.length ∧ i = .int .i64 k ∧ (∀ j, j < k → rightAt funs j = true) ∧ IntB wr WB (weightsUpto funs k ++ List.replicate (funs.length - k) 0) ∧ IntB wr TB (stepsUpto funs k ++ List.replicate (funs.length - k) 0) ∧ Below w.heap.size w wr
theorem pad_set (ws : List Int) (n k : Nat) (hl : ws.length = k) (hk : k < n) (x : Int) : (ws ++ List.replicate (n - k) 0).set k x = ws ++ [x] ++ List.replicate (n - (k + 1)) 0 := by
  subst hl
  rw [List.set_append_right _ _ (Nat.le_refl _)]
  have e : n - ws.length = (n - (ws.length + 1)) + 1 := by omega
  rw [e, List.replicate_succ]
  simp
def PRel (funs : List FN) (f : FN) (k WB TB : Nat) (w w4 : World) (i : Value) (wr : World) : Prop :=
  ∃ (i' : Nat) (m : Int), i' ≤ f.parts.length ∧ i = .int .i64 i' ∧ m = (f.parts.take i').foldl (fun n p => min (n + (weightsUpto funs k).getD p.fn.toNat 0) 1001) 1 ∧ (∀ (j : Nat) (p : PT), j < i' → f.parts[j]? = some p → partOk funs f.cells k p = true) ∧
    IntB wr WB (weightsUpto funs k ++ [m] ++ List.replicate (funs.length - (k + 1)) 0) ∧ IntB wr TB (stepsUpto funs k ++ List.replicate (funs.length - k) 0) ∧ Below w.heap.size w wr ∧ Keep [WB] w4 wr
theorem partL_cell {W w : World} {v : Value} {l : List PT} (h : RepV RPart 2 W v l) (hb : Below W.heap.size W w) {j : Nat} (hj : j < l.length) : ∃ b o c, v = .slice (some ⟨b, o, none⟩) l.length c ∧ b < W.heap.size ∧ w.cell? ⟨b, o + j * 2, none⟩ = some (.int .i64 l[j].at_) ∧ w.cell? ⟨b, o + j * 2 + 1, none⟩ = some (.int .i64 l[j].fn) ∧ I64 l[j].at_ ∧ I64 l[j].fn := by
  obtain ⟨A, c, rfl, h1, h2, h3, h4⟩ := h.get hb
  obtain ⟨b, o, cs, rfl, hlt, hlen, hR, hAt⟩ := h4 j _ (List.getElem?_eq_getElem hj)
  obtain ⟨rfl, hI, hI'⟩ := hR
  exact ⟨b, o, c, rfl, hlt, hAt 0 _ rfl, hAt 1 _ rfl, hI, hI'⟩
structure WPost (right : Bool) (x : Int) (w : World) (e : Ending) (w' : World) : Prop where
  ret : e = .returned (.tuple #[.int .i64 (if right then x else 0), .bool right])
  below : Below w.heap.size w w'
def heavyV (funs : List FN) : Int := max ((weightsUpto funs funs.length).getD (lastF funs) 0) ((stepsUpto funs funs.length).getD (lastF funs) 0)
set_option maxRecDepth 100000 in
set_option maxHeartbeats 2000000 in
theorem weigh_any {W : World} {funs : List FN} {nf : Nat} (A : Option Addr) (c : Nat) (w : World) (hW : Below W.heap.size W w) (hrep : RepV (RepF W nf) 6 W (.slice A funs.length c) funs) :
    Calls Tryz.prog 22 #[.slice A funs.length c] w (WPost (rightF funs) (heavyV funs) w) := by
  have hll := hrep.1
  have HREP := Lib.hid hrep
  have HW := Lib.hid hW
  have hW0 := hW.size
  have hmk := run_make_row' (P := Tryz.prog) 46 3 (.int .i64 0) 8 Tryz.underlying46 Tryz.infoInt rfl .i64 .i64 funs.length (by omega) (by omega)
  clear hrep hW
  go_enter Tryz.func22, Tryz.ntmps22
  go_upto_region 1 with fail
  go_cut [4, 5] from 10 to 15 (fun v4 v5 wx => Made funs.length w v4 v5 wx)
  case first =>
    go_region
    all_goals (go_wp2_with fail; go_meet; case rel => first | exact made_a _ _ | exact made_b _ _)
  case rest =>
    obtain ⟨WB, TB, hWT, rfl, rfl, hWg, hTg, hWB, hTB, hb⟩ := hcut
    have HWB := Lib.hid hWB
    have HTB := Lib.hid hTB
    have HB := Lib.hid hb
    have hbs := hb.size
    clear hWB hTB hb hmk
    go_wp2_with fail
    go_loopw [18] (fun i wr => WRel funs WB TB w i wr) (fun i _ => funs.length - (intOf i).toNat)
    case atStart => exact ⟨0, Nat.zero_le _, rfl, fun j hj => by omega, HWB.out, HTB.out, HB.out⟩
    case round =>
      obtain ⟨k, hk, rfl, hok, hw1, ht1, hb1⟩ := hrel
      have HOK := Lib.hid hok
      have HW1 := Lib.hid hw1
      have HT1 := Lib.hid ht1
      have HB1 := Lib.hid hb1
      have hbs1 := hb1.size
      clear hok hw1 ht1 hb1
      by_cases hlt : k < funs.length
      · generalize hf : funs.getD k default = f
        obtain ⟨b, o, c', Ap, cp, Ar, cr, Af, cf, Aq, cq, Ab, cb, hsl, -, hbW, k0, k1, k2, k3, k4, k5, r1, r2, r3, r4, r5⟩ := fn_cells HREP.out (HW.out.trans (HB1.out.mono hW0)) hlt hf
        injection hsl with e1 e2 e3
        subst e1
        have HF := Lib.hid hf
        have hwl := lt_of_block HW1.out
        have htl := lt_of_block HT1.out
        have hgw : (weightsUpto funs k ++ List.replicate (funs.length - k) 0)[k]? = some 0 := by
          rw [List.getElem?_append_right (by rw [weightsUpto_len]; omega), weightsUpto_len, List.getElem?_replicate]
          simp; omega
        have xw := HW1.out.get hgw
        have zw : wr.frozen? ⟨WB, k, none⟩ = false := frozB HW1.out k
        have hfq := r4.1
        have hff := r3.1
        clear hf e2 e3 hgw
        have HFQ := Lib.hid (r4)
        have HFF := Lib.hid (r3)
        have HFB := Lib.hid (r5)
        obtain ⟨w2, hw2⟩ : ∃ w2, w2 = (wr.setCell ⟨WB, k, none⟩ (Value.int .i64 1)).alloc (Obj.cells #[Value.slice Ap f.params.length cp, Value.slice Ar f.results.length cr, Value.int IntKind.i64 f.cells, Value.slice Af f.flags.length cf, Value.slice Aq f.parts.length cq, Value.slice Ab f.body.length cb] 50) := ⟨_, rfl⟩
        have s1 : (wr.setCell ⟨WB, k, none⟩ (Value.int .i64 1)).heap.size = wr.heap.size := by simp [World.setCell]
        have hb2 : Below w.heap.size w w2 := by rw [hw2]; exact (HB1.out.setCell hWg _).alloc (by rw [s1]; exact hbs1) _
        have hN2 : w2.heap[wr.heap.size]? = some (Obj.cells #[Value.slice Ap f.params.length cp, Value.slice Ar f.results.length cr, Value.int IntKind.i64 f.cells, Value.slice Af f.flags.length cf, Value.slice Aq f.parts.length cq, Value.slice Ab f.body.length cb] 50 (0, 0)) := by
          rw [hw2, ← s1]; exact heap_alloc_at _ _
        have hw2B : IntB w2 WB (weightsUpto funs k ++ [1] ++ List.replicate (funs.length - (k + 1)) 0) := by
          rw [hw2, ← pad_set _ _ _ (weightsUpto_len funs k) hlt]
          exact (HW1.out.set k 1).on ((Below.refl _ _).alloc (Nat.le_refl _) _)
        have ht2B : IntB w2 TB (stepsUpto funs k ++ List.replicate (funs.length - k) 0) := by
          rw [hw2]
          exact (HT1.out.other k _ (Ne.symm hWT)).on ((Below.refl _ _).alloc (Nat.le_refl _) _)
        have HB2 := Lib.hid hb2
        have HN2 := Lib.hid hN2
        have HW2 := Lib.hid hw2B
        have HT2 := Lib.hid ht2B
        have hbs2 := hb2.size
        have hn2l := lt_of_block hN2
        go_upto_region 6 with fail
        rw [← hw2]
        clear hw2 hb2 hN2 hw2B ht2B xw zw k0 k1 k2 k3 k4 k5 r1 r2 r3 r4 r5 hwl htl s1
        clear HW1 HT1 HB1
        generalize hFB : wr.heap.size = FB at HN2 hn2l hbs1 ⊢
        have n2 := cellB' HN2.out 2 rfl
        have n3 := cellB' HN2.out 3 rfl
        have n4 := cellB' HN2.out 4 rfl
        have n5 := cellB' HN2.out 5 rfl
        by_cases hc0 : f.cells < 0
        · have HR := Lib.hid (rightF_no hlt (rightAt_cells HF.out (by omega)))
          go_wp2_with fail
          go_ret2
          exact ⟨by rw [HR.out]; rfl, HB2.out⟩
        by_cases hc1 : 1000 < f.cells
        · have HR := Lib.hid (rightF_no hlt (rightAt_cells HF.out (by omega)))
          go_wp2_with fail
          go_ret2
          exact ⟨by rw [HR.out]; rfl, HB2.out⟩
        go_wp2_with fail
        refine (below_any W nf f.body Ab cb k w2 (HW.out.trans (HB2.out.mono hW0)) HFB.out).mono ?_
        rintro e3 w3 ⟨rfl, hb3⟩
        generalize hcl : callsL f.body k = bc
        have HB3 := Lib.hid (HB2.out.trans (hb3.mono hbs2))
        have HN3 := Lib.hid ((hb3.block _ hn2l).trans HN2.out)
        have HW3 := Lib.hid (HW2.out.on hb3)
        have HT3 := Lib.hid (HT2.out.on hb3)
        have HCL := Lib.hid hcl
        have hbs3 := HB3.out.size
        have hn3l := lt_of_block HN3.out
        clear n2 n3 n4 n5 hb3 hcl
        cases bc with
        | false =>
          have HR := Lib.hid (rightF_no hlt (rightAt_calls HF.out HCL.out))
          go_wp2_with fail
          go_ret2
          exact ⟨by rw [HR.out]; rfl, HB3.out⟩
        | true =>
          have hmf : ∀ (fn : Fn) (first cap : Array Value) (w : World), (Instr.makeFunc fn first cap).run Tryz.prog w = .ok (.func fn first cap) w := fun _ _ _ _ => rfl
          have n2 := cellB' HN3.out 2 rfl
          have n3 := cellB' HN3.out 3 rfl
          go_wp2_with fail
          refine (contI_any FB f.cells Af f.flags cf w3 (HW.out.trans (HB3.out.mono hW0)) HFF.out hn3l (cellB' HN3.out 2 rfl)).mono ?_
          rintro e4 w4 ⟨rfl, hb4⟩
          generalize hfl : f.flags.all (flagOk f.cells) = bf
          have HB4 := Lib.hid (HB3.out.trans (hb4.mono hbs3))
          have HN4 := Lib.hid ((hb4.block _ hn3l).trans HN3.out)
          have HW4 := Lib.hid (HW3.out.on hb4)
          have HT4 := Lib.hid (HT3.out.on hb4)
          have HFL := Lib.hid hfl
          have hbs4 := HB4.out.size
          have hn4l := lt_of_block HN4.out
          clear n2 n3 hb4 hfl
          cases bf with
          | false =>
            have HR := Lib.hid (rightF_no hlt (rightAt_flags HF.out HFL.out))
            go_wp2_with fail
            go_ret2
            exact ⟨by rw [HR.out]; rfl, HB4.out⟩
          | true =>
            have n2 := cellB' HN4.out 2 rfl
            have n4 := cellB' HN4.out 4 rfl
            go_wp2_with fail
            go_loopw [48] (fun i wr' => PRel funs f k WB TB w w4 i wr') (fun i _ => f.parts.length - (intOf i).toNat)
            case atStart => exact ⟨0, 1, Nat.zero_le _, rfl, rfl, fun j p hj => by omega, HW4.out, HT4.out, HB4.out, Keep.refl _ _⟩
            case round =>
              obtain ⟨i, m, hi, rfl, hm, hpok, hw5, ht5, hb5, hk5⟩ := hrel
              have HM := Lib.hid hm
              have HPO := Lib.hid hpok
              have HW5 := Lib.hid hw5
              have HT5 := Lib.hid ht5
              have HB5 := Lib.hid hb5
              have HK5 := Lib.hid hk5
              have hbs5 := hb5.size
              have hwB := lt_of_block hw5
              clear hm hpok hw5 ht5 hb5 hk5
              by_cases hlt2 : i < f.parts.length
              · obtain ⟨bp, op, cp', hpe, hbp, hp0, hp1, hpI0, hpI1⟩ := partL_cell HFQ.out (HW.out.trans (HB5.out.mono hW0)) hlt2
                injection hpe with e1 e2 e3
                subst e1
                have hg : f.parts[i]? = some f.parts[i] := List.getElem?_eq_getElem hlt2
                generalize f.parts[i] = p at hg hp0 hp1 hpI0 hpI1
                obtain ⟨pa, pf⟩ := p
                simp only at hp0 hp1 hpI0 hpI1
                have HG := Lib.hid hg
                clear hg e2 e3
                go_upto_region 13 with fail
                obtain ⟨w6, hw6⟩ : ∃ w6, w6 = wr.alloc (Obj.cells #[Value.int IntKind.i64 pa, Value.int IntKind.i64 pf] 56) := ⟨_, rfl⟩
                rw [← hw6]
                have hs6 : wr.heap.size < w6.heap.size := by rw [hw6]; simp
                have hN6 : w6.heap[wr.heap.size]? = some (Obj.cells #[Value.int IntKind.i64 pa, Value.int IntKind.i64 pf] 56 (0, 0)) := by rw [hw6]; exact heap_alloc_at _ _
                have hb6 : Below wr.heap.size wr w6 := by rw [hw6]; exact (Below.refl _ _).alloc (Nat.le_refl _) _
                clear hw6
                have HB6 := Lib.hid (HB5.out.trans (hb6.mono hbs5))
                have HW6 := Lib.hid (HW5.out.on hb6)
                have HT6 := Lib.hid (HT5.out.on hb6)
                have HK6 := Lib.hid (HK5.out.trans (Keep.of_below hb6))
                have HP6 := Lib.hid hN6
                have hFn : FB ≠ WB := fun e => by
                  have h1 := HN4.out
                  have h2 := HW4.out
                  unfold IntB at h2
                  rw [e, h2] at h1
                  injection h1 with h1
                  injection h1 with h1 h3
                  exact absurd h3 (by decide)
                have HN6 := Lib.hid ((HK6.out.block FB hn4l (by simpa using hFn)).trans HN4.out)
                have p0 := cellB' HP6.out 0 rfl
                have p1 := cellB' HP6.out 1 rfl
                have n2 := cellB' HN6.out 2 rfl
                have hF6 := lt_of_block HN6.out
                have hbs6 := HB6.out.size
                generalize hPB : wr.heap.size = PB at HP6 p0 p1 hs6 hbs5 ⊢
                clear hp0 hp1 hN6 hb6 n4
                by_cases g1 : pf < 0
                · have d1 : decide (pf < 0) = true := by simpa using g1
                  have HR := Lib.hid (rightF_no hlt (rightAt_part HF.out HG.out (partOk_no (by simp only; omega))))
                  go_quiet (fail)
                  go_wp2_with fail
                  go_ret2
                  exact ⟨by rw [HR.out]; rfl, Below.drewN' HB6.out _⟩
                have d1 : decide (pf < 0) = false := by simpa using g1
                by_cases g2 : (k : Int) ≤ pf
                · have d2 : decide ((k : Int) ≤ pf) = true := by simpa using g2
                  have HR := Lib.hid (rightF_no hlt (rightAt_part HF.out HG.out (partOk_no (by simp only; omega))))
                  go_quiet (fail)
                  go_wp2_with fail
                  go_ret2
                  exact ⟨by rw [HR.out]; rfl, Below.drewN' HB6.out _⟩
                have d2 : decide ((k : Int) ≤ pf) = false := by simpa using g2
                by_cases g3 : pa < 0
                · have d3 : decide (pa < 0) = true := by simpa using g3
                  have HR := Lib.hid (rightF_no hlt (rightAt_part HF.out HG.out (partOk_no (by simp only; omega))))
                  go_quiet (fail)
                  go_wp2_with fail
                  go_ret2
                  exact ⟨by rw [HR.out]; rfl, Below.drewN' HB6.out _⟩
                have d3 : decide (pa < 0) = false := by simpa using g3
                by_cases g4 : f.cells < pa
                · have d4 : decide (f.cells < pa) = true := by simpa using g4
                  have HR := Lib.hid (rightF_no hlt (rightAt_part HF.out HG.out (partOk_no (by simp only; omega))))
                  go_quiet (fail)
                  go_wp2_with fail
                  go_ret2
                  exact ⟨by rw [HR.out]; rfl, Below.drewN' HB6.out _⟩
                have d4 : decide (f.cells < pa) = false := by simpa using g4
                obtain ⟨fk, rfl⟩ := Int.eq_ofNat_of_zero_le (show 0 ≤ pf by omega)
                have hfkl : fk < funs.length := by omega
                obtain ⟨b', o', c'', _, _, _, _, _, _, _, _, _, _, hsl, -, hbW', -, -, kx2, -, -, -, -⟩ := fn_cells HREP.out (HW.out.trans (HB6.out.mono hW0)) hfkl rfl
                injection hsl with e1 e2 e3
                injection e1 with e1
                injection e1 with e1 e4
                subst e1 e4
                clear e2 e3
                have hb6l : b < w6.heap.size := by have := HW.out.size; omega
                generalize hxc : (funs.getD fk default).cells = xc at kx2
                by_cases g5 : f.cells - pa < xc
                · have d5 : decide (f.cells - pa < xc) = true := by simpa using g5
                  have HR := Lib.hid (rightF_no hlt (rightAt_part HF.out HG.out (partOk_no (by simp only [Int.toNat_natCast]; rw [hxc]; omega))))
                  go_quiet (fail)
                  go_wp2_with fail
                  go_ret2
                  exact ⟨by rw [HR.out]; rfl, Below.drewN' HB6.out _⟩
                have d5 : decide (f.cells - pa < xc) = false := by simpa using g5
                have HPK := Lib.hid (partOk_yes (funs := funs) (c := f.cells) (k := (k : Int)) (p := ⟨pa, fk⟩) ⟨by simp only; omega, by simp only; omega, by simp only; omega, by simp only; omega, by simp only [Int.toNat_natCast]; rw [hxc]; omega⟩)
                go_quiet (fail)
                go_wp2_with fail
                clear d1 d2 d3 d4 d5 p0 n2 kx2 p1
                have hbq : Below w6.heap.size w6 (w6.drewN nq) := Below.drewN' (Below.refl _ _) nq
                have HB7 := Lib.hid (HB6.out.trans (hbq.mono hbs6))
                have HW7 := Lib.hid (HW6.out.on hbq)
                have HT7 := Lib.hid (HT6.out.on hbq)
                have HK7 := Lib.hid (HK6.out.trans (Keep.of_below hbq))
                have HP7 := Lib.hid ((hbq.block _ (lt_of_block HP6.out)).trans HP6.out)
                clear HB6 HW6 HT6 HK6 HP6 HN6 hs6 hF6 hb6l hbq hbs6
                generalize w6.drewN nq = w7 at HB7 HW7 HT7 HK7 HP7 ⊢
                have hm2 := weightAt_ge (weightsUpto funs k) (fun x hx => (weightsUpto_small funs k x hx).1) (f.parts.take i) 1 (by omega)
                rw [← HM.out] at hm2
                have hxw : (weightsUpto funs k)[fk]? = some ((weightsUpto funs k).getD fk 0) := by
                  rw [List.getD_eq_getElem?_getD]
                  have : fk < (weightsUpto funs k).length := by rw [weightsUpto_len]; omega
                  rw [List.getElem?_eq_getElem this]; rfl
                have hsx := weightsUpto_small funs k _ (List.mem_of_getElem? hxw)
                have hwk := HW7.out.get (i := k) (x := m) (by
                  rw [List.append_assoc, List.getElem?_append_right (by rw [weightsUpto_len]; omega), weightsUpto_len, Nat.sub_self]; rfl)
                have hwf := HW7.out.get (i := fk) (x := (weightsUpto funs k).getD fk 0) (by
                  rw [List.append_assoc, List.getElem?_append_left (by rw [weightsUpto_len]; omega)]; exact hxw)
                generalize hxq : (weightsUpto funs k).getD fk 0 = xw at hwf hsx
                have hzk := frozB HW7.out k
                have p1 := cellB' HP7.out 1 rfl
                have hwl := lt_of_block HW7.out
                clear hxw
                refine region_qtail 14 (by kernel_rfl) (by kernel_rfl) ?_
                simp only [List.take_succ_cons, List.take_zero, List.drop_succ_cons, List.drop_zero]
                repeat (go_big_quiet_step (fail))
                refine wpQuiet_nil ?_
                intro kq
                go_wp2_with fail
                have hbq := Below.drewN' (Below.refl w7.heap.size w7) kq
                have hset := (HW7.out.on hbq).set k (if 1001 < m + xw then 1001 else m + xw)
                have hlw : (weightsUpto funs k).length = k := weightsUpto_len funs k
                have hls : (weightsUpto funs k ++ [m] ++ List.replicate (funs.length - (k + 1)) 0).set k (if 1001 < m + xw then 1001 else m + xw) = weightsUpto funs k ++ [if 1001 < m + xw then 1001 else m + xw] ++ List.replicate (funs.length - (k + 1)) 0 := by
                  rw [List.append_assoc, List.set_append_right _ _ (by omega), hlw, Nat.sub_self, List.append_assoc]; rfl
                rw [hls] at hset
                have hTo := ((HT7.out.on hbq).other k (.int .i64 (if 1001 < m + xw then 1001 else m + xw)) (Ne.symm hWT))
                refine ⟨⟨i + 1, (if 1001 < m + xw then 1001 else m + xw), hlt2, by simp, ?_, fun j p hj hp => ?_, hset, hTo, (HB7.out.trans (hbq.mono HB7.out.size)).setCell hWg _, (HK7.out.trans (Keep.of_below hbq)).setCell (.inl (by simp)) _⟩, by simp [intOf]; omega⟩
                · rw [take_snoc' HG.out, List.foldl_append, ← HM.out, List.foldl_cons, List.foldl_nil, Int.toNat_natCast, hxq, min_if]
                · rcases Nat.lt_or_ge j i with h | h
                  · exact HPO.out j p h hp
                  · obtain rfl : j = i := by omega
                    rw [HG.out] at hp
                    simp only [Option.some.injEq] at hp
                    rw [← hp]; exact HPK.out
              · obtain rfl : i = f.parts.length := by omega
                have HR := Lib.hid (rightAt_yes HF.out (by omega) (by omega) HCL.out HFL.out (List.all_eq_true.2 fun p hp => by
                  obtain ⟨j, hj⟩ := List.getElem?_of_mem hp
                  exact HPO.out j p (List.getElem?_eq_some_iff.1 hj).1 hj))
                have hFn : FB ≠ WB := fun e => by
                  have h1 := HN4.out
                  have h2 := HW4.out
                  unfold IntB at h2
                  rw [e, h2] at h1
                  injection h1 with h1
                  injection h1 with h1 h3
                  exact absurd h3 (by decide)
                have HN5 := Lib.hid ((HK5.out.block FB hn4l (by simpa using hFn)).trans HN4.out)
                have n5 := cellB' HN5.out 5 rfl
                have hlen : (stepsUpto funs k ++ List.replicate (funs.length - k) 0).length = funs.length := by simp [stepsUpto_len]; omega
                have HI5 := Lib.hid (HT5.out.ints hlen)
                clear n4
                go_wp2_with fail
                refine (steps_any W nf f.body Ab cb k wr _ (stepsUpto funs k ++ List.replicate (funs.length - k) 0) (HW.out.trans (HB5.out.mono hW0)) HFB.out HCL.out (by rw [hlen]; omega) HI5.out (small_pad (stepsUpto_small funs k) _) (by rw [hlen]; exact hll)).mono ?_
                rintro e8 w8 ⟨rfl, hb8⟩
                rw [takesL_congr (w' := stepsUpto funs k) (fun i => pad_getD _ _ _)]
                have hx0 := takesL_ge (c := 1000) (w := stepsUpto funs k) (by omega) (fun x hx => (stepsUpto_small funs k x hx).1) f.body 0 (by omega)
                have hx1 := takesL_le (c := 1000) (w := stepsUpto funs k) f.body 0 (by omega)
                generalize hxx : takesL 1000 (stepsUpto funs k) f.body 0 = x at hx0 hx1 ⊢
                have HXX := Lib.hid hxx
                have HB8 := Lib.hid (HB5.out.trans (hb8.mono hbs5))
                have HW8 := Lib.hid (HW5.out.on hb8)
                have HT8 := Lib.hid (HT5.out.on hb8)
                have hgt : (stepsUpto funs k ++ List.replicate (funs.length - k) 0)[k]? = some 0 := by
                  rw [List.getElem?_append_right (by rw [stepsUpto_len]; omega), stepsUpto_len, List.getElem?_replicate]
                  simp; omega
                have hxt := HT8.out.get hgt
                have hzt := frozB HT8.out k
                clear hb8 hxx n5 hgt
                go_wp2_with fail
                have hset := HT8.out.set k (1 + x)
                rw [pad_set _ _ _ (stepsUpto_len funs k) hlt] at hset
                have hWo := HW8.out.other k (.int .i64 (1 + x)) hWT
                refine ⟨⟨k + 1, hlt, by simp, fun j hj => ?_, ?_, ?_, HB8.out.setCell hTg _⟩, by simp [intOf]; omega⟩
                · rcases Nat.lt_or_ge j k with h | h
                  · exact HOK.out j h
                  · obtain rfl : j = k := by omega
                    exact HR.out
                · have e : weightsUpto funs (k + 1) = weightsUpto funs k ++ [m] := by
                    simp only [weightsUpto, weightAt]
                    rw [HF.out, HM.out, List.take_length]
                  rw [e]; exact hWo
                · have e : stepsUpto funs (k + 1) = stepsUpto funs k ++ [1 + x] := by
                    simp only [stepsUpto]
                    rw [HF.out, HXX.out]
                  rw [e]; exact hset
      · obtain rfl : k = funs.length := by omega
        by_cases h0 : funs.length = 0
        · have HR := Lib.hid (show rightF funs = false by unfold rightF; rw [h0]; simp)
          have d0 : ((funs.length : Int) == 0) = true := by simp [h0]
          go_wp2_with fail
          go_ret2
          exact ⟨by rw [HR.out]; rfl, HB1.out⟩
        · have HR := Lib.hid (show rightF funs = true by
            unfold rightF
            simp only [Bool.and_eq_true, List.all_eq_true, List.mem_range, decide_eq_true_eq]
            exact ⟨HOK.out, by omega⟩)
          have d0 : ((funs.length : Int) == 0) = false := by simp [h0]
          have hw9 := HW1.out
          have ht9 := HT1.out
          rw [Nat.sub_self, List.replicate_zero, List.append_nil] at hw9 ht9
          have hwg : (weightsUpto funs funs.length)[funs.length - 1]? = some ((weightsUpto funs funs.length).getD (lastF funs) 0) := by
            rw [List.getD_eq_getElem?_getD]
            have : lastF funs < (weightsUpto funs funs.length).length := by rw [weightsUpto_len]; unfold lastF; omega
            rw [List.getElem?_eq_getElem this, show funs.length - 1 = lastF funs from rfl, List.getElem?_eq_getElem this]; rfl
          have htg : (stepsUpto funs funs.length)[funs.length - 1]? = some ((stepsUpto funs funs.length).getD (lastF funs) 0) := by
            rw [List.getD_eq_getElem?_getD]
            have : lastF funs < (stepsUpto funs funs.length).length := by rw [stepsUpto_len]; unfold lastF; omega
            rw [List.getElem?_eq_getElem this, show funs.length - 1 = lastF funs from rfl, List.getElem?_eq_getElem this]; rfl
          have hcw := hw9.get hwg
          have hct := ht9.get htg
          have e1 : (funs.length : Int) - 1 = ((funs.length - 1 : Nat) : Int) := by omega
          have hwl := lt_of_block hw9
          have htl := lt_of_block ht9
          have HVV := Lib.hid (show heavyV funs = max ((weightsUpto funs funs.length).getD (lastF funs) 0) ((stepsUpto funs funs.length).getD (lastF funs) 0) from rfl)
          generalize (weightsUpto funs funs.length).getD (lastF funs) 0 = xa at hcw HVV
          generalize (stepsUpto funs funs.length).getD (lastF funs) 0 = xb at hct HVV
          clear hwg htg hw9 ht9
          go_wp2_with fail
          refine region_qtail 13 (by kernel_rfl) (by kernel_rfl) ?_
          simp only [List.take_succ_cons, List.take_zero, List.drop_succ_cons, List.drop_zero]
          repeat (go_big_quiet_step (fail))
          refine wpQuiet_nil ?_
          intro kq
          go_wp2_with fail
          all_goals (go_ret2; refine ⟨?_, Below.drewN' HB1.out _⟩; rw [HR.out, HVV.out]; first | (rw [show max xa xb = xb by omega]; rfl) | (rw [show max xa xb = xa by omega]; rfl))
end Go.Proofs.YtoaajpppbjaomaaGreatDoor
/- The reference's calls: are all functions that statements name below k? -/
namespace Go.Proofs.YtoaajpppbjaomaaGreatDoor
open Go.RowKit
theorem callsL_no {l : List FS} {k : Int} {j : Nat} {s : FS} (hj : l[j]? = some s) (h : callsS s k = false) : callsL l k = false := by
  rw [← Bool.not_eq_true]
  intro hh
  rw [callsL_at hh hj] at h
  cases h
theorem callsL_yes {k : Int} : ∀ {l : List FS}, (∀ (j : Nat) s, l[j]? = some s → callsS s k = true) → callsL l k = true
  | [], _ => rfl
  | a :: r, h => by
    simp only [callsL, Bool.and_eq_true]
    exact ⟨h 0 a rfl, callsL_yes (fun j s hj => h (j + 1) s (by simpa using hj))⟩
theorem callsAs_no {l : List FA} {k : Int} {j : Nat} {a : FA} (hj : l[j]? = some a) (h : callsL a.body k = false) : callsAs l k = false := by
  rw [← Bool.not_eq_true]
  intro hh
  rw [callsAs_at hh hj] at h
  cases h
theorem callsAs_yes {k : Int} : ∀ {l : List FA}, (∀ (j : Nat) a, l[j]? = some a → callsL a.body k = true) → callsAs l k = true
  | [], _ => rfl
  | a :: r, h => by
    simp only [callsAs, Bool.and_eq_true]
    refine ⟨?_, callsAs_yes (fun j s hj => h (j + 1) s (by simpa using hj))⟩
    have := h 0 a rfl
    cases a
    exact this
def CallsC (W : World) (n : Nat) : Prop := ∀ (l : List FS) (A : Option Addr) (c : Nat) (k : Int) (w : World), Below W.heap.size W w → RepV (RepS W n) 12 W (.slice A l.length c) l →
  Calls Tryz.prog 34 #[.slice A l.length c, .int .i64 k] w (RetB (.bool (callsL l k)) w)
def CRel (k : Int) (l : List FS) (w : World) (i : Value) (wr : World) : Prop :=
  ∃ j : Nat, j ≤ l.length ∧ i = .int .i64 j ∧ (∀ (i : Nat) s, i < j → l[i]? = some s → callsS s k = true) ∧ Below w.heap.size w wr
def CARel (k : Int) (l : List FA) (w w1 : World) (i : Value) (wr : World) : Prop :=
  ∃ j : Nat, j ≤ l.length ∧ i = .int .i64 j ∧ (∀ (i : Nat) a, i < j → l[i]? = some a → callsL a.body k = true) ∧ Below w.heap.size w wr ∧ Below w1.heap.size w1 wr
set_option maxRecDepth 100000 in
set_option maxHeartbeats 1000000 in
theorem calls_core {W : World} {n : Nat} (l : List FS) (A : Option Addr) (c : Nat) (k : Int) (w : World) (hW : Below W.heap.size W w) (hrep : RepV (RepS W (n + 1)) 12 W (.slice A l.length c) l) (IH : l ≠ [] → CallsC W n) :
    Calls Tryz.prog 34 #[.slice A l.length c, .int .i64 k] w (RetB (.bool (callsL l k)) w) := by
  have hll := hrep.1
  have HREP := Lib.hid hrep
  have HIH := Lib.hid IH
  have hW0 := hW.size
  have HW := Lib.hid hW
  clear hrep IH hW
  go_enter Tryz.func34, Tryz.ntmps34
  go_wp2_with fail
  go_loopw [5] (fun i wr => CRel k l w i wr) (fun i _ => l.length - (intOf i).toNat)
  case atStart => exact ⟨0, Nat.zero_le _, rfl, fun i s hi => by omega, Below.refl _ _⟩
  case round =>
    obtain ⟨j, hj, rfl, hok, hb⟩ := hrel
    have HOK := Lib.hid hok
    have HB := Lib.hid hb
    have hbs := hb.size
    clear hok hb
    by_cases hlt : j < l.length
    · obtain ⟨b, o, c', op, name, at_, fn, names, e, args, arms, aN, cN, eo, en, ev, aC, lC, cC, aK, lK, cK, aA, cA, aR, cR, he, hbW, hs, q0, q1, q2, q3, q4, q5, q6, q7, q8, q9, q10, q11, i1, i2, i3, p1, p2, p3, p4⟩ := stmt_cells HREP.out (HW.out.trans (HB.out.mono hW0)) hlt
      injection he with he1 he2 he3
      subst he1
      have har := p4.1
      have HG := Lib.hid (show l[j]? = some (.mk op name at_ fn names e args arms) by rw [List.getElem?_eq_getElem hlt, hs])
      have HAR := Lib.hid p4
      have hne : l ≠ [] := (by intro h; rw [h] at hlt; simp at hlt)
      have HIHn := Lib.hid (HIH.out hne)
      obtain ⟨w1, hw1⟩ : ∃ w1, w1 = wr.alloc (Obj.cells #[Value.int IntKind.i64 op, Value.string name, Value.int IntKind.i64 at_, Value.int IntKind.i64 fn, Value.slice aN names.length cN, Value.int IntKind.i64 eo, Value.string en, Value.int IntKind.i64 ev, Value.slice aC lC cC, Value.slice aK lK cK, Value.slice aA args.length cA, Value.slice aR arms.length cR] 88) := ⟨_, rfl⟩
      have hb1 : Below w.heap.size w w1 := by rw [hw1]; exact HB.out.alloc hbs _
      have hN : w1.heap[wr.heap.size]? = some (Obj.cells #[Value.int IntKind.i64 op, Value.string name, Value.int IntKind.i64 at_, Value.int IntKind.i64 fn, Value.slice aN names.length cN, Value.int IntKind.i64 eo, Value.string en, Value.int IntKind.i64 ev, Value.slice aC lC cC, Value.slice aK lK cK, Value.slice aA args.length cA, Value.slice aR arms.length cR] 88 (0, 0)) := by rw [hw1]; exact heap_alloc_at _ _
      have HB1 := Lib.hid hb1
      have HN := Lib.hid hN
      have hNl := lt_of_block hN
      have hbs1 := hb1.size
      clear p1 p2 p3 p4 hs he2 he3 hne
      go_upto_region 5 with fail
      rw [← hw1]
      have n0 := cellB' hN 0 rfl
      have n3 := cellB' hN 3 rfl
      have n11 := cellB' hN 11 rfl
      clear hw1 hb1 hN q0 q1 q2 q3 q4 q5 q6 q7 q8 q9 q10 q11
      go_cut [36] from 18 to 36 (fun v wx => v = .bool ((op == 3 || op == 4) && (decide (fn < 0) || decide (k ≤ fn))) ∧ wx = w1)
      case first =>
        cases h3 : (op == 3) <;> cases h4 : (op == 4) <;> cases hl : decide (fn < 0) <;> cases hg : decide (k ≤ fn) <;>
          (go_wp2_with fail; go_meet; case rel => exact ⟨by rw [h3, h4, hl, hg]; rfl, rfl⟩)
      case rest =>
        obtain ⟨rfl, rfl⟩ := hcut
        generalize hbd : ((op == 3 || op == 4) && (decide (fn < 0) || decide (k ≤ fn))) = bd
        have HBD := Lib.hid hbd
        clear n0 n3 n11 hbd
        cases bd with
        | true =>
          have hcs : callsS (.mk op name at_ fn names e args arms) k = false := by simp only [callsS, HBD.out]; rfl
          have HR := Lib.hid (callsL_no HG.out hcs)
          clear hcs
          go_wp2_with fail
          go_ret
          exact ⟨by rw [HR.out]; rfl, HB1.out⟩
        | false =>
          go_wp2_with fail
          go_loopw [7] (fun i w2 => CARel k arms w wc i w2) (fun i _ => arms.length - (intOf i).toNat)
          case atStart => exact ⟨0, Nat.zero_le _, rfl, fun i a hi => by omega, HB1.out, Below.refl _ _⟩
          case round =>
            obtain ⟨i, hi, rfl, hok2, hb2, hb2'⟩ := hrel
            have HOK2 := Lib.hid hok2
            have HB2 := Lib.hid hb2
            have HB2' := Lib.hid hb2'
            have hbs2 := hb2.size
            have n11 := cellB' ((hb2'.block _ hNl).trans HN.out) 11 rfl
            have hNl2 := Nat.lt_of_lt_of_le hNl hb2'.size
            clear hok2 hb2 hb2'
            by_cases hlt2 : i < arms.length
            · obtain ⟨ba, oa, ca, Ab, cb, hae, hab, ha0, ha1, hbody⟩ := arm_cells HAR.out (HW.out.trans (HB2.out.mono hW0)) hlt2
              injection hae with e1 e2 e3
              subst e1
              have hAg : arms[i]? = some arms[i] := List.getElem?_eq_getElem hlt2
              have HBO := Lib.hid hbody
              generalize arms[i] = a at *
              have HAg := Lib.hid hAg
              clear hAg hbody e2 e3
              go_wp2_with fail
              refine (HIHn.out a.body Ab cb k _ (HW.out.trans (HB2.out.mono hW0)) HBO.out).mono ?_
              rintro e4 w4 ⟨rfl, hb4⟩
              have HB4 := Lib.hid hb4
              clear hb4
              generalize hcl : callsL a.body k = bc
              have HCL := Lib.hid hcl
              clear hcl
              cases bc with
              | false =>
                have hcs : callsS (.mk op name at_ fn names e args arms) k = false := by simp only [callsS, HBD.out, callsAs_no HAg.out HCL.out]; rfl
                have HR := Lib.hid (callsL_no HG.out hcs)
                clear hcs
                go_wp2_with fail
                go_ret
                exact ⟨by rw [HR.out]; rfl, HB2.out.trans (HB4.out.mono hbs2)⟩
              | true =>
                go_wp2_with fail
                refine ⟨⟨i + 1, hlt2, by simp, fun x b hx hb => ?_, HB2.out.trans (HB4.out.mono hbs2), HB2'.out.trans (HB4.out.mono HB2'.out.size)⟩, by simp [intOf]; omega⟩
                rcases Nat.lt_or_ge x i with h | h
                · exact HOK2.out x b h hb
                · obtain rfl : x = i := by omega
                  rw [HAg.out] at hb
                  simp only [Option.some.injEq] at hb
                  rw [← hb]; exact HCL.out
            · obtain rfl : i = arms.length := by omega
              have hcs : callsS (.mk op name at_ fn names e args arms) k = true := by
                simp only [callsS, HBD.out, callsAs_yes (fun j a hj => HOK2.out j a (List.getElem?_eq_some_iff.1 hj).1 hj)]; rfl
              have HCS := Lib.hid hcs
              clear hcs
              go_wp2_with fail
              refine ⟨⟨j + 1, hlt, by simp, fun x s hx hs => ?_, HB2.out⟩, by simp [intOf]; omega⟩
              rcases Nat.lt_or_ge x j with h | h
              · exact HOK.out x s h hs
              · obtain rfl : x = j := by omega
                rw [HG.out] at hs
                simp only [Option.some.injEq] at hs
                rw [← hs]; exact HCS.out
    · obtain rfl : j = l.length := by omega
      go_wp2_with fail
      go_ret
      refine ⟨?_, HB.out⟩
      rw [callsL_yes (fun j s hj => HOK.out j s (List.getElem?_eq_some_iff.1 hj).1 hj)]; rfl
theorem calls_any (W : World) : ∀ n, CallsC W n := by
  intro n
  induction n with
  | zero =>
    intro l A c k w hW hrep
    obtain ⟨hl, hr⟩ := repS_nil (n := 1) hrep
    exact calls_core l A c k w hW hr (fun h => absurd hl h)
  | succ n ih => exact fun l A c k w hW hrep => calls_core l A c k w hW hrep (fun _ => ih)
end Go.Proofs.YtoaajpppbjaomaaGreatDoor
/- The reference's Right: may a flat program be run? -/
namespace Go.Proofs.YtoaajpppbjaomaaGreatDoor
open Go.RowKit
def RRel (funs : List FN) (w w1 : World) (i : Value) (wr : World) : Prop :=
  ∃ k : Nat, k ≤ funs.length ∧ i = .int .i64 k ∧ (∀ j, j < k → rightAt funs j = true) ∧ Below w.heap.size w wr ∧ Below w1.heap.size w1 wr
def RFRel (f : FN) (w w1 : World) (i : Value) (wr : World) : Prop :=
  ∃ j : Nat, j ≤ f.flags.length ∧ i = .int .i64 j ∧ (∀ (x : Nat) n, x < j → f.flags[x]? = some n → flagOk f.cells n = true) ∧ Below w.heap.size w wr ∧ Below w1.heap.size w1 wr
def RPRel (funs : List FN) (f : FN) (k : Nat) (w w1 : World) (i : Value) (wr : World) : Prop :=
  ∃ j : Nat, j ≤ f.parts.length ∧ i = .int .i64 j ∧ (∀ (x : Nat) p, x < j → f.parts[x]? = some p → partOk funs f.cells k p = true) ∧ Below w.heap.size w wr ∧ Below w1.heap.size w1 wr
set_option maxRecDepth 100000 in
set_option maxHeartbeats 2000000 in
theorem right_any {W : World} {funs : List FN} {nf : Nat} {fv : Value} (w : World) (hW : Below W.heap.size W w) (hrep : RepV (RepF W nf) 6 W fv funs) :
    Calls Tryz.prog 20 #[.agg #[fv]] w (RetB (.bool (rightF funs)) w) := by
  obtain ⟨A, c, rfl, hc1, hc2, hll⟩ := hrep.sl
  have HREP := Lib.hid hrep
  have HW := Lib.hid hW
  have hW0 := hW.size
  clear hrep hW
  obtain ⟨w1, hw1⟩ : ∃ w1, w1 = w.alloc (Obj.cells #[.slice A funs.length c] 24) := ⟨_, rfl⟩
  have hb1 : Below w.heap.size w w1 := by rw [hw1]; exact (Below.refl _ _).alloc (Nat.le_refl _) _
  have hN1 : w1.heap[w.heap.size]? = some (Obj.cells #[.slice A funs.length c] 24 (0, 0)) := by rw [hw1]; exact heap_alloc_at _ _
  have HB1 := Lib.hid hb1
  have HN1 := Lib.hid hN1
  have hbs1 := hb1.size
  have hN1l := lt_of_block hN1
  clear hb1 hN1
  go_enter Tryz.func20, Tryz.ntmps20
  go_wp2_with fail
  rw [← hw1]
  clear hw1
  go_loopw [3] (fun i wr => RRel funs w w1 i wr) (fun i _ => funs.length - (intOf i).toNat)
  case atStart => exact ⟨0, Nat.zero_le _, rfl, fun j hj => by omega, HB1.out, Below.refl _ _⟩
  case round =>
    obtain ⟨k, hk, rfl, hok, hb, hb'⟩ := hrel
    have HOK := Lib.hid hok
    have HB := Lib.hid hb
    have HB' := Lib.hid hb'
    have hbs := hb.size
    have hbs' := hb'.size
    clear hok hb hb'
    have m0 := (HB'.out.cell (p := ⟨w.heap.size, 0, none⟩) hN1l).trans (cellB' HN1.out 0 rfl)
    by_cases hlt : k < funs.length
    · generalize hf : funs.getD k default = f
      obtain ⟨b, o, c', Ap, cp, Ar, cr, Af, cf, Aq, cq, Ab, cb, hsl, -, hbW, k0, k1, k2, k3, k4, k5, r1, r2, r3, r4, r5⟩ := fn_cells HREP.out (HW.out.trans (HB.out.mono hW0)) hlt hf
      injection hsl with e1 e2 e3
      subst e1
      have HF := Lib.hid hf
      have HFQ := Lib.hid r4
      have HFF := Lib.hid r3
      have HFB := Lib.hid r5
      have hfq := r4.1
      have hff := r3.1
      obtain ⟨w2, hw2⟩ : ∃ w2, w2 = wr.alloc (Obj.cells #[Value.slice Ap f.params.length cp, Value.slice Ar f.results.length cr, Value.int IntKind.i64 f.cells, Value.slice Af f.flags.length cf, Value.slice Aq f.parts.length cq, Value.slice Ab f.body.length cb] 50) := ⟨_, rfl⟩
      have hb2 : Below wr.heap.size wr w2 := by rw [hw2]; exact (Below.refl _ _).alloc (Nat.le_refl _) _
      have hN2 : w2.heap[wr.heap.size]? = some (Obj.cells #[Value.slice Ap f.params.length cp, Value.slice Ar f.results.length cr, Value.int IntKind.i64 f.cells, Value.slice Af f.flags.length cf, Value.slice Aq f.parts.length cq, Value.slice Ab f.body.length cb] 50 (0, 0)) := by rw [hw2]; exact heap_alloc_at _ _
      have HB2 := Lib.hid (HB.out.trans (hb2.mono hbs))
      have HB2' := Lib.hid (HB'.out.trans (hb2.mono hbs'))
      have HN2 := Lib.hid hN2
      have hbs2 := HB2.out.size
      have hn2l := lt_of_block hN2
      clear hf e2 e3
      go_upto_region 5 with fail
      rw [← hw2]
      clear hw2 hb2 hN2 k0 k1 k2 k3 k4 k5 r1 r2 r3 r4 r5 m0 HB HB' hbs hbs'
      generalize hFB : wr.heap.size = FB at HN2 hn2l ⊢
      have n2 := cellB' HN2.out 2 rfl
      have n5 := cellB' HN2.out 5 rfl
      by_cases hc0 : f.cells < 0
      · have HR := Lib.hid (rightF_no hlt (rightAt_cells HF.out (by omega)))
        go_wp2_with fail
        go_ret
        exact ⟨by rw [HR.out]; rfl, HB2.out⟩
      by_cases hc1 : 1000 < f.cells
      · have HR := Lib.hid (rightF_no hlt (rightAt_cells HF.out (by omega)))
        go_wp2_with fail
        go_ret
        exact ⟨by rw [HR.out]; rfl, HB2.out⟩
      go_wp2_with fail
      refine (calls_any W nf f.body Ab cb k w2 (HW.out.trans (HB2.out.mono hW0)) HFB.out).mono ?_
      rintro e3 w3 ⟨rfl, hb3⟩
      generalize hcl : callsL f.body k = bc
      have HB3 := Lib.hid (HB2.out.trans (hb3.mono hbs2))
      have HB3' := Lib.hid (HB2'.out.trans (hb3.mono HB2'.out.size))
      have HN3 := Lib.hid ((hb3.block _ hn2l).trans HN2.out)
      have HCL := Lib.hid hcl
      have hbs3 := HB3.out.size
      have hn3l := lt_of_block HN3.out
      clear n2 n5 hb3 hcl
      cases bc with
      | false =>
        have HR := Lib.hid (rightF_no hlt (rightAt_calls HF.out HCL.out))
        go_wp2_with fail
        go_ret
        exact ⟨by rw [HR.out]; rfl, HB3.out⟩
      | true =>
        go_wp2_with fail
        go_loopw [5] (fun i w4 => RFRel f w w3 i w4) (fun i _ => f.flags.length - (intOf i).toNat)
        case atStart => exact ⟨0, Nat.zero_le _, rfl, fun x n hx => by omega, HB3.out, Below.refl _ _⟩
        case round =>
          obtain ⟨j, hj, rfl, hfo, hb4, hb4'⟩ := hrel
          have HFO := Lib.hid hfo
          have HB4 := Lib.hid hb4
          have HB4' := Lib.hid hb4'
          have hbs4 := hb4.size
          have HN4 := Lib.hid ((hb4'.block _ hn3l).trans HN3.out)
          have hn4l := lt_of_block HN4.out
          have n2 := cellB' HN4.out 2 rfl
          have n3 := cellB' HN4.out 3 rfl
          have n4 := cellB' HN4.out 4 rfl
          clear hfo hb4 hb4'
          by_cases hlt2 : j < f.flags.length
          · obtain ⟨bf, of, cf', hfe, hbf, hf0, hfI⟩ := intL_cell HFF.out (HW.out.trans (HB4.out.mono hW0)) hlt2
            injection hfe with e1 e2 e3
            subst e1
            have HG := Lib.hid (List.getElem?_eq_getElem hlt2)
            generalize f.flags[j] = x at HG hf0 hfI
            clear e2 e3
            go_upto_region 10 with fail
            by_cases g1 : x < 0
            · have d1 : decide (x < 0) = true := by simpa using g1
              have HR := Lib.hid (rightF_no hlt (rightAt_flag HF.out HG.out (by unfold flagOk; simp; omega)))
              go_quiet (fail)
              go_wp2_with fail
              go_ret
              exact ⟨by rw [HR.out]; rfl, Below.drewN' HB4.out _⟩
            have d1 : decide (x < 0) = false := by simpa using g1
            by_cases g2 : f.cells ≤ x
            · have d2 : decide (f.cells ≤ x) = true := by simpa using g2
              have HR := Lib.hid (rightF_no hlt (rightAt_flag HF.out HG.out (by unfold flagOk; simp; omega)))
              go_quiet (fail)
              go_wp2_with fail
              go_ret
              exact ⟨by rw [HR.out]; rfl, Below.drewN' HB4.out _⟩
            have d2 : decide (f.cells ≤ x) = false := by simpa using g2
            go_quiet (fail)
            go_wp2_with fail
            refine ⟨⟨j + 1, hlt2, by simp, fun y n hy hn => ?_, Below.drewN' HB4.out _, Below.drewN' HB4'.out _⟩, by simp [intOf]; omega⟩
            rcases Nat.lt_or_ge y j with h | h
            · exact HFO.out y n h hn
            · obtain rfl : y = j := by omega
              rw [HG.out] at hn
              simp only [Option.some.injEq] at hn
              rw [← hn]; unfold flagOk; simp; omega
          · obtain rfl : j = f.flags.length := by omega
            go_wp2_with fail
            go_loopw [6] (fun i w5 => RPRel funs f k w wr i w5) (fun i _ => f.parts.length - (intOf i).toNat)
            case atStart => exact ⟨0, Nat.zero_le _, rfl, fun x n hx => by omega, HB4.out, Below.refl _ _⟩
            case round =>
              obtain ⟨i, hi, rfl, hpo, hb5, hb5'⟩ := hrel
              have HPO := Lib.hid hpo
              have HB5 := Lib.hid hb5
              have HB5' := Lib.hid hb5'
              have hbs5 := hb5.size
              have HN5 := Lib.hid ((hb5'.block _ hn4l).trans HN4.out)
              have hn5l := lt_of_block HN5.out
              have HM5 := Lib.hid ((HB3'.out.trans ((HB4'.out.trans (hb5'.mono HB4'.out.size)).mono HB3'.out.size)).block _ hN1l |>.trans HN1.out)
              have hm5l := lt_of_block HM5.out
              clear hpo hb5 hb5' n2 n3 n4
              have n2 := cellB' HN5.out 2 rfl
              have n4 := cellB' HN5.out 4 rfl
              by_cases hlt3 : i < f.parts.length
              · obtain ⟨bp, op, cp', hpe, hbp, hp0, hp1, hpI0, hpI1⟩ := partL_cell HFQ.out (HW.out.trans (HB5.out.mono hW0)) hlt3
                injection hpe with e1 e2 e3
                subst e1
                have hg : f.parts[i]? = some f.parts[i] := List.getElem?_eq_getElem hlt3
                generalize f.parts[i] = p at hg hp0 hp1 hpI0 hpI1
                obtain ⟨pa, pf⟩ := p
                simp only at hp0 hp1 hpI0 hpI1
                have HG := Lib.hid hg
                clear hg e2 e3
                go_upto_region 16 with fail
                obtain ⟨w6, hw6⟩ : ∃ w6, w6 = wr.alloc (Obj.cells #[Value.int IntKind.i64 pa, Value.int IntKind.i64 pf] 56) := ⟨_, rfl⟩
                rw [← hw6]
                have hs6 : wr.heap.size < w6.heap.size := by rw [hw6]; simp
                have hN6 : w6.heap[wr.heap.size]? = some (Obj.cells #[Value.int IntKind.i64 pa, Value.int IntKind.i64 pf] 56 (0, 0)) := by rw [hw6]; exact heap_alloc_at _ _
                have hb6 : Below wr.heap.size wr w6 := by rw [hw6]; exact (Below.refl _ _).alloc (Nat.le_refl _) _
                clear hw6
                have HB6 := Lib.hid (HB5.out.trans (hb6.mono hbs5))
                have HB6' := Lib.hid (HB5'.out.trans (hb6.mono HB5'.out.size))
                have HP6 := Lib.hid hN6
                have HN6 := Lib.hid ((hb6.block _ hn5l).trans HN5.out)
                have HM6 := Lib.hid ((hb6.block _ hm5l).trans HM5.out)
                clear hp0 hp1 hN6 hb6 n4 n2
                have p0 := cellB' HP6.out 0 rfl
                have p1 := cellB' HP6.out 1 rfl
                have n2 := cellB' HN6.out 2 rfl
                have m0 := cellB' HM6.out 0 rfl
                have hbs6 := HB6.out.size
                have hn6l := lt_of_block HN6.out
                have hm6l := lt_of_block HM6.out
                generalize hPB : wr.heap.size = PB at HP6 p0 p1 hs6 hbs5 ⊢
                by_cases g1 : pf < 0
                · have d1 : decide (pf < 0) = true := by simpa using g1
                  have HR := Lib.hid (rightF_no hlt (rightAt_part HF.out HG.out (partOk_no (by simp only; omega))))
                  go_quiet (fail)
                  go_wp2_with fail
                  go_ret
                  exact ⟨by rw [HR.out]; rfl, Below.drewN' HB6.out _⟩
                have d1 : decide (pf < 0) = false := by simpa using g1
                by_cases g2 : (k : Int) ≤ pf
                · have d2 : decide ((k : Int) ≤ pf) = true := by simpa using g2
                  have HR := Lib.hid (rightF_no hlt (rightAt_part HF.out HG.out (partOk_no (by simp only; omega))))
                  go_quiet (fail)
                  go_wp2_with fail
                  go_ret
                  exact ⟨by rw [HR.out]; rfl, Below.drewN' HB6.out _⟩
                have d2 : decide ((k : Int) ≤ pf) = false := by simpa using g2
                by_cases g3 : pa < 0
                · have d3 : decide (pa < 0) = true := by simpa using g3
                  have HR := Lib.hid (rightF_no hlt (rightAt_part HF.out HG.out (partOk_no (by simp only; omega))))
                  go_quiet (fail)
                  go_wp2_with fail
                  go_ret
                  exact ⟨by rw [HR.out]; rfl, Below.drewN' HB6.out _⟩
                have d3 : decide (pa < 0) = false := by simpa using g3
                by_cases g4 : f.cells < pa
                · have d4 : decide (f.cells < pa) = true := by simpa using g4
                  have HR := Lib.hid (rightF_no hlt (rightAt_part HF.out HG.out (partOk_no (by simp only; omega))))
                  go_quiet (fail)
                  go_wp2_with fail
                  go_ret
                  exact ⟨by rw [HR.out]; rfl, Below.drewN' HB6.out _⟩
                have d4 : decide (f.cells < pa) = false := by simpa using g4
                obtain ⟨fk, rfl⟩ := Int.eq_ofNat_of_zero_le (show 0 ≤ pf by omega)
                have hfkl : fk < funs.length := by omega
                obtain ⟨b', o', c'', _, _, _, _, _, _, _, _, _, _, hsl, -, hbW', -, -, kx2, -, -, -, -⟩ := fn_cells HREP.out (HW.out.trans (HB6.out.mono hW0)) hfkl rfl
                injection hsl with e1 e2 e3
                injection e1 with e1
                injection e1 with e1 e4
                subst e1 e4
                clear e2 e3
                have hb6l : b < w6.heap.size := by have := HW.out.size; omega
                generalize hxc : (funs.getD fk default).cells = xc at kx2
                by_cases g5 : f.cells - pa < xc
                · have d5 : decide (f.cells - pa < xc) = true := by simpa using g5
                  have HR := Lib.hid (rightF_no hlt (rightAt_part HF.out HG.out (partOk_no (by simp only [Int.toNat_natCast]; rw [hxc]; omega))))
                  go_quiet (fail)
                  go_wp2_with fail
                  go_ret
                  exact ⟨by rw [HR.out]; rfl, Below.drewN' HB6.out _⟩
                have d5 : decide (f.cells - pa < xc) = false := by simpa using g5
                have HPK := Lib.hid (partOk_yes (funs := funs) (c := f.cells) (k := (k : Int)) (p := ⟨pa, fk⟩) ⟨by simp only; omega, by simp only; omega, by simp only; omega, by simp only; omega, by simp only [Int.toNat_natCast]; rw [hxc]; omega⟩)
                go_quiet (fail)
                go_wp2_with fail
                refine ⟨⟨i + 1, hlt3, by simp, fun y q hy hq => ?_, Below.drewN' HB6.out _, Below.drewN' HB6'.out _⟩, by simp [intOf]; omega⟩
                rcases Nat.lt_or_ge y i with h | h
                · exact HPO.out y q h hq
                · obtain rfl : y = i := by omega
                  rw [HG.out] at hq
                  simp only [Option.some.injEq] at hq
                  rw [← hq]; exact HPK.out
              · obtain rfl : i = f.parts.length := by omega
                have HR := Lib.hid (rightAt_yes HF.out (by omega) (by omega) HCL.out (List.all_eq_true.2 fun x hx => by
                  obtain ⟨j, hj⟩ := List.getElem?_of_mem hx
                  exact HFO.out j x (List.getElem?_eq_some_iff.1 hj).1 hj) (List.all_eq_true.2 fun p hp => by
                  obtain ⟨j, hj⟩ := List.getElem?_of_mem hp
                  exact HPO.out j p (List.getElem?_eq_some_iff.1 hj).1 hj))
                go_wp2_with fail
                refine ⟨⟨k + 1, hlt, by simp, fun j hj => ?_, HB5.out, HB3'.out.trans ((HB4'.out.trans (HB5'.out.mono HB4'.out.size)).mono HB3'.out.size)⟩, by simp [intOf]; omega⟩
                rcases Nat.lt_or_ge j k with h | h
                · exact HOK.out j h
                · obtain rfl : j = k := by omega
                  exact HR.out
    · obtain rfl : k = funs.length := by omega
      have HR := Lib.hid (show rightF funs = decide (0 < funs.length) by
        unfold rightF
        rw [List.all_eq_true.2 (fun j hj => HOK.out j (by simpa using hj)), Bool.true_and])
      have d0 : decide ((0 : Int) < (funs.length : Int)) = decide (0 < funs.length) := by simp
      go_wp2_with fail
      go_ret
      refine ⟨?_, HB.out⟩
      rw [HR.out, ← d0]; rfl
end Go.Proofs.YtoaajpppbjaomaaGreatDoor
/- The reference's work: how much statements do: some number. -/
namespace Go.Proofs.YtoaajpppbjaomaaGreatDoor
open Go.RowKit
def Big (ws : List Int) : Prop := ∀ x, x ∈ ws → 0 ≤ x ∧ x ≤ 2147483648
def SomeInt (w : World) (e : Ending) (w' : World) : Prop := ∃ x : Int, 0 ≤ x ∧ x ≤ 1073741824 ∧ e = .returned (.int .i64 x) ∧ Below w.heap.size w w'
def WorkC (W : World) (n : Nat) : Prop := ∀ (l : List FS) (A : Option Addr) (c : Nat) (k : Int) (w : World) (vd vh : Value) (ds hs : List Int), Below W.heap.size W w → RepV (RepS W n) 12 W (.slice A l.length c) l → callsL l k = true → k ≤ ds.length → k ≤ hs.length →
  Ints w vd ds → Ints w vh hs → Big ds → Big hs → ds.length ≤ 1048576 → hs.length ≤ 1048576 → Calls Tryz.prog 21 #[.slice A l.length c, vd, vh] w (SomeInt w)
def WkRel (l : List FS) (w : World) (n i : Value) (wr : World) : Prop :=
  ∃ (j : Nat) (m : Int), j ≤ l.length ∧ i = .int .i64 j ∧ n = .int .i64 m ∧ 0 ≤ m ∧ m ≤ 1073741824 ∧ Below w.heap.size w wr
def WkARel (l : List FA) (w : World) (n i : Value) (wr : World) : Prop :=
  ∃ (j : Nat) (m : Int), j ≤ l.length ∧ i = .int .i64 j ∧ n = .int .i64 m ∧ 0 ≤ m ∧ m ≤ 8589934592 + 1073741824 * (j : Int) ∧ Below w.heap.size w wr
set_option maxRecDepth 100000 in
set_option maxHeartbeats 1000000 in
theorem work_core {W : World} {n : Nat} (l : List FS) (A : Option Addr) (c : Nat) (k : Int) (w : World) (vd vh : Value) (ds hs : List Int) (hW : Below W.heap.size W w) (hrep : RepV (RepS W (n + 1)) 12 W (.slice A l.length c) l) (hcal : callsL l k = true) (hkd : k ≤ ds.length) (hkh : k ≤ hs.length)
    (hid : Ints w vd ds) (hih : Ints w vh hs) (hbd : Big ds) (hbh : Big hs) (hdl : ds.length ≤ 1048576) (hhl : hs.length ≤ 1048576) (IH : l ≠ [] → WorkC W n) :
    Calls Tryz.prog 21 #[.slice A l.length c, vd, vh] w (SomeInt w) := by
  have hll := hrep.1
  have HREP := Lib.hid hrep
  have HID := Lib.hid hid
  have HIHh := Lib.hid hih
  have HIH := Lib.hid IH
  have HCAL := Lib.hid hcal
  have HBD := Lib.hid hbd
  have HBH := Lib.hid hbh
  have hW0 := hW.size
  have HW := Lib.hid hW
  obtain ⟨Ad, cd, rfl, -⟩ := hid
  obtain ⟨Ah, ch, rfl, -⟩ := hih
  clear hrep IH hcal hbd hbh hW
  go_enter Tryz.func21, Tryz.ntmps21
  go_wp2_with fail
  go_loopw [7, 8] (fun n i wr => WkRel l w n i wr) (fun _ i _ => l.length - (intOf i).toNat)
  case atStart => exact ⟨0, 0, Nat.zero_le _, rfl, rfl, by omega, by omega, Below.refl _ _⟩
  case round =>
    obtain ⟨j, m, hj, rfl, rfl, hm0, hm1, hb⟩ := hrel
    have HB := Lib.hid hb
    have hbs := hb.size
    clear hb
    by_cases hlt : j < l.length
    · obtain ⟨b, o, c', op, name, at_, fn, names, e, args, arms, aN, cN, eo, en, ev, aC, lC, cC, aK, lK, cK, aA, cA, aR, cR, he, hbW, hs', q0, q1, q2, q3, q4, q5, q6, q7, q8, q9, q10, q11, i1, i2, i3, p1, p2, p3, p4⟩ := stmt_cells HREP.out (HW.out.trans (HB.out.mono hW0)) hlt
      injection he with he1 he2 he3
      subst he1
      have har := p4.1
      have HG := Lib.hid (show l[j]? = some (.mk op name at_ fn names e args arms) by rw [List.getElem?_eq_getElem hlt, hs'])
      have hcs := callsL_at HCAL.out HG.out
      simp only [callsS, Bool.and_eq_true] at hcs
      have HCA := Lib.hid hcs.2
      have HAR := Lib.hid p4
      have hne : l ≠ [] := (by intro h; rw [h] at hlt; simp at hlt)
      have HIHn := Lib.hid (HIH.out hne)
      have hcs1 := hcs.1
      have hbl : b < wr.heap.size := by omega
      clear p1 p2 p3 p4 hs' he2 he3 hne hcs
      have hbB : Below W.heap.size W wr := HW.out.trans (HB.out.mono hW0)
      have Q11 : W.cell? ⟨b, o + j * 12 + 11, none⟩ = some (.slice aR arms.length cR) := (hbB.cell (p := ⟨b, o + j * 12 + 11, none⟩) hbW).symm.trans q11
      clear hbB
      go_upto_if 23 with fail
      go_cut [7] from 16 to 49 (fun v wx => ∃ m1 : Int, v = .int .i64 m1 ∧ 0 ≤ m1 ∧ m1 ≤ 4294967296 ∧ wx = wr)
      case first =>
        by_cases h3 : op = 3
        · have hf : 0 ≤ fn ∧ fn < k := by
            simp only [h3] at hcs1
            simp at hcs1
            omega
          obtain ⟨fk, rfl⟩ := Int.eq_ofNat_of_zero_le hf.1
          have hfl : fk < ds.length := by omega
          obtain ⟨bt, ot, ct', het, hbt, hct⟩ := int_cell (HID.out.kept (S := []) (Keep.of_below HB.out) (fun x hx => by cases hx)) hfl
          injection het with e1 e2 e3
          subst e1
          have hx := HBD.out ds[fk] (List.getElem_mem _)
          generalize hxv : ds[fk] = xv at hct hx
          subst h3
          clear hxv e2 e3 hcs1
          go_wp2_with fail
          go_meet
          case rel => exact ⟨_, rfl, by omega, by omega, rfl⟩
        · have e3 : (op == 3) = false := by simp [h3]
          go_wp2_with fail
          go_meet
          case rel => exact ⟨_, rfl, by omega, by omega, rfl⟩
      case rest =>
        obtain ⟨m0, rfl, hm0', hm1', rfl⟩ := hcut
        go_upto_if 39 with fail
        go_cut [7] from 16 to 49 (fun v wx => ∃ m1 : Int, v = .int .i64 m1 ∧ 0 ≤ m1 ∧ m1 ≤ 8589934592 ∧ wx = wc)
        case first =>
          by_cases h4 : op = 4
          · have hf : 0 ≤ fn ∧ fn < k := by
              simp only [h4] at hcs1
              simp at hcs1
              omega
            obtain ⟨fk, rfl⟩ := Int.eq_ofNat_of_zero_le hf.1
            have hfl : fk < hs.length := by omega
            obtain ⟨bt, ot, ct', het, hbt, hct⟩ := int_cell (HIHh.out.kept (S := []) (Keep.of_below HB.out) (fun x hx => by cases hx)) hfl
            injection het with e1 e2 e3
            subst e1
            have hx := HBH.out hs[fk] (List.getElem_mem _)
            generalize hxv : hs[fk] = xv at hct hx
            subst h4
            clear hxv e2 e3 hcs1
            go_wp2_with fail
            go_meet
            case rel => exact ⟨_, rfl, by omega, by omega, rfl⟩
          · have e4 : (op == 4) = false := by simp [h4]
            go_wp2_with fail
            go_meet
            case rel => exact ⟨_, rfl, by omega, by omega, rfl⟩
        case rest =>
          obtain ⟨m1, rfl, hm2, hm3, rfl⟩ := hcut
          clear hcs1 q0 q1 q2 q3 q4 q5 q6 q7 q8 q9 q10 q11
          go_wp2_with fail
          go_loopw [7, 9] (fun n i w2 => WkARel arms w n i w2) (fun _ i _ => arms.length - (intOf i).toNat)
          case atStart => exact ⟨0, m1, Nat.zero_le _, rfl, rfl, by omega, by omega, HB.out⟩
          case round =>
            obtain ⟨i, m2, hi, rfl, rfl, hm4, hm5, hb2⟩ := hrel
            have hbB : Below W.heap.size W wr := HW.out.trans (hb2.mono hW0)
            have q11 : wr.cell? ⟨b, o + j * 12 + 11, none⟩ = some (.slice aR arms.length cR) := (hbB.cell (p := ⟨b, o + j * 12 + 11, none⟩) hbW).trans Q11
            have HB2 := Lib.hid hb2
            have hbs2 := hb2.size
            clear hb2 hbB
            by_cases hlt2 : i < arms.length
            · obtain ⟨ba, oa, ca, Ab, cb, hae, hab, ha0, ha1, hbody⟩ := arm_cells HAR.out (HW.out.trans (HB2.out.mono hW0)) hlt2
              injection hae with e1 e2 e3
              subst e1
              have hAg : arms[i]? = some arms[i] := List.getElem?_eq_getElem hlt2
              have hcl := callsAs_at HCA.out hAg
              have HBO := Lib.hid hbody
              generalize arms[i] = a at *
              have HCL := Lib.hid hcl
              clear hcl hAg hbody e2 e3
              go_wp2_with fail
              refine (HIHn.out a.body Ab cb k _ _ _ ds hs (HW.out.trans (HB2.out.mono hW0)) HBO.out HCL.out hkd hkh (HID.out.kept (S := []) (Keep.of_below HB2.out) (fun x hx => by cases hx)) (HIHh.out.kept (S := []) (Keep.of_below HB2.out) (fun x hx => by cases hx)) HBD.out HBH.out hdl hhl).mono ?_
              rintro e4 w4 ⟨x, hx0, hx1, rfl, hb4⟩
              have HB4 := Lib.hid (HB2.out.trans (hb4.mono hbs2))
              clear hb4
              go_wp2_with fail
              exact ⟨⟨i + 1, m2 + x, hlt2, by simp, rfl, by omega, by omega, HB4.out⟩, by simp [intOf]; omega⟩
            · obtain rfl : i = arms.length := by omega
              go_wp2_with fail
              exact ⟨⟨j + 1, (if 1073741824 < m2 then 1073741824 else m2), hlt, by simp, rfl, by split <;> omega, by split <;> omega, HB2.out⟩, by simp [intOf]; omega⟩
    · obtain rfl : j = l.length := by omega
      go_wp2_with fail
      go_ret
      exact ⟨m, hm0, hm1, rfl, HB.out⟩
theorem work_any (W : World) : ∀ n, WorkC W n := by
  intro n
  induction n with
  | zero =>
    intro l A c k w vd vh ds hs hW hrep hcal hkd hkh hid hih hbd hbh hdl hhl
    obtain ⟨hl, hr⟩ := repS_nil (n := 1) hrep
    exact work_core l A c k w vd vh ds hs hW hr hcal hkd hkh hid hih hbd hbh hdl hhl (fun h => absurd hl h)
  | succ n ih => exact fun l A c k w vd vh ds hs hW hrep hcal hkd hkh hid hih hbd hbh hdl hhl => work_core l A c k w vd vh ds hs hW hrep hcal hkd hkh hid hih hbd hbh hdl hhl (fun _ => ih)
end Go.Proofs.YtoaajpppbjaomaaGreatDoor
/- append of one number to a slice that the call owns: the slice's block stays, or it is a new one. -/
namespace Go.Proofs.YtoaajpppbjaomaaGreatDoor
open Go.RowKit
theorem append_int {ops : Array Oper} {rest : List Oper} {o : Oper} {a : Act} {w : World} {Q : Exit → Act → World → Prop} (hgd : o.guard = none) (s x : Operand)
    (ho : o.op = .call { callee := .builtin .append, args := #[s, x], argTypes := #[46, 46] })
    (base : Nat) (v : Value) (n : Nat) (xs : List Value) (hs : a.eval s = v) (hown : w.ownsRow base 3 1 v n xs)
    (ad : Addr) (val : Int) (hx : a.eval x = .slice (some ad) 1 1) (hnew : w.cell? (ad.add 0) = some (.int .i64 val)) (hn : n ≤ 1048576) (hbase : base ≤ w.heap.size)
    (h : ∀ v' w', w'.ownsRow base 3 1 v' (n + 1) (xs ++ [.int .i64 val]) → w.grownBy w' v.ownBlock → (∀ k, v'.ownBlock = some k → v.ownBlock = some k ∨ w.heap.size ≤ k) → wpList Tryz.prog ops Q rest (a.put o.dst v') w') : wpList Tryz.prog ops Q (o :: rest) a w := by
  have hinfo : (Tryz.prog.info? 3).map (fun i => (i.zero, i.size, i.bytes)) = some (some (.int .i64 0), 1, 8) := by kernel_rfl
  obtain ⟨i, hi, hzz⟩ := Option.map_eq_some_iff.1 hinfo
  simp only [Prod.mk.injEq] at hzz
  obtain ⟨hz, hsz, hb⟩ := hzz
  have hnews : ∀ j u, [Value.int .i64 val][j]? = some u → w.cell? (ad.add j) = some u := fun j u hj => by
    match j, hj with
    | 0, hj => simp at hj; rw [← hj]; exact hnew
  have h1 : ∀ u ∈ [Value.int .i64 val], u.oneCell' = true := fun u hu => by simp at hu; subst hu; rfl
  refine wpList_plain hgd fun K hK => ?_
  obtain ⟨v', w', hr, h2, h3, _⟩ := run_append_own (P := Tryz.prog) w base 46 o.type 3 i (.int .i64 0) 1 8 Tryz.underlying46 hi hz hsz hb rfl (by omega) v n xs hown ad 1 1 [.int .i64 val] rfl hnews h1 (by unfold maxLen; omega) (by omega) hbase
  have h4 : ∀ k, v'.ownBlock = some k → v.ownBlock = some k ∨ w.heap.size ≤ k := by
    rcases hown.2 with ⟨rfl, rfl⟩ | ⟨g, cap, cur, rfl, hbg, hg, hnc, hcm, hcs, htake⟩
    · have hr' := run_append_nil (P := Tryz.prog) w 46 o.type 3 i (.int .i64 0) Tryz.underlying46 hi hz ad 1 1 [.int .i64 val] (by rw [hsz]; rfl) hnews (by omega) (by omega) (by rw [hb]; omega)
      have e := hr.symm.trans hr'
      injection e with e1 e2
      subst e1
      intro k hk
      simp only [Value.ownBlock, Option.some.injEq] at hk
      exact .inr (by omega)
    · by_cases hroom : n + 1 ≤ cap
      · have hr' := run_append_room (P := Tryz.prog) w 46 o.type 3 i Tryz.underlying46 hi g n cap cur hg ad 1 1 [.int .i64 val] (by rw [hsz]; rfl) hnews h1 hroom (by rw [hsz, hcs]; simp; omega)
        have e := hr.symm.trans hr'
        injection e with e1 e2
        subst e1
        intro k hk
        exact .inl hk
      · have holds : ∀ j u, xs[j]? = some u → w.cell? ((⟨g, 0, none⟩ : Addr).add j) = some u := hown.cells (g := g) rfl
        have hr' := run_append_grow (P := Tryz.prog) w 46 o.type 3 i (.int .i64 0) Tryz.underlying46 hi hz ⟨g, 0, none⟩ n cap xs (by rw [hsz]; exact hown.1) holds ad 1 1 [.int .i64 val] (by rw [hsz]; rfl) hnews (by omega) (by omega) (growslice_fits (by omega) (by rw [hb]; omega))
        have e := hr.symm.trans hr'
        injection e with e1 e2
        subst e1
        intro k hk
        simp only [Value.ownBlock, Option.some.injEq] at hk
        exact .inr (by omega)
  unfold Oper.wp execOp
  simp only [ho, resolve, invoke, builtin, Sem.run_bind, Sem.run_pure, Result.andThen_ok, List.map_toArray, List.map_cons, List.map_nil, hs, hx, hr]
  exact hK _ _ (h v' w' h2 h3 h4)
end Go.Proofs.YtoaajpppbjaomaaGreatDoor
/- The runner: last, Count, Cells, Defined, Begin. -/
namespace Go.Proofs.YtoaajpppbjaomaaGreatDoor
open Go.RowKit
section
variable {W w : World} {R M : Nat} {fv : Value} {mem : Mem} {tr : Bool} {cnt : Int} (h : MemSt W w R M fv mem tr cnt)
include h
theorem MemSt.c0 : w.cell? ⟨R, 0, none⟩ = some fv := cellB' h.hR 0 rfl
theorem MemSt.c1 : w.cell? ⟨R, 1, none⟩ = some (.slice (some ⟨M, 0, none⟩) mem.length mem.length) := cellB' h.hR 1 rfl
theorem MemSt.c2 : w.cell? ⟨R, 2, none⟩ = some (.bool tr) := cellB' h.hR 2 rfl
theorem MemSt.c3 : w.cell? ⟨R, 3, none⟩ = some (.int .i64 cnt) := cellB' h.hR 3 rfl
theorem MemSt.m {i : Nat} {o : Option Int} (hi : mem[i]? = some o) : w.cell? ⟨M, i * 2, none⟩ = some (.int .i64 (o.getD 0)) ∧ w.cell? ⟨M, i * 2 + 1, none⟩ = some (.bool o.isSome) := by
  have hm := memL_get mem i o hi
  rw [cellB h.hM, cellB h.hM]
  simpa [memC] using hm
theorem last_any {n : Nat} {A : Option Addr} {c : Nat} (hf : fv = .slice A n c) (h0 : 0 < n) (hn : n ≤ 1048576) :
    Calls Tryz.prog 27 #[.pointer (some ⟨R, 0, none⟩)] w (Ret (.int .i64 ((n - 1 : Nat) : Int)) w) := by
  have c0 := h.c0
  have hRl := lt_of_block h.hR
  subst hf
  clear h
  have e1 : (n : Int) - 1 = ((n - 1 : Nat) : Int) := by omega
  go_enter Tryz.func27, Tryz.ntmps27
  go_wp2_with fail
  go_ret
  exact ⟨by rw [← e1]; rfl, rfl⟩
theorem count_any : Calls Tryz.prog 15 #[.pointer (some ⟨R, 0, none⟩)] w (Ret (.int .i64 cnt) w) := by
  have c3 := h.c3
  clear h
  go_enter Tryz.func15, Tryz.ntmps15
  go_wp2_with fail
  go_ret
  exact ⟨rfl, rfl⟩
theorem cells_any : Calls Tryz.prog 18 #[.pointer (some ⟨R, 0, none⟩)] w (Ret (.int .i64 mem.length) w) := by
  have c1 := h.c1
  have hl := h.mlen
  clear h
  go_enter Tryz.func18, Tryz.ntmps18
  go_wp2_with fail
  go_ret
  exact ⟨rfl, rfl⟩
end
theorem definedF_take (mem : Mem) {j : Nat} {o : Option Int} (h : mem[j]? = some o) : definedF (mem.take (j + 1)) = definedF (mem.take j) + (if o.isSome then 1 else 0) := by
  unfold definedF
  rw [take_snoc' h, List.countP_append]
  simp [List.countP_cons]
theorem definedF_le (mem : Mem) (j : Nat) : definedF (mem.take j) ≤ mem.length := by
  unfold definedF
  exact Nat.le_trans List.countP_le_length (by simp; omega)
def DefRel (mem : Mem) (w : World) (n i : Value) (wr : World) : Prop := ∃ j, j ≤ mem.length ∧ i = .int .i64 (j : Nat) ∧ n = .int .i64 (definedF (mem.take j) : Nat) ∧ Below w.heap.size w wr
set_option maxHeartbeats 400000 in
theorem defined_any {W w : World} {R M : Nat} {fv : Value} {mem : Mem} {tr : Bool} {cnt : Int} (h : MemSt W w R M fv mem tr cnt) : Calls Tryz.prog 16 #[.pointer (some ⟨R, 0, none⟩)] w (RetB (.int .i64 (definedF mem : Nat)) w) := by
  have c1 := h.c1
  have hl := h.mlen
  have HH := Lib.hid h
  have hRl := lt_of_block h.hR
  have hMl := lt_of_block h.hM
  clear h
  go_enter Tryz.func16, Tryz.ntmps16
  go_wp2_with fail
  go_loopw [3, 13] (fun n i wr => DefRel mem w n i wr) (fun _ i _ => mem.length - (intOf i).toNat)
  case atStart => exact ⟨0, Nat.zero_le _, rfl, rfl, Below.refl _ _⟩
  case round =>
    obtain ⟨j, hj, rfl, rfl, hb⟩ := hrel
    by_cases hlt : j < mem.length
    · have hg : mem[j]? = some mem[j] := List.getElem?_eq_getElem hlt
      have hc0 := (hb.cell (p := ⟨M, j * 2, none⟩) hMl).trans (HH.out.m hg).1
      have hc1 := (hb.cell (p := ⟨M, j * 2 + 1, none⟩) hMl).trans (HH.out.m hg).2
      have hd := definedF_take mem hg
      have hle := definedF_le mem (j + 1)
      generalize mem[j] = o at hg hc0 hc1 hd
      have HB := Lib.hid hb
      have HD := Lib.hid hd
      have hbs := hb.size
      clear hb hg
      cases o with
      | none =>
        simp only [Option.getD_none, Option.isSome_none] at hc0 hc1 hd
        clear hd
        go_wp2_with fail
        exact ⟨⟨j + 1, hlt, by simp, by rw [HD.out]; simp, HB.out.alloc hbs _⟩, by simp [intOf]; omega⟩
      | some x =>
        simp only [Option.getD_some, Option.isSome_some] at hc0 hc1 hd
        have hd' : (definedF (mem.take j) : Int) + 1 = (definedF (mem.take (j + 1)) : Nat) := by rw [hd]; simp
        clear hd
        go_wp2_with fail
        exact ⟨⟨j + 1, hlt, by simp, by rw [← hd'], HB.out.alloc hbs _⟩, by simp [intOf]; omega⟩
    · obtain rfl : j = mem.length := by omega
      have HB := Lib.hid hb
      clear hb
      go_wp2_with fail
      go_ret
      rw [List.take_length]
      exact ⟨rfl, HB.out⟩
structure BeginP (W : World) (R M : Nat) (fv : Value) (mem : Mem) (w : World) (e : Ending) (w' : World) : Prop where
  ret : e = .returned (.tuple #[])
  keep : Keep [R, M] w w'
  st : MemSt W w' R M fv mem false 0
theorem MemSt.put2 {W w : World} {R M : Nat} {fv : Value} {mem : Mem} {tr : Bool} {cnt : Int} (h : MemSt W w R M fv mem tr cnt) (b : Bool) :
    MemSt W (w.setCell ⟨R, 2, none⟩ (.bool b)) R M fv mem b cnt ∧ Keep [R, M] w (w.setCell ⟨R, 2, none⟩ (.bool b)) := by
  have hk : Keep [R, M] w (w.setCell ⟨R, 2, none⟩ (.bool b)) := (Keep.refl _ _).setCell (.inl (by simp)) _
  exact ⟨{ h with
    below := hk.below h.below h.below.size (fun x hx => by
      simp only [List.mem_cons, List.mem_nil_iff, or_false] at hx
      rcases hx with rfl | rfl
      · exact h.geR
      · exact h.geM)
    hR := by rw [heap_setCell_eq h.hR]; rfl
    hM := (heap_setCell_ne 2 _ (Ne.symm h.RM)).trans h.hM }, hk⟩
theorem MemSt.put3 {W w : World} {R M : Nat} {fv : Value} {mem : Mem} {tr : Bool} {cnt : Int} (h : MemSt W w R M fv mem tr cnt) (c : Int) :
    MemSt W (w.setCell ⟨R, 3, none⟩ (.int .i64 c)) R M fv mem tr c ∧ Keep [R, M] w (w.setCell ⟨R, 3, none⟩ (.int .i64 c)) := by
  have hk : Keep [R, M] w (w.setCell ⟨R, 3, none⟩ (.int .i64 c)) := (Keep.refl _ _).setCell (.inl (by simp)) _
  exact ⟨{ h with
    below := hk.below h.below h.below.size (fun x hx => by
      simp only [List.mem_cons, List.mem_nil_iff, or_false] at hx
      rcases hx with rfl | rfl
      · exact h.geR
      · exact h.geM)
    hR := by rw [heap_setCell_eq h.hR]; rfl
    hM := (heap_setCell_ne 3 _ (Ne.symm h.RM)).trans h.hM }, hk⟩
set_option maxHeartbeats 400000 in
theorem begin_any {W w : World} {R M : Nat} {fv : Value} {mem : Mem} {tr : Bool} {cnt : Int} {funs : List FN} {nf : Nat} (hrep : RepV (RepF W nf) 6 W fv funs) (hr : RightP funs) (h0 : 0 < funs.length)
    (h : MemSt W w R M fv mem tr cnt) (hl : (funs.getD (lastF funs) default).cells.toNat ≤ mem.length) :
    Calls Tryz.prog 10 #[.pointer (some ⟨R, 0, none⟩)] w (BeginP W R M fv (anewF funs funs.length (lastF funs) 0 mem) w) := by
  obtain ⟨A, c, rfl, hc1, hc2, hfl⟩ := hrep.sl
  have HH := Lib.hid h
  have hlast : lastF funs < funs.length := by unfold lastF; omega
  clear h
  go_enter Tryz.func10, Tryz.ntmps10
  go_wp2_with fail
  refine (last_any HH.out rfl h0 hfl).mono ?_
  rintro e w1 ⟨rfl, rfl⟩
  go_wp2_with fail
  refine (anew_any hrep hr funs.length (lastF funs) 0 mem w1 hlast hlast (by omega) HH.out).mono ?_
  rintro e w2 ⟨rfl, hM2, hk2⟩
  have h2 := HH.out.on hk2 hM2 (anewF_length funs hr _ _ _ _ hlast (by omega))
  have H2 := Lib.hid h2
  have HK := Lib.hid (hk2.mono (S' := [R, M]) (by simp))
  have g2 := frozB h2.hR 2
  have hRl := lt_of_block h2.hR
  have c2 := h2.c2
  have c3 := h2.c3
  have g3 := frozB h2.hR 3
  clear h2 hM2 hk2
  go_wp2_with fail
  go_end0
  obtain ⟨p1, k1⟩ := H2.out.put2 false
  obtain ⟨p2, k2⟩ := p1.put3 0
  exact ⟨rfl, HK.out.trans (k1.trans k2), p2⟩
end Go.Proofs.YtoaajpppbjaomaaGreatDoor
