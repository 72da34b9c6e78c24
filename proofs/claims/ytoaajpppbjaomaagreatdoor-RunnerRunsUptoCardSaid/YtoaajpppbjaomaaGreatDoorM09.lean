/- Texts merged by program: parts Ln, Lo, Lp, Lq, Lr, Bd. -/
import Derived.Test.YtoaajpppbjaomaaGreatDoorM08
import Derived.RangeFuncBox
import Derived.RangeFuncLeaves
import Derived.Shelf.Abstract
import Derived.WalkKit
import Derived.OwnWalkIn
import Derived.TacticsInMore
import Derived.LoopNIn
import Derived.LoopIn
import Derived.Maps.AppendAt
import Derived.Stop.LaidErr
/- The words of a text: strings.FieldsFuncSeq, reread.Words. -/
namespace Go.Proofs.YtoaajpppbjaomaaGreatDoor
open Go.RowKit
attribute [local go_sem] Oper.semAt_some
def blankB (c : UInt8) : Bool := c == 32 || c == 9 || c == 10 || c == 13
theorem blank_any (c : UInt8) (w : World) : Calls Tryz.prog 46 #[.int .i32 c.toNat] w (Ret (.bool (blankB c)) w) := by
  have e : ∀ n : Nat, n < 256 → ((((c.toNat : Nat) : Int) == (n : Int)) = (c == UInt8.ofNat n)) := by
    intro n hn
    rw [Bool.eq_iff_iff]
    simp only [beq_iff_eq]
    constructor
    · intro h
      apply UInt8.toNat_inj.1
      have : c.toNat = n := by omega
      rw [this]
      simp; omega
    · rintro rfl
      simp; omega
  have e1 : ((((c.toNat : Nat) : Int) == (32 : Int)) = (c == UInt8.ofNat 32)) := e 32 (by omega)
  have e2 : ((((c.toNat : Nat) : Int) == (9 : Int)) = (c == UInt8.ofNat 9)) := e 9 (by omega)
  have e3 : ((((c.toNat : Nat) : Int) == (10 : Int)) = (c == UInt8.ofNat 10)) := e 10 (by omega)
  have e4 : ((((c.toNat : Nat) : Int) == (13 : Int)) = (c == UInt8.ofNat 13)) := e 13 (by omega)
  have hb : blankB c = ((c == UInt8.ofNat 32) || (c == UInt8.ofNat 9) || (c == UInt8.ofNat 10) || (c == UInt8.ofNat 13)) := rfl
  rw [hb]
  clear e hb
  generalize (c == UInt8.ofNat 32) = b1 at *
  generalize (c == UInt8.ofNat 9) = b2 at *
  generalize (c == UInt8.ofNat 10) = b3 at *
  generalize (c == UInt8.ofNat 13) = b4 at *
  cases b1 <;> cases b2 <;> cases b3 <;> cases b4 <;>
  · go_enter Tryz.func46, Tryz.ntmps46
    go_wp2_with fail
    go_ret
    exact ⟨rfl, rfl⟩
/-- what is still to come: at byte i, a word begun at st (-1: none) -/
def fwGo (t : ByteArray) : List UInt8 → Nat → Int → List ByteArray
  | [], i, st => if 0 ≤ st then [t.extract st.toNat i] else []
  | c :: cs, i, st =>
    if blankB c = true then (if 0 ≤ st then t.extract st.toNat i :: fwGo t cs (i + 1) (-1) else fwGo t cs (i + 1) (-1))
    else fwGo t cs (i + 1) (if st < 0 then i else st)
def KpW (n₁ B : Nat) (W W' : World) : Prop := ∀ k, k < n₁ → k ≠ B → W'.heap[k]? = W.heap[k]?
set_option maxRecDepth 100000 in
set_option maxHeartbeats 2000000 in
theorem fields_stops (n : Nat) (hn : 3 ≤ n) (t : ByteArray) (hsz : t.size ≤ 1048576) (hasc : ∀ c, c ∈ t.data.toList → c.toNat < 128) (n₁ Bl Bs Bf : Nat) (hs : Bs < n₁) (hf : Bf < n₁) (hs' : Bs ≠ Bl) (hf' : Bf ≠ Bl)
    (l : Nat) (J Jx : List ByteArray → World → Prop)
    (hY : ∀ pre x W, J pre W → pre.length < (fwGo t t.data.toList 0 (-1)).length → YieldAt Fence.wide (n - 1) Tryz.prog l #[.string x] W fun e W' =>
      (e = .returned (.bool true) ∧ J (pre ++ [x]) W' ∧ KpW n₁ Bl W W') ∨ (e = .returned (.bool false) ∧ Jx (pre ++ [x]) W'))
    (W : World) (hBs : W.heap[Bs]? = some (.cells #[.string t] 9 (0, 0))) (hBf : W.heap[Bf]? = some (.cells #[.func (.func 46) #[] #[]] 110 (0, 0))) (h0 : J [] W) :
    CallsIn Fence.wide n Tryz.prog 71 #[.func (.yield l) #[] #[], .pointer (some ⟨Bs, 0, none⟩), .pointer (some ⟨Bf, 0, none⟩)] W fun e W' => (∃ v, e = .returned v) ∧
      ((∃ ys, ys = fwGo t t.data.toList 0 (-1) ∧ J ys W') ∨ (∃ pre, True ∧ Jx pre W')) := by
  refine callsIn_of_wp Tryz.func71 rfl trivial ?_ rfl
  simp only [Tryz.ntmps71, List.size_toArray, List.length_cons, List.length_nil, Nat.reduceAdd, Nat.reduceSub, Array.replicate_succ, Array.replicate_zero, List.push_toArray, List.append_toArray, List.nil_append, List.cons_append]
  gi_wp2
  gi_loopw [4, 5] (fun st i wr => ∃ (k : Nat) (s : Int) (pre rest : List ByteArray), k ≤ t.size ∧ st = .int .i64 s ∧ i = .int .i64 k ∧ -1 ≤ s ∧ s ≤ k ∧ fwGo t t.data.toList 0 (-1) = pre ++ fwGo t (t.data.toList.drop k) k s ∧ J pre wr ∧ (∀ x, x = Bs ∨ x = Bf → wr.heap[x]? = W.heap[x]?))
    (fun _ i _ => t.size - (intOf i).toNat)
  case atStart => exact ⟨0, -1, [], [], by omega, rfl, rfl, by omega, by omega, rfl, h0, fun _ _ => rfl⟩
  case round =>
    obtain ⟨k, s, pre, rest, hk, rfl, rfl, hs1, hs2, heq, hJ, hkp⟩ := hrel
    have b1 := cellB' ((hkp Bs (.inl rfl)).trans hBs) 0 rfl
    have b2 := cellB' ((hkp Bf (.inr rfl)).trans hBf) 0 rfl
    have HKP := Lib.hid hkp
    have HEQ := Lib.hid heq
    have HY := Lib.hid hY
    have HBS := Lib.hid hBs
    have HBF := Lib.hid hBf
    clear hkp heq hY hBs hBf
    rcases Nat.lt_or_ge k t.size with hlt | hge
    · obtain ⟨c, hc⟩ : ∃ c, t.data.toList[k]? = some c := ⟨t.data.toList[k]'(by simpa using hlt), List.getElem?_eq_getElem _⟩
      have hc0 : (t.extract k t.size).data.toList[0]? = some c := by
        rw [ByteArray.data_extract, Array.toList_extract, List.extract_eq_take_drop, List.getElem?_take_of_lt (by omega), List.getElem?_drop]; simpa using hc
      have hca := hasc c (List.mem_of_getElem? hc)
      have HD := Lib.hid (show t.data.toList.drop k = c :: t.data.toList.drop (k + 1) from by
        obtain ⟨hl, hg⟩ := List.getElem?_eq_some_iff.1 hc
        rw [List.drop_eq_getElem_cons hl, hg])
      have hdec := Tryz.utf8_DecodeRuneInString_ascii (t.extract k t.size) c wr hc0 hca
      clear hc hc0
      gi_wp2
      refine ⟨trivial, fun _ => by omega, ?_⟩
      refine (callsIn_wide.2 hdec).mono ?_
      clear hdec
      rintro e w1 ⟨rfl, rfl⟩
      gi_wp2
      refine ⟨trivial, fun _ => by omega, ?_⟩
      refine (callsIn_wide.2 (blank_any c w1)).mono ?_
      rintro e w1 ⟨rfl, rfl⟩
      cases hb : blankB c with
      | true =>
        rcases (by omega : s = -1 ∨ 0 ≤ s) with rfl | hs0
        · gi_wp2
          exact ⟨⟨k + 1, -1, pre, rest, by omega, rfl, by simp, by omega, by omega, by rw [HEQ.out, HD.out]; simp [fwGo, hb], hJ, HKP.out⟩, by simp [intOf]; omega⟩
        · obtain ⟨m, rfl⟩ := Int.eq_ofNat_of_zero_le hs0
          have hfw : fwGo t t.data.toList 0 (-1) = pre ++ (t.extract m k :: fwGo t (t.data.toList.drop (k + 1)) (k + 1) (-1)) := by rw [HEQ.out, HD.out]; simp [fwGo, hb]
          obtain ⟨fn, tmps, assign, body, hy, hR⟩ := HY.out pre (t.extract m k) w1 hJ (by rw [hfw]; simp)
          have HFW := Lib.hid hfw
          clear hfw
          gi_wp2
          refine ⟨fun _ => by omega, hR.mono ?_⟩
          rintro e W3 (⟨rfl, hJ3, hk3⟩ | ⟨rfl, hJx3⟩)
          · gi_wp2
            exact ⟨⟨k + 1, -1, pre ++ [t.extract m k], rest, by omega, rfl, by simp, by omega, by omega, by rw [HFW.out]; simp, hJ3, fun x hx => (hk3 x (by rcases hx with rfl | rfl <;> assumption) (by rcases hx with rfl | rfl <;> assumption)).trans (HKP.out x hx)⟩, by simp [intOf]; omega⟩
          · gi_wp2
            refine bodyPost_ret (results_none rfl _ _ _) rfl ?_
            exact ⟨⟨_, rfl⟩, .inr ⟨_, trivial, hJx3⟩⟩
      | false =>
        rcases (by omega : s = -1 ∨ 0 ≤ s) with rfl | hs0
        · gi_wp2
          exact ⟨⟨k + 1, k, pre, rest, by omega, rfl, by simp, by omega, by omega, by rw [HEQ.out, HD.out]; simp [fwGo, hb], hJ, HKP.out⟩, by simp [intOf]; omega⟩
        · obtain ⟨m, rfl⟩ := Int.eq_ofNat_of_zero_le hs0
          gi_wp2
          exact ⟨⟨k + 1, m, pre, rest, by omega, rfl, by simp, by omega, by omega, by rw [HEQ.out, HD.out]; simp [fwGo, hb, show ¬ ((m : Int) < 0) by omega], hJ, HKP.out⟩, by simp [intOf]; omega⟩
    · obtain rfl : k = t.size := by omega
      rcases (by omega : s = -1 ∨ 0 ≤ s) with rfl | hs0
      · gi_wp2
        go_end0
        exact ⟨⟨_, rfl⟩, .inl ⟨_, rfl, by rw [HEQ.out]; simp [fwGo, List.drop_of_length_le]; exact hJ⟩⟩
      · obtain ⟨m, rfl⟩ := Int.eq_ofNat_of_zero_le hs0
        have hfw : fwGo t t.data.toList 0 (-1) = pre ++ [t.extract m t.size] := by rw [HEQ.out, List.drop_of_length_le (by simp)]; simp [fwGo]
        obtain ⟨fn, tmps, assign, body, hy, hR⟩ := HY.out pre (t.extract m t.size) wr hJ (by rw [hfw]; simp)
        have HFW := Lib.hid hfw
        clear hfw
        gi_wp2
        refine ⟨fun _ => by omega, hR.mono ?_⟩
        rintro e W3 (⟨rfl, hJ3, hk3⟩ | ⟨rfl, hJx3⟩)
        · gi_wp2
          go_end0
          exact ⟨⟨_, rfl⟩, .inl ⟨_, rfl, by rw [HFW.out]; exact hJ3⟩⟩
        · gi_wp2
          go_end0
          exact ⟨⟨_, rfl⟩, .inr ⟨_, trivial, hJx3⟩⟩
theorem fieldsSeq_any (t : ByteArray) (w : World) : Calls Tryz.prog 45 #[.string t, .func (.func 46) #[] #[]] w (fun e w' => e = .returned (.func (.func 71) #[] #[.pointer (some ⟨w.heap.size, 0, none⟩), .pointer (some ⟨w.heap.size + 1, 0, none⟩)]) ∧ w' = (w.alloc (.cells #[.string t] 9)).alloc (.cells #[.func (.func 46) #[] #[]] 110)) := by
  have hmf : ∀ (fn : Fn) (first cap : Array Value) (w : World), (Instr.makeFunc fn first cap).run Tryz.prog w = .ok (.func fn first cap) w := fun _ _ _ _ => rfl
  go_enter Tryz.func45, Tryz.ntmps45
  go_wp2_with fail
  go_ret
  exact ⟨rfl, rfl⟩
theorem Tryz.infoStr : (Tryz.prog.info? 9).map (fun i => (i.zero, i.size, i.bytes)) = some (some (.string ⟨#[]⟩), 1, 16) := by kernel_rfl
/-- out = append(out, word) -/
theorem words_put {W w1 : World} {n₁ B : Nat} {v v' : Value} {k : Nat} {xs ys : List Value} {tmp : Obj} (hv : Boxed W B 45 v) (hrow : W.ownsRow n₁ 9 1 v k xs) (hB : B < n₁) (hn₁ : n₁ ≤ W.heap.size)
    (hown' : w1.ownsRow n₁ 9 1 v' (k + 1) ys) (hgrow : (W.alloc tmp).grownBy w1 v.ownBlock) :
    Boxed w1 B 45 v ∧ Boxed (w1.setCell ⟨B, 0, none⟩ v') B 45 v' ∧ (w1.setCell ⟨B, 0, none⟩ v').ownsRow n₁ 9 1 v' (k + 1) ys ∧ KeepsOthers W (w1.setCell ⟨B, 0, none⟩ v') ∧ KpW n₁ B W (w1.setCell ⟨B, 0, none⟩ v') ∧ Below B W (w1.setCell ⟨B, 0, none⟩ v') := by
  have hv1 : Boxed w1 B 45 v := (hv.alloc tmp).kept hgrow (hv.not_row (by decide) hrow)
  have hrl : ∀ x, v.ownBlock = some x → n₁ ≤ x := fun x hx => (hrow.lt x hx).1
  refine ⟨hv1, hv1.set v', hown'.kept (grownBy_setCell' w1 B v') (.inr (hv1.not_row (by decide) hown').symm), ?_, ?_, ?_⟩
  · refine ((KeepsOthers.alloc W tmp).trans (KeepsOthers.of_grownBy hgrow fun j o ej hj => ?_)).trans (KeepsOthers.setCell _ _ _)
    rcases (hrow.alloc tmp).2 with ⟨rfl, _⟩ | ⟨g, cap, cur, rfl, _, hgb, _⟩
    · simp [Value.ownBlock] at ej
    · obtain rfl : g = j := by simpa [Value.ownBlock] using ej
      rw [hgb] at hj; cases hj; rfl
  · intro x hx hxB
    exact (heap_setCell_ne 0 v' hxB).trans ((hgrow.block x (by simp; omega) (fun e => by have := hrl x e.symm; omega)).trans (heap_alloc_lt (by omega)))
  · refine (((Below.refl B W).alloc (by omega) tmp).grown hgrow (by simp; omega) fun j ej => ?_).setCell (p := ⟨B, 0, none⟩) (Nat.le_refl _) v'
    have := hrl j ej
    omega
set_option maxRecDepth 100000 in
set_option maxHeartbeats 2000000 in
theorem words_text (t : ByteArray) (hsz : t.size ≤ 1048576) (hasc : ∀ c, c ∈ t.data.toList → c.toNat < 128) (hlen : (fwGo t t.data.toList 0 (-1)).length ≤ 1000) (w : World) :
    Calls Tryz.prog 32 #[.string t] w (fun e W' => ∃ v, e = .returned v ∧ W'.ownsRow w.heap.size 9 1 v (fwGo t t.data.toList 0 (-1)).length ((fwGo t t.data.toList 0 (-1)).map Value.string) ∧ Below w.heap.size w W') := by
  refine (callsIn_wide (n := 6)).1 ?_
  obtain ⟨i0, hi, hz0, hz1, hz2⟩ := info_parts Tryz.infoStr
  refine callsIn_of_wp_marks Tryz.func32 rfl trivial ?_ rfl
  simp only [Tryz.ntmps32, List.size_toArray, List.length_cons, List.length_nil, Nat.reduceAdd, Nat.reduceSub, Array.replicate_succ, Array.replicate_zero, List.push_toArray, List.append_toArray, List.nil_append, List.cons_append]
  gi_wp2
  refine ⟨trivial, ?_⟩
  have hh := callsIn_wide (n := 5) |>.2 (fieldsSeq_any t (w.alloc (.cells #[.slice none 0 0] 45)))
  refine hh.mono ?_
  clear hh
  rintro e w' ⟨rfl, rfl⟩
  obtain ⟨W0, hW0⟩ : ∃ W0, W0 = ((w.alloc (Obj.cells #[Value.slice none 0 0] 45)).alloc (Obj.cells #[Value.string t] 9)).alloc (Obj.cells #[Value.func (Fn.func 46) #[] #[]] 110) := ⟨_, rfl⟩
  have s1 : (w.alloc (Obj.cells #[Value.slice none 0 0] 45)).heap.size = w.heap.size + 1 := by simp
  have s2 : ((w.alloc (Obj.cells #[Value.slice none 0 0] 45)).alloc (Obj.cells #[Value.string t] 9)).heap.size = w.heap.size + 2 := by simp
  have s3 : W0.heap.size = w.heap.size + 3 := by rw [hW0]; simp
  have bO : Boxed W0 w.heap.size 45 (.slice none 0 0) := by rw [hW0]; exact ((Boxed.new w 45 (.slice none 0 0)).alloc _).alloc _
  have bS : W0.heap[w.heap.size + 1]? = some (.cells #[.string t] 9 (0, 0)) := by rw [hW0, heap_alloc_lt (by rw [s2]; omega), ← s1]; exact heap_alloc_at _ _
  have bF : W0.heap[w.heap.size + 2]? = some (.cells #[.func (.func 46) #[] #[]] 110 (0, 0)) := by rw [hW0, ← s2]; exact heap_alloc_at _ _
  have hB0 : Below w.heap.size w W0 := by rw [hW0]; exact (((Below.refl _ w).alloc (Nat.le_refl _) _).alloc (by rw [s1]; omega) _).alloc (by rw [s2]; omega) _
  rw [← hW0, s1]
  clear hW0 s1 s2
  have hstops : SeqStopsK Fence.wide (6 - 1) Tryz.prog 71 #[.pointer (some ⟨w.heap.size + 1, 0, none⟩), .pointer (some ⟨w.heap.size + 2, 0, none⟩)] (fun x : ByteArray => #[Value.string x]) (KpW (w.heap.size + 3) w.heap.size) (fun ys => ys = fwGo t t.data.toList 0 (-1)) (fun _ => True) (fwGo t t.data.toList 0 (-1)).length W0 :=
    fun l J Jx W hW _ _ hY h0 => fields_stops (6 - 1) (by omega) t hsz hasc (w.heap.size + 3) w.heap.size (w.heap.size + 1) (w.heap.size + 2) (by omega) (by omega) (by omega) (by omega) l J Jx hY W ((hW.block _ (lt_of_block bS)).trans bS) ((hW.block _ (lt_of_block bF)).trans bF) h0
  gi_wp2
  refine wpIn_rangeFunc_ownF (F := Fence.wide) (n := 6) (w := W0) rfl (by omega) (gf := 71) (lb := #[.pointer (some ⟨w.heap.size + 1, 0, none⟩), .pointer (some ⟨w.heap.size + 2, 0, none⟩)]) rfl trivial (enters_of Tryz.func71 (by kernel_rfl) rfl)
    hstops (fun h k x hx hxB => (k x hx hxB).trans (h x hx hxB)) (fun W l o o' hl ho _ _ x hx _ => (World.putObj_heap_other (by omega))) (Below.refl _ _) (fun _ => rfl)
    (fun pre W => (∃ v, Boxed W w.heap.size 45 v ∧ W.ownsRow (w.heap.size + 3) 9 1 v pre.length (pre.map Value.string) ∧ True) ∧ Below w.heap.size W0 W)
    (fun _ _ _ => False)
    (OwnFrom.and (Own.from (holdsRow_own (w.heap.size + 3) w.heap.size 45 9 1 (fun pre : List ByteArray => pre.length) (fun pre => pre.map Value.string) (fun _ _ => True)) _) (ownFrom_below (w₀ := W0) (n₀ := w.heap.size) (by omega) (by omega)))
    (fun _ _ _ _ _ hs _ _ => hs)
    ⟨⟨_, bO, World.ownsRow_nil _ _ _ _, trivial⟩, Below.refl _ _⟩
    (fun x => { tmps := #[.string t, undef, .slice none 0 0, .pointer (some ⟨w.heap.size, 0, none⟩), .string x, .string t, .func (.func 71) #[] #[.pointer (some ⟨w.heap.size + 1, 0, none⟩), .pointer (some ⟨w.heap.size + 2, 0, none⟩)], .string x, undef, undef, undef, undef, undef], defers := [] }) ?assign ?body ?done ?stop
  case assign =>
    intro l x W K hK
    gi_wp2
    exact hK
  case body =>
    rintro l pre x W ⟨⟨v, hv, hrow, _⟩, hB⟩ hlt
    have hc := hv.cell
    have hBz := hB.size
    have hvl := hv.lt
    gi_wp2_with (gi_at_builtin; refine wpListIn_append_own _ rfl _ _ 45 rfl (w.heap.size + 3) 9 i0 (.string ⟨#[]⟩) 1 16 Tryz.underlying45 hi hz0 hz1 hz2 rfl (by decide) _ _ _ rfl (hrow.alloc _) ⟨W.heap.size, 0, none⟩ 1 1 [.string x] rfl rfl (cell_one_new _ _ _) (by simp [Value.oneCell']) (by unfold maxLen; omega) (by omega) (by simp; omega) ?_; intro v' w1 hown' hgrow _; obtain ⟨g', cap', rfl⟩ := ownsRow_succ hown'; obtain ⟨hv1, hv2, hr2, hk2, hb2, hbb2⟩ := words_put hv hrow (by omega) (by omega) hown' hgrow; have hc1 := hv1.cell; have hf1 := hv1.frozen; have hl1 := hv1.lt)
    exact ⟨hk2, hb2, ⟨_, hv2, by simpa using hr2, trivial⟩, hB.trans hbb2⟩
  case done =>
    rintro D ys W hD rfl ⟨⟨v, hv, hrow, _⟩, hB⟩ hK
    have hc := hv.cell
    gi_wp2
    refine ⟨by simp, .inl ⟨_, _, rfl, run_takeDeferred hK, ?_⟩⟩
    exact ⟨_, results_tmp rfl _ _ _, v, rfl, ownsRow_putObj (own_weaken hrow (by omega)) _ hK rfl, hB0.trans (hB.trans (belowK_b (w := w) (Nat.le_refl _) W D _ _ (by omega) hK rfl rfl))⟩
  case stop =>
    rintro D c pre W _ _ h _
    exact h.elim
end Go.Proofs.YtoaajpppbjaomaaGreatDoor
/- reread.Parse on a text that is one function. -/
namespace Go.Proofs.YtoaajpppbjaomaaGreatDoor
open Go.RowKit
set_option maxRecDepth 100000 in
set_option maxHeartbeats 1000000 in
theorem parse_catch (p1 p2 : Value) (w : World) :
    CallsD Tryz.prog 31 #[p1, p2] .returning w fun e u' w' => e = .returned (.tuple #[]) ∧ u' = .returning ∧ w' = w := by
  refine callsD_of_wpS Tryz.func31 rfl fun c₀ cs hu => ?_
  apply wpS_seq
  apply wpS_region
  simp [wpOpsS, go_sem, recoverD, hu, Tryz.ntmps31, Exit.thenS]
  refine wpS_of_wp ?_
  have ht : ∀ p1 p2 v : Value, #[p1, p2] ++ (((Array.replicate 16 undef).setIfInBounds 3 v).setIfInBounds 0 v) = #[p1, p2, v, undef, undef, v, undef, undef, undef, undef, undef, undef, undef, undef, undef, undef, undef, undef] := by intro _ _ _; kernel_rfl
  rw [ht]
  clear ht
  go_wp2_with fail
  cases c₀
  simp_all [bodyPostS, results, Tryz.results31]
theorem Tryz.infoFu : (Tryz.prog.info? 50).map (fun i => (i.zero, i.size, i.bytes)) = some (some (.agg zeroFu), 6, 128) := by kernel_rfl
/-- the text's words, as a text that is one function -/
structure TextOk (t : ByteArray) (ws : List ByteArray) (n : Nat) (s0 s1 sc sf : ByteArray) (kc kf : Nat) (l : List FS) (j : Nat) : Prop where
  size : t.size ≤ 1048576
  asc : ∀ c, c ∈ t.data.toList → c.toNat < 128
  words : fwGo t t.data.toList 0 (-1) = ws
  len : ws.length ≤ 1000
  head : HeadW ws 0 s0 s1 sc sf kc kf
  b0 : ws[18]? = some ⟨#[123]⟩
  b1 : ws[j]? = some ⟨#[125]⟩
  jl : j + 1 = ws.length
  ll : l.length ≤ 1000
  chain : ∀ W, ErrV W → ∀ P B cap, Chain W P B cap ws 1 n 19 l j
def ParseP (n : Nat) (s0 s1 : ByteArray) (kc kf : Nat) (l : List FS) (w : World) (e : Ending) (w' : World) : Prop :=
  ∃ G fv c A, e = .returned (.tuple #[.agg #[.slice (some ⟨G, 0, none⟩) 1 c], .agg #[.int .i64 0, .int .i64 0, .int .i64 0]]) ∧ fv = .agg A ∧ FunV w' w.heap.size n s0 s1 kc kf l fv ∧ w'.ownsRow w.heap.size 50 6 (.slice (some ⟨G, 0, none⟩) 1 c) 1 A.toList ∧ Below w.heap.size w w'
theorem FunV.keep {w w' : World} {lo n : Nat} {s0 s1 : ByteArray} {kc kf : Nat} {l : List FS} {v : Value} (h : FunV w lo n s0 s1 kc kf l v) {S : List Nat} (hk : Keep S w w') (hS : ∀ x, x ∈ S → x < lo) : FunV w' lo n s0 s1 kc kf l v := by
  obtain ⟨G0, G1, A3, c3, A5, c5, h1, h2, h3, h4, h5, h6, h7⟩ := h
  exact ⟨G0, G1, A3, c3, A5, c5, h1, (hk.block _ (lt_of_block h2) (fun hm => by have := hS _ hm; omega)).trans h2, (hk.block _ (lt_of_block h3) (fun hm => by have := hS _ hm; omega)).trans h3, h4, h5, own_keep h6 hk hS, h7.keep hk hS⟩
theorem FunV.low {w : World} {lo lo' n : Nat} {s0 s1 : ByteArray} {kc kf : Nat} {l : List FS} {v : Value} (h : FunV w lo n s0 s1 kc kf l v) (hl : lo' ≤ lo) : FunV w lo' n s0 s1 kc kf l v := by
  obtain ⟨G0, G1, A3, c3, A5, c5, h1, h2, h3, h4, h5, h6, h7⟩ := h
  exact ⟨G0, G1, A3, c3, A5, c5, h1, h2, h3, by omega, by omega, own_weaken h6 hl, h7.low hl⟩
theorem parse_mid {w wr w5 w' : World} {P g cp i n : Nat} {ws : List ByteArray} {s0 s1 : ByteArray} {kc kf : Nat} {l : List FS} {v v' : Value} {six : List Value} (_hwr : Below w.heap.size w wr) (_hP : P < wr.heap.size) (hPw : w.heap.size + 1 < P) (hg : w.heap.size ≠ g) (hRP : w.heap.size < wr.heap.size)
    (hk : Keep [P] wr.drew w5) (hps : PS w w5 P g cp ws i 0) (hX : wr.heap[w.heap.size]? = some (.cells #[.slice none 0 0] 24 (0, 0))) (hY : wr.heap[w.heap.size + 1]? = some (.cells #[.int .i64 0, .int .i64 0, .int .i64 0] 52 (0, 0)))
    (hf : FunV w5 wr.heap.size n s0 s1 kc kf l v) (hgr : (w5.alloc (.cells six.toArray 50)).grownBy w' (Value.slice none 0 0).ownBlock) (hown : w'.ownsRow wr.heap.size 50 6 v' (0 + 1) ([] ++ six)) :
    PS w (w'.setCell ⟨w.heap.size, 0, none⟩ v') P g cp ws i 0 ∧ (w'.setCell ⟨w.heap.size, 0, none⟩ v').heap[w.heap.size]? = some (.cells #[v'] 24 (0, 0)) ∧ (w'.setCell ⟨w.heap.size, 0, none⟩ v').heap[w.heap.size + 1]? = some (.cells #[.int .i64 0, .int .i64 0, .int .i64 0] 52 (0, 0)) ∧
      FunV (w'.setCell ⟨w.heap.size, 0, none⟩ v') wr.heap.size n s0 s1 kc kf l v ∧ (w'.setCell ⟨w.heap.size, 0, none⟩ v').ownsRow wr.heap.size 50 6 v' 1 six := by
  have k1 : Keep [P] wr w5 := (Keep.of_below (Below.refl wr.heap.size wr).drew).trans hk
  have ka : Keep ([] : List Nat) w5 (w5.alloc (.cells six.toArray 50)) := (Keep.refl _ _).alloc _
  have kg : Keep ([] : List Nat) (w5.alloc (.cells six.toArray 50)) w' := (keep_of_grown hgr).mono (fun x hx => by simp [Value.ownBlock] at hx)
  have ks : Keep [w.heap.size] w' (w'.setCell ⟨w.heap.size, 0, none⟩ v') := (Keep.refl _ _).setCell (.inl (by simp)) _
  have kag := ka.trans kg
  have ks1 := k1.size
  have hX5 := (k1.block _ (lt_of_block hX) (by simp; omega)).trans hX
  have hX' := (kag.block _ (lt_of_block hX5) (by simp)).trans hX5
  have hY5 := (k1.block _ (lt_of_block hY) (by simp; omega)).trans hY
  have hY' := (kag.block _ (lt_of_block hY5) (by simp)).trans hY5
  have hS : ∀ x, x ∈ [w.heap.size] → x = w.heap.size := fun x hx => by simpa using hx
  refine ⟨(hps.kept kag (fun x hx => by cases hx)).kept ks (fun x hx => by rw [hS x hx]; omega), ?_, ?_, ?_, ?_⟩
  · rw [heap_setCell_eq hX']; rfl
  · exact (heap_setCell_ne 0 v' (by omega)).trans hY'
  · exact (hf.keep kag (fun x hx => by cases hx)).keep ks (fun x hx => by rw [hS x hx]; exact hRP)
  · exact own_keep (by simpa using hown) ks (fun x hx => by rw [hS x hx]; exact hRP)
theorem parse_out {w10 : World} {R g' cap' : Nat} (hx : w10.heap[R]? = some (.cells #[.slice (some ⟨g', 0, none⟩) 1 cap'] 24 (0, 0))) (hy : w10.heap[R + 1]? = some (.cells #[.int .i64 0, .int .i64 0, .int .i64 0] 52 (0, 0))) (wx : World)
    (hwx : wx = ((((w10.setCell ⟨R, 0, none⟩ (.slice (some ⟨g', 0, none⟩) 1 cap')).setCell ⟨R + 1, 0, none⟩ (.int .i64 0)).setCell ⟨R + 1, 1, none⟩ (.int .i64 0)).setCell ⟨R + 1, 2, none⟩ (.int .i64 0))) :
    Keep [R, R + 1] w10 wx ∧ wx.cell? ⟨R, 0, none⟩ = some (.slice (some ⟨g', 0, none⟩) 1 cap') ∧ wx.cell? ⟨R + 1, 0, none⟩ = some (.int .i64 0) ∧ wx.cell? ⟨R + 1, 1, none⟩ = some (.int .i64 0) ∧ wx.cell? ⟨R + 1, 2, none⟩ = some (.int .i64 0) := by
  have h1 := heap_setCell_eq hx 0 (.slice (some ⟨g', 0, none⟩) 1 cap')
  have h2 : (w10.setCell ⟨R, 0, none⟩ (.slice (some ⟨g', 0, none⟩) 1 cap')).heap[R + 1]? = some (.cells #[.int .i64 0, .int .i64 0, .int .i64 0] 52 (0, 0)) := (heap_setCell_ne 0 _ (by omega)).trans hy
  have h3 := heap_setCell_eq (heap_setCell_eq (heap_setCell_eq h2 0 (.int .i64 0)) 1 (.int .i64 0)) 2 (.int .i64 0)
  have h4 : wx.heap[R]? = some (.cells #[.slice (some ⟨g', 0, none⟩) 1 cap'] 24 (0, 0)) := by
    rw [hwx]
    exact (heap_setCell_ne 2 _ (by omega)).trans ((heap_setCell_ne 1 _ (by omega)).trans ((heap_setCell_ne 0 _ (by omega)).trans h1))
  have h5 : wx.heap[R + 1]? = some (.cells #[.int .i64 0, .int .i64 0, .int .i64 0] 52 (0, 0)) := by rw [hwx]; exact h3
  refine ⟨?_, cellB' h4 0 rfl, cellB' h5 0 rfl, cellB' h5 1 rfl, cellB' h5 2 rfl⟩
  rw [hwx]
  exact (((((Keep.refl _ _).setCell (.inl (by simp)) _).setCell (.inl (by simp)) _).setCell (.inl (by simp)) _).setCell (.inl (by simp)) _)
set_option maxRecDepth 100000 in
set_option maxHeartbeats 2000000 in
theorem parse_text {t : ByteArray} {ws : List ByteArray} {n : Nat} {s0 s1 sc sf : ByteArray} {kc kf : Nat} {l : List FS} {j : Nat} (ht : TextOk t ws n s0 s1 sc sf kc kf l j) (w : World) (hE : ErrV w) :
    Calls Tryz.prog 19 #[.string t] w (ParseP n s0 s1 kc kf l w) := by
  have HT := Lib.hid ht
  have hts := ht.size
  have d0 : decide ((1048576 : Int) < (t.size : Int)) = false := by simpa using (by omega : (t.size : Int) ≤ 1048576)
  clear ht
  have hmf : ∀ (fn : Fn) (first cap : Array Value) (w : World), (Instr.makeFunc fn first cap).run Tryz.prog w = .ok (.func fn first cap) w := fun _ _ _ _ => rfl
  go_enter_defers Tryz.func19, Tryz.ntmps19
  go_wp2_with fail
  obtain ⟨w2, hw2⟩ : ∃ w2, w2 = ((w.alloc (Obj.cells #[Value.slice none 0 0] 24)).alloc (Obj.cells #[Value.int IntKind.i64 0, Value.int IntKind.i64 0, Value.int IntKind.i64 0] 52)) := ⟨_, rfl⟩
  have s1 : (w.alloc (Obj.cells #[Value.slice none 0 0] 24)).heap.size = w.heap.size + 1 := by simp
  have s2 : w2.heap.size = w.heap.size + 2 := by rw [hw2]; simp
  have hb2 : Below w.heap.size w w2 := by rw [hw2]; exact ((Below.refl _ _).alloc (Nat.le_refl _) _).alloc (by rw [s1]; omega) _
  have hX2 : w2.heap[w.heap.size]? = some (Obj.cells #[Value.slice none 0 0] 24 (0, 0)) := by rw [hw2, heap_alloc_lt (by rw [s1]; omega)]; exact heap_alloc_at _ _
  have hY2 : w2.heap[w.heap.size + 1]? = some (Obj.cells #[Value.int IntKind.i64 0, Value.int IntKind.i64 0, Value.int IntKind.i64 0] 52 (0, 0)) := by rw [hw2, ← s1]; exact heap_alloc_at _ _
  rw [← hw2]
  clear hw2 s1
  have hwt := words_text t hts HT.out.asc (by rw [HT.out.words]; exact HT.out.len) w2
  rw [HT.out.words] at hwt
  refine hwt.mono ?_
  clear hwt
  rintro e w3 ⟨v, rfl, hov, hb3⟩
  have hwl := HT.out.len
  have hjl := HT.out.jl
  obtain ⟨g, cp, hv, hg3, hgl, hcl⟩ : ∃ g cp, v = .slice (some ⟨g, 0, none⟩) ws.length cp ∧ g < w3.heap.size ∧ w2.heap.size ≤ g ∧ (∀ j s, ws[j]? = some s → w3.cell? ⟨g, j, none⟩ = some (.string s)) := by
    rcases hov.2 with ⟨_, h0⟩ | ⟨g, cap, cur, rfl, hbg, hgb, _⟩
    · omega
    · refine ⟨g, cap, rfl, lt_of_block hgb, hbg, fun j s hs => ?_⟩
      have := hov.cells (g := g) rfl j (.string s) (by rw [List.getElem?_map, hs]; rfl)
      rcases Nat.eq_zero_or_pos j with rfl | hp
      · simpa [Addr.add] using this
      · have hj0 : j ≠ 0 := by omega
        simpa [Addr.add, hj0] using this
  subst hv
  have HCL := Lib.hid hcl
  have HX3 := Lib.hid ((hb3.block _ (lt_of_block hX2)).trans hX2)
  have HY3 := Lib.hid ((hb3.block _ (lt_of_block hY2)).trans hY2)
  have HB3 := Lib.hid (hb2.trans (hb3.mono (by omega)))
  have hz3 := hb3.size
  clear hov hcl hb2 hb3 hX2 hY2
  go_wp2_with fail
  obtain ⟨w4, hw4⟩ : ∃ w4, w4 = w3.alloc (Obj.cells #[Value.slice (some ⟨g, 0, none⟩) ws.length cp, Value.int IntKind.i64 0, Value.int IntKind.i64 0] 80) := ⟨_, rfl⟩
  have hb4 : Below w3.heap.size w3 w4 := by rw [hw4]; exact (Below.refl _ _).alloc (Nat.le_refl _) _
  have hP4 : w4.heap[w3.heap.size]? = some (Obj.cells #[Value.slice (some ⟨g, 0, none⟩) ws.length cp, Value.int IntKind.i64 0, Value.int IntKind.i64 0] 80 (0, 0)) := by rw [hw4]; exact heap_alloc_at _ _
  have hs4 : w4.heap.size = w3.heap.size + 1 := by rw [hw4]; simp
  rw [← hw4]
  clear hw4
  have hps : PS w w4 w3.heap.size g cp ws 0 0 := ⟨HB3.out.trans (hb4.mono (by omega)), hP4, fun j s hs => (hb4.cell (p := ⟨g, j, none⟩) hg3).trans (HCL.out j s hs), by omega, by omega, by omega, by omega, by omega, by omega⟩
  have hx4 := (hb4.block _ (lt_of_block HX3.out)).trans HX3.out
  have hy4 := (hb4.block _ (lt_of_block HY3.out)).trans HY3.out
  have HPS := Lib.hid (hps.on (Below.refl w4.heap.size w4).drew)
  have HPS4 := Lib.hid hps
  have HX4 := Lib.hid hx4
  have HY4 := Lib.hid hy4
  have hE' := Lib.hid hE
  clear hps hx4 hy4 hP4 hb4 HX3 HY3 HCL hE
  generalize hP : w3.heap.size = P at HPS HPS4 hs4 hg3 hz3 ⊢
  have hxl := lt_of_block HX4.out
  have hyl := lt_of_block HY4.out
  go_loopw [] (fun wr => wr = w4) (fun _ => 0)
  case atStart => rfl
  case round =>
    subst hrel
    have x0 := cellB' HX4.out 0 rfl
    go_upto_region 5 with fail
    first | go_region_law (first
      | (go_simp; go_at_call 33; refine (function_any HPS.out HT.out.head (by omega) HT.out.b0 (HT.out.chain w hE'.out _ _ _) HT.out.b1 HT.out.ll).mono ?_; rintro e w5 ⟨⟨vf, rfl, hfv⟩, hk, hps⟩; obtain ⟨G0, G1, A3, c3, A5, c5, rfl, hfr⟩ := id hfv; have hx5 := (hk.block w.heap.size hxl (by simp; omega)).trans HX4.out; have x0' := cellB' hx5 0 rfl; have hx5l := lt_of_block hx5; have HX5 := Lib.hid hx5; have HFV := Lib.hid hfv; have HK := Lib.hid hk; have HPS5 := Lib.hid hps; clear hx5 hfv hk hps hfr; go_simp)
      | (refine step_append_one rfl (.tmp 16) (.tmp 19) rfl Tryz.underlying22 Tryz.infoFu rfl (by decide) (by decide) wr.heap.size (.slice none 0 0) 0 [] rfl (World.ownsRow_nil _ _ _ _) ⟨w5.heap.size, 0, none⟩ [.slice (some ⟨G0, 0, none⟩) 1 1, .slice (some ⟨G1, 0, none⟩) 1 1, .int .i64 kc, .slice A3 1 c3, .slice none 0 0, .slice A5 l.length c5] rfl rfl (news_at w5 _ _) (by intro u hu; simp only [List.mem_cons, List.mem_nil_iff, or_false] at hu; rcases hu with rfl | rfl | rfl | rfl | rfl | rfl <;> rfl) (by omega) (by have := HK.out.size; simp at this ⊢; omega) ?_; intro v' w' hown' hgr hfr; obtain ⟨g', cap', hv'⟩ := ownsRow_succ hown'; subst hv'; have hbF := (hgr.block w.heap.size (by have := HK.out.size; simp at this ⊢; omega) (by simp [Value.ownBlock])).trans ((heap_alloc_lt (by have := HK.out.size; simp at this ⊢; omega)).trans HX5.out); have z3 := frozB hbF 0; have l3 := cellB' hbF 0 rfl; have hFl' := lt_of_block hbF; have HG := Lib.hid hgr; have HO := Lib.hid hown'; have HBF := Lib.hid hbF; clear hgr hown' hfr hbF)) | fail
    all_goals
      obtain ⟨hp9, hx9, hy9, hf9, ho9⟩ := parse_mid (v := .agg #[.slice (some ⟨G0, 0, none⟩) 1 1, .slice (some ⟨G1, 0, none⟩) 1 1, .int .i64 kc, .slice A3 1 c3, .slice none 0 0, .slice A5 l.length c5]) HPS4.out.below (by omega) (by omega) (by omega) (by omega) HK.out HPS5.out HX4.out HY4.out HFV.out HG.out HO.out
      generalize w'.setCell ⟨w.heap.size, 0, none⟩ (.slice (some ⟨g', 0, none⟩) (0 + 1) cap') = w9 at hp9 hx9 hy9 hf9 ho9 ⊢
      have HP9 := Lib.hid hp9
      have HX9 := Lib.hid hx9
      have HY9 := Lib.hid hy9
      have HF9 := Lib.hid hf9
      have HO9 := Lib.hid ho9
      have p1 := hp9.c1
      have p0 := hp9.c0
      have hpl9 := lt_of_block hp9.hP
      have x9 := cellB' hx9 0 rfl
      have xz9 := frozB hx9 0
      have hxl9 := lt_of_block hx9
      have y9 := cellB' hy9 0 rfl
      have hyl9 := lt_of_block hy9
      have dj : (((j + 1 : Nat) : Int) == (ws.length : Int)) = true := by simp [hjl]
      clear hp9 hx9 hy9 hf9 ho9 HG HO HBF HK HPS5 HFV
      go_upto_region 6 with fail
      go_quiet (fail)
      have hb10 : Below w9.heap.size w9 (w9.drewN nq) := Below.drewN' (Below.refl _ _) nq
      have hx10 := (hb10.block _ hxl9).trans HX9.out
      have hy10 := (hb10.block _ hyl9).trans HY9.out
      have HP10 := Lib.hid (HP9.out.on hb10)
      have HF10 := Lib.hid (HF9.out.keep (S := []) (Keep.of_below hb10) (fun x hx => by cases hx))
      have HO10 := Lib.hid (own_keep (S := []) HO9.out (Keep.of_below hb10) (fun x hx => by cases hx))
      clear hb10 x9 xz9 y9 hxl9 hyl9 HP9 HF9 HO9 p0 p1 hpl9
      generalize w9.drewN nq = w10 at hx10 hy10 HP10 HF10 HO10 ⊢
      have HX10 := Lib.hid hx10
      have HY10 := Lib.hid hy10
      have x10 := cellB' hx10 0 rfl
      have xz10 := frozB hx10 0
      have hxl10 := lt_of_block hx10
      have y10 := cellB' hy10 0 rfl
      have y11 := cellB' hy10 1 rfl
      have y12 := cellB' hy10 2 rfl
      have yz10 := frozB hy10 0
      have yz11 := frozB hy10 1
      have yz12 := frozB hy10 2
      have hyl10 := lt_of_block hy10
      clear hx10 hy10
      go_wp2_with fail
      obtain ⟨wx, hwx⟩ : ∃ wx, wx = ((((w10.setCell ⟨w.heap.size, 0, none⟩ (.slice (some ⟨g', 0, none⟩) 1 cap')).setCell ⟨w.heap.size + 1, 0, none⟩ (.int .i64 0)).setCell ⟨w.heap.size + 1, 1, none⟩ (.int .i64 0)).setCell ⟨w.heap.size + 1, 2, none⟩ (.int .i64 0)) := ⟨_, rfl⟩
      rw [← hwx]
      obtain ⟨hkx, u0, u1, u2, u3⟩ := parse_out HX10.out HY10.out wx hwx
      clear hwx x10 xz10 y10 y11 y12 yz10 yz11 yz12
      have hb0 := HP10.out.below
      have hS2 : ∀ x, x ∈ [w.heap.size, w.heap.size + 1] → w.heap.size ≤ x ∧ x < w.heap.size + 2 := fun x hx => by simp at hx; omega
      refine leaves_cons (f := 31) (args := #[.pointer (some ⟨w.heap.size, 0, none⟩), .pointer (some ⟨w.heap.size + 1, 0, none⟩)]) (by simp) (by simp [go_sem]) ?_
      refine (parse_catch _ _ _).mono ?_
      rintro e u' w11 ⟨rfl, rfl, rfl⟩
      simp [Leaves, settle, results, Tryz.results19, go_sem, u0, u1, u2, u3]
      exact ⟨g', _, cap', _, rfl, rfl, (HF10.out.keep hkx (fun x hx => by have := hS2 x hx; omega)).low (by omega), own_weaken (own_keep HO10.out hkx (fun x hx => by have := hS2 x hx; omega)) (by omega), hkx.below hb0 (by omega) (fun x hx => (hS2 x hx).1)⟩
end Go.Proofs.YtoaajpppbjaomaaGreatDoor
/- The fixed text of 'lives' (printed by wip/tools/mkLp.py). -/
namespace Go.Proofs.YtoaajpppbjaomaaGreatDoor
open Go.RowKit
def sumT : ByteArray := ⟨#[102, 117, 110, 32, 40, 32, 120, 48, 32, 41, 32, 61, 32, 40, 32, 120, 49, 32, 41, 32, 99, 101, 108, 108, 115, 32, 50, 32, 102, 108, 97, 103, 115, 32, 123, 32, 49, 32, 59, 32, 125, 32, 112, 97, 114, 116, 115, 32, 123, 32, 125, 32, 123, 32, 120, 49, 32, 61, 32, 40, 32, 105, 102, 32, 109, 32, 91, 32, 49, 32, 93, 32, 116, 104, 101, 110, 32, 48, 32, 101, 108, 115, 101, 32, 109, 32, 91, 32, 48, 32, 93, 32, 41, 32, 59, 32, 120, 50, 32, 61, 32, 40, 32, 120, 49, 32, 43, 32, 120, 48, 32, 41, 32, 59, 32, 109, 32, 91, 32, 49, 32, 93, 32, 61, 32, 48, 32, 59, 32, 109, 32, 91, 32, 48, 32, 93, 32, 61, 32, 120, 50, 32, 59, 32, 125]⟩
def sumWs : List ByteArray := [⟨#[102, 117, 110]⟩, ⟨#[40]⟩, ⟨#[120, 48]⟩, ⟨#[41]⟩, ⟨#[61]⟩, ⟨#[40]⟩, ⟨#[120, 49]⟩, ⟨#[41]⟩, ⟨#[99, 101, 108, 108, 115]⟩, ⟨#[50]⟩, ⟨#[102, 108, 97, 103, 115]⟩, ⟨#[123]⟩, ⟨#[49]⟩, ⟨#[59]⟩, ⟨#[125]⟩, ⟨#[112, 97, 114, 116, 115]⟩, ⟨#[123]⟩, ⟨#[125]⟩, ⟨#[123]⟩, ⟨#[120, 49]⟩, ⟨#[61]⟩, ⟨#[40]⟩, ⟨#[105, 102]⟩, ⟨#[109]⟩, ⟨#[91]⟩, ⟨#[49]⟩, ⟨#[93]⟩, ⟨#[116, 104, 101, 110]⟩, ⟨#[48]⟩, ⟨#[101, 108, 115, 101]⟩, ⟨#[109]⟩, ⟨#[91]⟩, ⟨#[48]⟩, ⟨#[93]⟩, ⟨#[41]⟩, ⟨#[59]⟩, ⟨#[120, 50]⟩, ⟨#[61]⟩, ⟨#[40]⟩, ⟨#[120, 49]⟩, ⟨#[43]⟩, ⟨#[120, 48]⟩, ⟨#[41]⟩, ⟨#[59]⟩, ⟨#[109]⟩, ⟨#[91]⟩, ⟨#[49]⟩, ⟨#[93]⟩, ⟨#[61]⟩, ⟨#[48]⟩, ⟨#[59]⟩, ⟨#[109]⟩, ⟨#[91]⟩, ⟨#[48]⟩, ⟨#[93]⟩, ⟨#[61]⟩, ⟨#[120, 50]⟩, ⟨#[59]⟩, ⟨#[125]⟩]
def xNum (i : Int) : XE := .mk 1 ⟨#[]⟩ i []
def xMem (i : Int) : XE := .mk 16 ⟨#[]⟩ i []
def xVar (s : ByteArray) : XE := .mk 4 s 0 []
def sum1 : FS := .mk 1 ⟨#[120, 49]⟩ 0 0 [] (.mk 7 ⟨#[]⟩ 0 [xMem 1, xNum 0, xMem 0]) [] []
def sum2 : FS := .mk 1 ⟨#[120, 50]⟩ 0 0 [] (.mk 6 ⟨#[43]⟩ 0 [xVar ⟨#[120, 49]⟩, xVar ⟨#[120, 48]⟩]) [] []
def sum3 : FS := .mk 2 ⟨#[]⟩ 1 0 [] (xNum 0) [] []
def sum4 : FS := .mk 2 ⟨#[]⟩ 0 0 [] (xVar ⟨#[120, 50]⟩) [] []
def sumB : List FS := [sum1, sum2, sum3, sum4]
def sumFN : FN := ⟨[⟨#[120, 48]⟩], [⟨#[120, 49]⟩], 2, [1], [], sumB⟩
theorem sum_words : fwGo sumT sumT.data.toList 0 (-1) = sumWs := by kernel_rfl
theorem dg0 : (⟨(Lib.decDigits 0).toArray⟩ : ByteArray) = ⟨#[48]⟩ := by simp [Lib.decDigits]
theorem dg1 : (⟨(Lib.decDigits 1).toArray⟩ : ByteArray) = ⟨#[49]⟩ := by simp [Lib.decDigits]
theorem dg2 : (⟨(Lib.decDigits 2).toArray⟩ : ByteArray) = ⟨#[50]⟩ := by simp [Lib.decDigits]
theorem sum_head : HeadW sumWs 0 ⟨#[120, 48]⟩ ⟨#[120, 49]⟩ ⟨#[50]⟩ ⟨#[49]⟩ 2 1 where
  t0 := rfl
  t1 := rfl
  t2 := rfl
  t3 := rfl
  t4 := rfl
  t5 := rfl
  t6 := rfl
  t7 := rfl
  t8 := rfl
  t9 := rfl
  t10 := rfl
  t11 := rfl
  t12 := rfl
  t13 := rfl
  t14 := rfl
  t15 := rfl
  t16 := rfl
  t17 := rfl
  n0 := isNm_48
  n1 := isNm_49
  m0 := tl_lit (by decide)
  m1 := tl_lit (by decide)
  mf := by rw [ByteArray.toList_eq]; decide
  kcl := by omega
  kfl := by omega
  pc := by decide
  pf := by decide
  dc := dg2
  df := dg1
  zc := by decide
  zf := by decide
theorem ec_of {W : World} {P B cap : Nat} {ws : List ByteArray} {i j op n : Nat} {x : XE} (hE : ErrV W) (ho : op < 100) (hc : ExprCase W P B cap ws i op n x j) : EC W P B cap ws i j op (n + 1) x := fun _ h => expr_core hE h ho hc
section
variable {W : World} (hE : ErrV W) (P B cap : Nat)
include hE
theorem sum_e1 : EC W P B cap sumWs 21 35 1 2 (.mk 7 ⟨#[]⟩ 0 [xMem 1, xNum 0, xMem 0]) :=
  ec_of (n := 1) hE (by omega) (.par _ 34 rfl rfl (fun w h => inner_iff (j := 27) (k := 29) (l := 34) h rfl
    (ec_of (n := 0) (i := 23) hE (by omega) (.mem ⟨#[49]⟩ 1 rfl rfl rfl rfl (by omega) (by decide) dg1 (by decide)) : EC W P B cap sumWs 23 27 2 1 (xMem 1)) rfl
    (ec_of (n := 0) (i := 28) hE (by omega) (.num ⟨#[48]⟩ 0 rfl (by omega) (by decide) dg0 (by decide)) : EC W P B cap sumWs 28 29 2 1 (xNum 0)) rfl
    (ec_of (n := 0) (i := 30) hE (by omega) (.mem ⟨#[48]⟩ 0 rfl rfl rfl rfl (by omega) (by decide) dg0 (by decide)) : EC W P B cap sumWs 30 34 2 1 (xMem 0))))
theorem sum_e2 : EC W P B cap sumWs 38 43 1 2 (.mk 6 ⟨#[43]⟩ 0 [xVar ⟨#[120, 49]⟩, xVar ⟨#[120, 48]⟩]) :=
  ec_of (n := 1) hE (by omega) (.par _ 42 rfl rfl (fun w h => inner_bin (j := 40) (k := 42) h (t := ⟨#[120, 49]⟩) rfl ⟨by rw [ByteArray.toList_eq]; decide, by rw [ByteArray.toList_eq]; decide, by rw [ByteArray.toList_eq]; decide⟩
    (ec_of (n := 0) (i := 39) hE (by omega) (.var ⟨#[120, 49]⟩ rfl isNm_49 (by decide) (by decide) (tl_lit (by decide)) (tl_lit (by decide))) : EC W P B cap sumWs 39 40 2 1 (xVar ⟨#[120, 49]⟩)) rfl
    (ec_of (n := 0) (i := 41) hE (by omega) (.var ⟨#[120, 48]⟩ rfl isNm_48 (by decide) (by decide) (tl_lit (by decide)) (tl_lit (by decide))) : EC W P B cap sumWs 41 42 2 1 (xVar ⟨#[120, 48]⟩))))
theorem sum_s1 : SC W P B cap sumWs 19 36 1 2 sum1 := fun w h => stmt_core (j := 35) h (.set ⟨#[120, 49]⟩ _ 35 rfl isNm_49 (by decide) (tl_lit (by decide)) (tl_lit (by decide)) (tl_lit (by decide)) (by rw [ByteArray.toList_eq]; decide) rfl (sum_e1 hE P B cap)) rfl
theorem sum_s2 : SC W P B cap sumWs 36 44 1 2 sum2 := fun w h => stmt_core (j := 43) h (.set ⟨#[120, 50]⟩ _ 43 rfl isNm_50 (by decide) (tl_lit (by decide)) (tl_lit (by decide)) (tl_lit (by decide)) (by rw [ByteArray.toList_eq]; decide) rfl (sum_e2 hE P B cap)) rfl
theorem sum_s3 : SC W P B cap sumWs 44 51 1 2 sum3 := fun w h => stmt_core (j := 50) h (.keep ⟨#[49]⟩ 1 _ 50 rfl rfl rfl rfl (by omega) (by decide) dg1 (by decide) rfl (ec_of (n := 1) (i := 49) hE (by omega) (.num ⟨#[48]⟩ 0 rfl (by omega) (by decide) dg0 (by decide)) : EC W P B cap sumWs 49 50 1 2 (xNum 0))) rfl
theorem sum_s4 : SC W P B cap sumWs 51 58 1 2 sum4 := fun w h => stmt_core (j := 57) h (.keep ⟨#[48]⟩ 0 _ 57 rfl rfl rfl rfl (by omega) (by decide) dg0 (by decide) rfl (ec_of (n := 1) (i := 56) hE (by omega) (.var ⟨#[120, 50]⟩ rfl isNm_50 (by decide) (by decide) (tl_lit (by decide)) (tl_lit (by decide))) : EC W P B cap sumWs 56 57 1 2 (xVar ⟨#[120, 50]⟩))) rfl
theorem sum_chain : Chain W P B cap sumWs 1 2 19 sumB 58 :=
  .cons 19 36 58 sum1 _ ⟨#[120, 49]⟩ rfl (by rw [ByteArray.toList_eq]; decide) (by omega) (sum_s1 hE P B cap)
    (.cons 36 44 58 sum2 _ ⟨#[120, 50]⟩ rfl (by rw [ByteArray.toList_eq]; decide) (by omega) (sum_s2 hE P B cap)
      (.cons 44 51 58 sum3 _ ⟨#[109]⟩ rfl (by rw [ByteArray.toList_eq]; decide) (by omega) (sum_s3 hE P B cap)
        (.cons 51 58 58 sum4 _ ⟨#[109]⟩ rfl (by rw [ByteArray.toList_eq]; decide) (by omega) (sum_s4 hE P B cap) (.nil 58))))
end
theorem sum_ok : TextOk sumT sumWs 2 ⟨#[120, 48]⟩ ⟨#[120, 49]⟩ ⟨#[50]⟩ ⟨#[49]⟩ 2 1 sumB 58 where
  size := Nat.le_of_ble_eq_true (by kernel_rfl)
  asc := fun c hc => by
    have h : sumT.data.toList.all (fun c => decide (c.toNat < 128)) = true := by kernel_rfl
    simpa using List.all_eq_true.1 h c hc
  words := sum_words
  len := Nat.le_of_ble_eq_true (by kernel_rfl)
  head := sum_head
  b0 := rfl
  b1 := rfl
  jl := rfl
  ll := by decide
  chain := fun _ hE P B cap => sum_chain hE P B cap
end Go.Proofs.YtoaajpppbjaomaaGreatDoor
/- law 21's 'lives': what was parsed, as the runner sees it; the spec's numbers. -/
namespace Go.Proofs.YtoaajpppbjaomaaGreatDoor
open Go.RowKit
theorem repV_own {α : Type} {R : α → List Value → Prop} {sz : Nat} {w : World} {lo : Nat} {e : TypeId} {v : Value} {xs : List α} {css : List (List Value)} (h : w.ownsRow lo e sz v xs.length css.flatten)
    (hl : css.length = xs.length) (hsz : ∀ c, c ∈ css → c.length = sz) (hR : ∀ (j : Nat) x cs, xs[j]? = some x → css[j]? = some cs → R x cs) (hn : xs.length ≤ 1048576) : RepV R sz w v xs := by
  rcases h.2 with ⟨rfl, h0⟩ | ⟨g, cap, cur, rfl, _, hg, hnc, hcm, _⟩
  · have : xs = [] := List.length_eq_zero_iff.1 h0
    subst this
    exact repV_nil _ _ _
  · refine ⟨hn, _, _, rfl, hnc, by unfold maxLen at hcm; omega, fun _ => ⟨g, 0, rfl, lt_of_block hg, fun j x hj => ?_⟩⟩
    have hjl : j < css.length := by rw [hl]; exact (List.getElem?_eq_some_iff.1 hj).1
    have hgj := List.getElem?_eq_getElem hjl
    refine ⟨css[j], hsz _ (List.getElem_mem _), hR j x _ hj hgj, fun i u hu => ?_⟩
    have := h.cells (g := g) rfl (j * sz + i) u (flat_get css j i _ u hsz hgj hu)
    show w.cell? ⟨g, 0 + j * sz + i, none⟩ = some u
    rw [Nat.zero_add]
    generalize j * sz + i = k at this ⊢
    rcases Nat.eq_zero_or_pos k with rfl | hp
    · simpa [Addr.add] using this
    · have hj0 : k ≠ 0 := by omega
      simpa [Addr.add, hj0] using this
theorem repV_blk1 {α : Type} {R : α → List Value → Prop} {w : World} {G : Nat} {x : α} {u : Value} {t : TypeId} {z : Nat × Nat} (h : w.heap[G]? = some (.cells #[u] t z)) (hR : R x [u]) : RepV R 1 w (.slice (some ⟨G, 0, none⟩) 1 1) [x] := by
  refine ⟨by simp, _, _, rfl, by simp, by omega, fun _ => ⟨G, 0, rfl, lt_of_block h, fun j y hj => ?_⟩⟩
  have hj0 : j = 0 := by
    rcases Nat.eq_zero_or_pos j with h | h
    · exact h
    · rw [List.getElem?_eq_none (by simp; omega)] at hj; cases hj
  subst hj0
  simp at hj
  subst hj
  refine ⟨[u], rfl, hR, fun i v hv => ?_⟩
  have hi0 : i = 0 := by
    rcases Nat.eq_zero_or_pos i with h | h
    · exact h
    · rw [List.getElem?_eq_none (by simp; omega)] at hv; cases hv
  subst hi0
  simp at hv
  subst hv
  exact cellB' h 0 rfl
theorem fun_rep {w : World} {lo n : Nat} {s0 s1 : ByteArray} {kc kf : Nat} {l : List FS} {A : Array Value} (h : FunV w lo n s0 s1 kc kf l (.agg A)) (h0 : s0.size ≤ 1048576) (h1 : s1.size ≤ 1048576) (hc : kc < 100) (hf : kf < 100) (hl : l.length ≤ 1000) :
    A.toList.length = 6 ∧ RepF w (n + 1) ⟨[s0], [s1], kc, [(kf : Int)], [], l⟩ A.toList := by
  obtain ⟨G0, G1, A3, c3, A5, c5, h1', h2, h3, h4, h5, h6, css, g1, g2, g3, g4⟩ := h
  injection h1' with h1'
  subst h1'
  refine ⟨rfl, _, _, _, _, _, rfl, ?_, ?_, ?_, ?_, ?_, ?_⟩
  · show I64 (kc : Int); unfold I64; omega
  · exact repV_blk1 h2 ⟨rfl, h0⟩
  · exact repV_blk1 h3 ⟨rfl, h1⟩
  · refine repV_own (R := RInt) (sz := 1) (xs := [(kf : Int)]) (css := [[.int .i64 kf]]) h6 rfl (by simp) (fun j x cs hj hj' => ?_) (by simp)
    have hj0 : j = 0 := by
      rcases Nat.eq_zero_or_pos j with h | h
      · exact h
      · rw [List.getElem?_eq_none (by simp; omega)] at hj; cases hj
    subst hj0
    simp at hj hj'
    subst hj hj'
    exact ⟨rfl, by unfold I64; omega⟩
  · exact repV_nil _ _ _
  · exact repV_own g1 g2 g3 (fun j x cs a b => (g4 j x cs a b).s) (by show l.length ≤ _; omega)
theorem sum_parse (w : World) (hE : ErrV w) : Calls Tryz.prog 19 #[.string sumT] w (fun e w' => ∃ v, e = .returned (.tuple #[.agg #[v], .agg #[.int .i64 0, .int .i64 0, .int .i64 0]]) ∧ RepV (RepF w' 3) 6 w' v [sumFN] ∧ Below w.heap.size w w' ∧ IsSl v) := by
  refine (parse_text sum_ok w hE).mono ?_
  rintro e w' ⟨G, fv, c, A, rfl, rfl, hf, ho, hb⟩
  obtain ⟨hA, hR⟩ := fun_rep hf (by decide) (by decide) (by omega) (by omega) (by decide)
  refine ⟨_, rfl, repV_own (css := [A.toList]) (by simpa using ho) rfl (by simpa using hA) (fun j x cs hj hj' => ?_) (by simp), hb, ⟨_, _, _, rfl⟩⟩
  have hj0 : j = 0 := by
    rcases Nat.eq_zero_or_pos j with h | h
    · exact h
    · rw [List.getElem?_eq_none (by simp; omega)] at hj; cases hj
  subst hj0
  simp at hj hj'
  subst hj hj'
  exact hR
theorem sum_right : rightF [sumFN] = true := by kernel_rfl
theorem sum_heavy : ¬ 1000 < heavyV [sumFN] := by decide
theorem sum_new : newF [sumFN] = ⟨[none, some 1], false, 0⟩ := by kernel_rfl
theorem sum_step1 : stepF [sumFN] ⟨[none, some 1], false, 0⟩ [1] = (⟨[some 1, some 0], false, 4⟩, [0], 0) := by kernel_rfl
theorem sum_step2 : stepF [sumFN] ⟨[some 1, some 0], false, 4⟩ [2] = (⟨[some 3, some 0], false, 4⟩, [1], 0) := by kernel_rfl
theorem sum_step3 : stepF [sumFN] ⟨[some 3, some 0], false, 4⟩ [3] = (⟨[some 6, some 0], false, 4⟩, [3], 0) := by kernel_rfl
end Go.Proofs.YtoaajpppbjaomaaGreatDoor
/- law 21's 'lives'. -/
namespace Go.Proofs.YtoaajpppbjaomaaGreatDoor
open Go.RowKit
structure StepOne (W : World) (R M : Nat) (fv : Value) (mem' : Mem) (cnt' out : Int) (w : World) (e : Ending) (w' : World) : Prop where
  ret : ∃ g c, e = .returned (.tuple #[.slice (some ⟨g, 0, none⟩) 1 c, .int .i64 0]) ∧ w'.cell? ⟨g, 0, none⟩ = some (.int .i64 out) ∧ w.heap.size ≤ g
  keep : Keep [R, M] w w'
  st : MemSt W w' R M fv mem' false cnt'
  memI : ∀ v, some v ∈ mem' → I64 v
theorem step_one {W w : World} {R M : Nat} {fv : Value} (hrep : RepV (RepF W 3) 6 W fv [sumFN]) {mem mem' : Mem} {cnt cnt' k out : Int} (h : MemSt W w R M fv mem false cnt) (hmI : ∀ v, some v ∈ mem → I64 v) (hk : I64 k) (hs : stepF [sumFN] ⟨mem, false, cnt⟩ [k] = (⟨mem', false, cnt'⟩, [out], 0)) :
    Calls Tryz.prog 12 #[.pointer (some ⟨R, 0, none⟩), .slice (some ⟨w.heap.size, 0, none⟩) 1 1] (w.alloc (Obj.cells #[Value.int .i64 k] 2)) (StepOne W R M fv mem' cnt' out w) := by
  have hb : Below w.heap.size w (w.alloc (Obj.cells #[Value.int .i64 k] 2)) := (Below.refl _ _).alloc (Nat.le_refl _) _
  have hRl := lt_of_block h.hR
  have hMl := lt_of_block h.hM
  have hin : Ints (w.alloc (Obj.cells #[Value.int .i64 k] 2)) (.slice (some ⟨w.heap.size, 0, none⟩) 1 1) [k] := by
    refine ⟨_, _, rfl, fun j x hj => ?_⟩
    have hj0 : j = 0 := by
      rcases Nat.eq_zero_or_pos j with h | h
      · exact h
      · rw [List.getElem?_eq_none (by simp; omega)] at hj; cases hj
    subst hj0
    simp at hj
    subst hj
    exact ⟨_, 0, rfl, by simp, cellB' (heap_alloc_at w _) 0 rfl⟩
  refine (run_step hrep (rightP_of sum_right) (by decide) (r := ⟨mem, false, cnt⟩) (h.later hb) (fun _ => hmI) hin (fun v hv => by simp at hv; subst hv; exact hk) (by simp) (fun x hx o n c _ e => by
    injection e with e1 _ _
    injection e1 with e1
    injection e1 with e1 _ _
    simp at hx
    omega)).mono ?_
  rintro e w' ⟨⟨v, rfl, hown⟩, hkeep, hst, hmI'⟩
  rw [hs] at hown hst hmI' ⊢
  refine ⟨?_, (Keep.of_below hb).trans hkeep, hst, hmI' rfl⟩
  rcases hown.2 with ⟨_, h0⟩ | ⟨g, cap, cur, rfl, hbg, _⟩
  · simp at h0
  · have := hown.cells (g := g) rfl 0 (.int .i64 out) rfl
    exact ⟨g, cap, rfl, by simpa [Addr.add] using this, by simp at hbg; omega⟩
set_option maxRecDepth 100000 in
set_option maxHeartbeats 2000000 in
theorem lives_any (w : World) (hE : ErrV w) : Calls Tryz.prog 6 #[] w (RetB (.bool true) w) := by
  go_enter Tryz.func6, Tryz.ntmps6
  go_wp2_with fail
  refine (sum_parse w hE).mono ?_
  rintro e w1 ⟨v, rfl, hrep, hb1, A, l, c, rfl⟩
  have HREP := Lib.hid hrep
  have HB1 := Lib.hid hb1
  have hE' := Lib.hid hE
  clear hrep hb1 hE
  go_wp2_with fail
  obtain ⟨w2, hw2⟩ : ∃ w2, w2 = (w1.alloc (Obj.cells #[Value.slice A l c] 24)).alloc (Obj.cells #[Value.int IntKind.i64 0, Value.int IntKind.i64 0, Value.int IntKind.i64 0] 52) := ⟨_, rfl⟩
  have hb2 : Below w1.heap.size w1 w2 := by rw [hw2]; exact ((Below.refl _ _).alloc (Nat.le_refl _) _).alloc (by simp) _
  rw [← hw2]
  clear hw2
  have hN := new_any w2 hb2 HREP.out
  refine hN.mono ?_
  clear hN
  intro e w3 hP
  obtain ⟨R, M, rfl, hRg, hMg, hst⟩ := hP.yes sum_right sum_heavy
  rw [sum_new] at hst
  have HB3 := Lib.hid ((HB1.out.trans (hb2.mono HB1.out.size)).trans (hP.below.mono (by have := HB1.out.size; have := hb2.size; omega)))
  have HST := Lib.hid hst
  have hRl := lt_of_block hst.hR
  clear hP hst hb2
  go_wp2_with fail
  refine (cells_any HST.out).mono ?_
  rintro e w4 ⟨rfl, rfl⟩
  go_wp2_with fail
  refine (defined_any HST.out).mono ?_
  rintro e w5 ⟨rfl, hb5⟩
  have H5 := Lib.hid (HST.out.later hb5)
  have HB5 := Lib.hid (HB3.out.trans (hb5.mono HB3.out.size))
  clear hb5
  rw [show ((definedF ({ mem := [none, some 1], trapped := false, count := 0 } : RS).mem : Nat) : Int) = 1 from rfl]
  go_wp2_with fail
  refine (step_one HREP.out H5.out (by intro v hv; simp at hv; subst hv; unfold I64; omega) (by unfold I64; omega) sum_step1).mono ?_
  rintro e w6 ⟨⟨g1, c1, rfl, hg1, hlt1⟩, hk6, hst6, hm6⟩
  have HST6 := Lib.hid hst6
  have HM6 := Lib.hid hm6
  have HK6 := Lib.hid hk6
  have hgl1 := World.block_lt_of_cell? w6 _ hg1
  have HG1 := Lib.hid hg1
  clear hk6 hst6 hm6 hg1
  go_wp2_with fail
  refine (step_one HREP.out HST6.out HM6.out (by unfold I64; omega) sum_step2).mono ?_
  rintro e w7 ⟨⟨g2, c2, rfl, hg2, hlt2⟩, hk7, hst7, hm7⟩
  have HST7 := Lib.hid hst7
  have HM7 := Lib.hid hm7
  have HK7 := Lib.hid hk7
  have hgl2 := World.block_lt_of_cell? w7 _ hg2
  have HG2 := Lib.hid hg2
  clear hk7 hst7 hm7 hg2
  go_wp2_with fail
  refine (step_one HREP.out HST7.out HM7.out (by unfold I64; omega) sum_step3).mono ?_
  rintro e w8 ⟨⟨g3, c3, rfl, hg3, hlt3⟩, hk8, hst8, hm8⟩
  have HST8 := Lib.hid hst8
  have HK8 := Lib.hid hk8
  have hgl3 := World.block_lt_of_cell? w8 _ hg3
  have hR5 := lt_of_block H5.out.hR
  have hM5 := lt_of_block H5.out.hM
  have hg1' := (World.cell?_of_block (w := w6) ((HK7.out.trans hk8).block g1 hgl1 (by simp; omega))).trans HG1.out
  have hg2' := (World.cell?_of_block (w := w7) (hk8.block g2 hgl2 (by simp; omega))).trans HG2.out
  have hz7 := HK7.out.size
  have hz8 := hk8.size
  simp only at hgl1 hgl2 hgl3
  have hl1 : g1 < w8.heap.size := by omega
  have hl2 : g2 < w8.heap.size := by omega
  clear hk8 hst8 hm8
  go_wp2_with fail
  refine (count_any HST8.out).mono ?_
  rintro e w9 ⟨rfl, rfl⟩
  go_wp2_with fail
  refine (defined_any HST8.out).mono ?_
  rintro e w10 ⟨rfl, hb10⟩
  have HB10 := Lib.hid hb10
  clear hb10
  rw [show ((definedF [some 6, some 0] : Nat) : Int) = 2 from rfl]
  go_wp2_with fail
  go_ret
  have hz5 := HB5.out.size
  have hz1 := HB1.out.size
  have hz6 := HK6.out.size
  have kk := (HK6.out.trans HK7.out).trans HK8.out
  have hb9 := kk.below HB5.out (by omega) (fun x hx => by
    have := HST.out.geR
    have := HST.out.geM
    simp at hx
    omega)
  exact ⟨rfl, hb9.trans (HB10.out.mono (by omega))⟩
end Go.Proofs.YtoaajpppbjaomaaGreatDoor
/- Law 21: the walk of RunnerStays. -/
namespace Go.Proofs.YtoaajpppbjaomaaGreatDoor
open Go.RowKit
def StRel (W w5 : World) (R M : Nat) (fv : Value) (funs : List FN) (rows : List (List Int)) (t i : Value) (wr : World) : Prop :=
  ∃ (k : Nat) (r : RS), k ≤ rows.length ∧ i = .int .i64 k ∧ t = .bool r.trapped ∧ r.mem.length = lastCells funs ∧ MemSt W wr R M fv r.mem r.trapped r.count ∧ (r.trapped = false → ∀ v, some v ∈ r.mem → I64 v) ∧ Keep [R, M] w5 wr
theorem keep_low {w5 wr : World} {R M N : Nat} {o : Obj} (h : w5.heap[N]? = some o) (hk : Keep [R, M] w5 wr) (hR : N ≠ R) (hM : N ≠ M) : wr.heap[N]? = some o :=
  (hk.block N (lt_of_block h) (by simp [hR, hM])).trans h
theorem RowAt.on {W w w' : World} {sv : Value} {rows : List (List Int)} {j b o : Nat} {vi : Value} {l : List Int} (h : RowAt W w sv rows j b o vi l) (hb : Below w.heap.size w w') (hbl : b < w.heap.size) : RowAt W w' sv rows j b o vi l :=
  { h with
    cell := (hb.cell (p := ⟨b, o + j, none⟩) hbl).trans h.cell
    ints := h.ints.kept2 (Keep.of_below (S := []) hb) (fun x hx => by cases hx) }
set_option maxRecDepth 100000 in
set_option maxHeartbeats 4000000 in
theorem stays_any {W : World} {funs : List FN} {nf : Nat} {fv sv : Value} {rows : List (List Int)} (hE : ErrV W) (hrep : RepV (RepF W nf) 6 W fv funs) (hsc : RepV (RRow W) 1 W sv rows) :
    Calls Tryz.prog 5 #[.agg #[fv], sv] W (RetB (.bool true) W) := by
  obtain ⟨A, c, rfl, hc1, hc2, hfl⟩ := hrep.sl
  obtain ⟨Av, cv, rfl, hv1, hv2, hvl⟩ := hsc.sl
  have HREP := Lib.hid hrep
  have HSC := Lib.hid hsc
  have HE := Lib.hid hE
  clear hrep hsc hE
  go_enter Tryz.func5, Tryz.ntmps5
  go_wp2_with fail
  have hb0 : Below W.heap.size W (W.alloc (Obj.cells #[.slice A funs.length c] 24)) := (Below.refl _ _).alloc (Nat.le_refl _) _
  have hN0 : (W.alloc (Obj.cells #[.slice A funs.length c] 24)).heap[W.heap.size]? = some (Obj.cells #[.slice A funs.length c] 24 (0, 0)) := heap_alloc_at _ _
  refine (lives_any _ (by obtain ⟨tp, p, h⟩ := HE.out; exact ⟨tp, p, var?_alloc h⟩)).mono ?_
  rintro e w1 ⟨rfl, hb1⟩
  have HB1 := Lib.hid (hb0.trans (hb1.mono (by simp)))
  have HN1 := Lib.hid ((hb1.block _ (by simp)).trans hN0)
  have m0 := cellB' HN1.out 0 rfl
  have hl1 := lt_of_block HN1.out
  clear hb0 hN0 hb1
  go_wp2_with fail
  refine (great_any (W := W) w1 HB1.out HREP.out).mono ?_
  rintro e w2 ⟨b, rfl, hb2⟩
  have HB2 := Lib.hid (HB1.out.trans (hb2.mono HB1.out.size))
  have HN2 := Lib.hid ((hb2.block _ hl1).trans HN1.out)
  have m1 := cellB' HN2.out 0 rfl
  have hl2 := lt_of_block HN2.out
  clear hb2 m0
  cases b with
  | true =>
    go_wp2_with fail
    go_ret
    exact ⟨rfl, HB2.out⟩
  | false =>
  go_wp2_with fail
  refine (new_any w2 HB2.out HREP.out).mono ?_
  intro e w3 hP
  cases hr : rightF funs with
  | false =>
    obtain rfl := hP.field hr
    have HB3 := Lib.hid (HB2.out.trans (hP.below.mono HB2.out.size))
    clear hP
    go_wp2_with fail
    go_ret
    exact ⟨rfl, HB3.out⟩
  | true =>
  by_cases hv : 1000 < heavyV funs
  · obtain rfl := hP.bound hr hv
    have HB3 := Lib.hid (HB2.out.trans (hP.below.mono HB2.out.size))
    clear hP
    go_wp2_with fail
    go_ret
    exact ⟨rfl, HB3.out⟩
  obtain ⟨R, M, rfl, hRg, hMg, hst⟩ := hP.yes hr hv
  have HRP := Lib.hid (rightP_of hr)
  have h0 := rightF_pos hr
  have HB3 := Lib.hid (HB2.out.trans (hP.below.mono HB2.out.size))
  have HN3 := Lib.hid ((hP.below.block _ hl2).trans HN2.out)
  have HST := Lib.hid hst
  have hRl := lt_of_block hst.hR
  have hl3 := lt_of_block HN3.out
  have m2 := cellB' HN3.out 0 rfl
  clear hP hst hr hv m1
  have hz : ((funs.length : Int) == 0) = false := beq_false_of_ne (by omega)
  go_wp2_with fail
  go_loopw [7, 8] (fun t i wr => StRel W w3 R M (.slice A funs.length c) funs rows t i wr) (fun _ i _ => rows.length - (intOf i).toNat)
  case atStart => exact ⟨0, newF funs, Nat.zero_le _, rfl, rfl, newF_len HRP.out h0, HST.out, fun _ => newF_I64 funs, Keep.refl _ _⟩
  case round =>
    obtain ⟨k, r, hk, rfl, rfl, hml, hst, hmI, hkeep⟩ := hrel
    have HST := Lib.hid hst
    have HMI := Lib.hid hmI
    have HK := Lib.hid hkeep
    have HML := Lib.hid hml
    have HN := Lib.hid (keep_low HN3.out hkeep (by omega) (by omega))
    have hb : Below W.heap.size W wr := hst.below
    have HB := Lib.hid hb
    have m0 := cellB' HN.out 0 rfl
    have hNl := lt_of_block HN.out
    have hRl := lt_of_block hst.hR
    clear hst hmI hkeep hml m2 HN3
    by_cases hlt : k < rows.length
    · by_cases h20 : k < 20
      · obtain ⟨b, o, cs, vi, hsl, ha⟩ := row_at HSC.out hb hlt
        injection hsl with e1 e2 e3
        subst e1
        clear e2 e3 hb
        have HA := Lib.hid ha
        have ha0 := ha.cell
        have hal := World.block_lt_of_cell? wr _ ha0
        simp only at hal
        generalize hl : rows[k] = l at ha HA
        clear ha hl
        go_wp2_with fail
        refine (count_any HST.out).mono ?_
        rintro e w4 ⟨rfl, rfl⟩
        go_wp2_with fail
        refine (defined_any HST.out).mono ?_
        rintro e w4 ⟨rfl, hb4⟩
        have H4 := Lib.hid (HST.out.later hb4)
        have HB4 := Lib.hid hb4
        have HN4 := Lib.hid ((hb4.block _ hNl).trans HN.out)
        have ha4 := (hb4.cell (p := ⟨b, o + k, none⟩) hal).trans ha0
        have hal4 : b < w4.heap.size := Nat.lt_of_lt_of_le hal hb4.size
        have hra : RowAt W w4 (.slice (some ⟨b, o, none⟩) rows.length cv) rows k b o vi l := HA.out.on hb4 hal
        have HRA := Lib.hid hra
        clear hb4 ha0 hra
        go_wp2_with fail
        refine (row_step HREP.out HRP.out h0 H4.out HMI.out HRA.out).mono ?_
        rintro e w5 ⟨⟨lv, rfl, hown⟩, hk5, hst5, hmI5⟩
        have HQ := Lib.hid (stepF_facts funs r l)
        have HML5 := Lib.hid ((stepF_memlen HRP.out h0 r l).trans HML.out)
        generalize stepF funs r l = q at hown hst5 hmI5 HQ HML5
        obtain ⟨r', out, g⟩ := q
        simp only at hown hst5 hmI5 HQ HML5
        obtain ⟨A5, c5, hv5, -⟩ := ints_of_own hown
        subst hv5
        have HST5 := Lib.hid hst5
        have HMI5 := Lib.hid hmI5
        have HK5 := Lib.hid (HK.out.trans ((Keep.of_below HB4.out).trans hk5))
        have HN5 := Lib.hid ((hk5.block _ (lt_of_block HN4.out) (by simp; omega)).trans HN4.out)
        have hb5 : Below W.heap.size W w5 := hst5.below
        have HB5 := Lib.hid hb5
        obtain ⟨bf, off, cf', _, _, _, _, _, _, _, _, _, _, hsl, -, hbW, -, -, kx2, -, -, -, -⟩ := fn_cells HREP.out hb5 (k := lastF funs) (by unfold lastF; omega) rfl
        injection hsl with e1 e2 e3
        subst e1 e3
        clear e2 hb5
        have hcl := HRP.out.cells (lastF funs) (by unfold lastF; omega)
        have hlc : ((funs.getD (lastF funs) default).cells : Int) = (r'.mem.length : Int) := by rw [HML5.out]; unfold lastCells; omega
        rw [hlc, show lastF funs = funs.length - 1 from rfl] at kx2
        have hbfl : bf < w5.heap.size := by have := HB5.out.size; omega
        have hNl5 := lt_of_block HN5.out
        have n5 := cellB' HN5.out 0 rfl
        have hRl5 := lt_of_block hst5.hR
        have e4 : (funs.length : Int) - 1 = ((funs.length - 1 : Nat) : Int) := by omega
        have d5 : ((r'.mem.length : Int) != (r'.mem.length : Int)) = false := by simp
        clear hown hk5 hst5 hmI5 hcl hlc ha4 m0
        go_wp2_with fail
        refine region_qtail_in (C := fun w' => Below w5.heap.size w5 w') 18 (by kernel_rfl) (by kernel_rfl) (Below.refl _ _).drew ?_
        simp only [List.take_succ_cons, List.take_zero, List.drop_succ_cons, List.drop_zero]
        go_big_quiet_step (exact fun _ => rfl)
        refine wpQuiet_step (fun K hK => ?_)
        refine bq_one (.int .i64 (r'.mem.length : Nat)) (by kernel_rfl) (fun w' hw' => ?_) ?_
        · simp [Oper.quietAt, Oper.quietUpon, go_sem]
          refine (cells_any (HST5.out.later hw')).mono ?_
          rintro e w6 ⟨rfl, hb6⟩
          exact ⟨rfl, hb6 ▸ hw'⟩
        go_simp
        refine hK _ ?_
        clear hK K
        refine wpQuiet_step (fun K hK => ?_)
        refine bq_one (.pointer (some ⟨W.heap.size, 0, none⟩)) (by kernel_rfl) (fun w' hw' => ?_) ?_
        · simp [Oper.quietAt, Oper.quietUpon, execOp, go_sem]
        go_simp
        refine hK _ ?_
        clear hK K
        refine wpQuiet_step (fun K hK => ?_)
        refine bq_one (.slice (some ⟨bf, off, none⟩) funs.length c) (by kernel_rfl) (fun w' hw' => ?_) ?_
        · have q0 := (hw'.cell (p := ⟨W.heap.size, 0, none⟩) hNl5).trans n5
          simp [Oper.quietAt, Oper.quietUpon, execOp, go_sem, q0]
        go_simp
        refine hK _ ?_
        clear hK K
        refine wpQuiet_step (fun K hK => ?_)
        refine bq_one (.pointer (some ⟨W.heap.size, 0, none⟩)) (by kernel_rfl) (fun w' hw' => ?_) ?_
        · simp [Oper.quietAt, Oper.quietUpon, execOp, go_sem]
        go_simp
        refine hK _ ?_
        clear hK K
        refine wpQuiet_step (fun K hK => ?_)
        refine bq_one (.slice (some ⟨bf, off, none⟩) funs.length c) (by kernel_rfl) (fun w' hw' => ?_) ?_
        · have q0 := (hw'.cell (p := ⟨W.heap.size, 0, none⟩) hNl5).trans n5
          simp [Oper.quietAt, Oper.quietUpon, execOp, go_sem, q0]
        go_simp
        refine hK _ ?_
        clear hK K
        go_big_quiet_step (exact fun _ => rfl)
        go_big_quiet_step (exact fun _ => rfl)
        refine wpQuiet_step (fun K hK => ?_)
        refine bq_one (.pointer (some ⟨bf, off + (funs.length - 1) * 6, none⟩)) (by kernel_rfl) (fun w' hw' => ?_) ?_
        · have q0 : funs.length - 1 < funs.length := by omega
          simp [q0, Oper.quietAt, Oper.quietUpon, execOp, go_sem]
        go_simp
        refine hK _ ?_
        clear hK K
        refine wpQuiet_step (fun K hK => ?_)
        refine bq_one (.pointer (some ⟨bf, off + (funs.length - 1) * 6 + 2, none⟩)) (by kernel_rfl) (fun w' hw' => ?_) ?_
        · simp [Oper.quietAt, Oper.quietUpon, execOp, go_sem]
        go_simp
        refine hK _ ?_
        clear hK K
        refine wpQuiet_step (fun K hK => ?_)
        refine bq_one (.int .i64 (r'.mem.length : Nat)) (by kernel_rfl) (fun w' hw' => ?_) ?_
        · have q0 := (hw'.cell (p := ⟨bf, off + (funs.length - 1) * 6 + 2, none⟩) hbfl).trans kx2
          simp [Oper.quietAt, Oper.quietUpon, execOp, go_sem, q0]
        go_simp
        refine hK _ ?_
        clear hK K
        go_big_quiet_step (exact fun _ => rfl)
        go_big_quiet_step (exact fun _ => rfl)
        go_big_quiet_step (exact fun _ => rfl)
        refine wpQuiet_step (fun K hK => ?_)
        refine bq_one (.int .i64 (definedF r'.mem : Nat)) (by kernel_rfl) (fun w' hw' => ?_) ?_
        · simp [Oper.quietAt, Oper.quietUpon, go_sem]
          refine (defined_any (HST5.out.later hw')).mono ?_
          rintro e w6 ⟨rfl, hb6⟩
          exact ⟨rfl, hw'.trans (hb6.mono hw'.size)⟩
        go_simp
        refine hK _ ?_
        clear hK K
        go_big_quiet_step (exact fun _ => rfl)
        refine wpQuiet_step (fun K hK => ?_)
        refine bq_one (.int .i64 (r'.mem.length : Nat)) (by kernel_rfl) (fun w' hw' => ?_) ?_
        · simp [Oper.quietAt, Oper.quietUpon, go_sem]
          refine (cells_any (HST5.out.later hw')).mono ?_
          rintro e w6 ⟨rfl, hb6⟩
          exact ⟨rfl, hb6 ▸ hw'⟩
        go_simp
        refine hK _ ?_
        clear hK K
        go_big_quiet_step (exact fun _ => rfl)
        refine wpQuiet_nil ?_
        intro w6 hb6
        have HST6 := Lib.hid (HST5.out.later hb6)
        have HK6 := Lib.hid (HK5.out.trans (Keep.of_below hb6))
        have HB6 := Lib.hid (HB5.out.trans (hb6.mono HB5.out.size))
        have hRl6 := lt_of_block HST6.out.hR
        have hdl := definedF_len r'.mem
        have HQ' := HQ.out
        have d6 : decide ((r'.mem.length : Int) < (definedF r'.mem : Int)) = false := by simp; omega
        clear hb6 n5 kx2 hbfl hNl5 hRl5 hal4 d5 e4
        rcases HQ'.kinds with rfl | rfl | rfl | rfl
        · have htr : r.trapped = false := by
            have := HQ'.was (by simp)
            simpa using this
          have hnow : r'.trapped = false := by
            have := HQ'.now
            rw [htr] at this
            simpa using this
          clear HQ'
          go_wp2_with fail
          refine ⟨⟨k + 1, r', hlt, by simp, by rw [hnow], HML5.out, HST6.out, HMI5.out, HK6.out⟩, by simp [intOf]; omega⟩
        · obtain rfl := HQ'.none (by simp)
          obtain rfl := HQ'.same (.inl rfl)
          clear HQ'
          go_wp2_with fail
          refine (count_any HST6.out).mono ?_
          rintro e w7 ⟨rfl, rfl⟩
          go_wp2_with fail
          refine (defined_any HST6.out).mono ?_
          rintro e w7 ⟨rfl, hb7⟩
          have HST7 := Lib.hid (HST6.out.later hb7)
          have HK7 := Lib.hid (HK6.out.trans (Keep.of_below hb7))
          clear hb7
          cases htr : r'.trapped with
          | false =>
            go_wp2_with fail
            refine ⟨⟨k + 1, r', hlt, by simp, by rw [htr], HML5.out, HST7.out, HMI5.out, HK7.out⟩, by simp [intOf]; omega⟩
          | true =>
            go_wp2_with fail
            refine ⟨⟨k + 1, r', hlt, by simp, by rw [htr], HML5.out, HST7.out, HMI5.out, HK7.out⟩, by simp [intOf]; omega⟩
        · obtain rfl := HQ'.none (by simp)
          have htr : r.trapped = false := by
            have := HQ'.was (by simp)
            simpa using this
          have hnow : r'.trapped = true := by
            have := HQ'.now
            simpa using this
          clear HQ'
          go_wp2_with fail
          refine ⟨⟨k + 1, r', hlt, by simp, by rw [hnow], HML5.out, HST6.out, HMI5.out, HK6.out⟩, by simp [intOf]; omega⟩
        · obtain rfl := HQ'.none (by simp)
          obtain rfl := HQ'.same (.inr rfl)
          have htr : r'.trapped = true := by
            have := HQ'.was (by simp)
            simpa using this
          clear HQ'
          go_wp2_with fail
          refine (count_any HST6.out).mono ?_
          rintro e w7 ⟨rfl, rfl⟩
          go_wp2_with fail
          refine (defined_any HST6.out).mono ?_
          rintro e w7 ⟨rfl, hb7⟩
          have HST7 := Lib.hid (HST6.out.later hb7)
          have HK7 := Lib.hid (HK6.out.trans (Keep.of_below hb7))
          clear hb7
          go_wp2_with fail
          refine ⟨⟨k + 1, r', hlt, by simp, by rw [htr], HML5.out, HST7.out, HMI5.out, HK7.out⟩, by simp [intOf]; omega⟩
      · clear hb
        go_wp2_with fail
        go_ret
        exact ⟨rfl, HB.out⟩
    · clear hb
      go_wp2_with fail
      go_ret
      exact ⟨rfl, HB.out⟩
end Go.Proofs.YtoaajpppbjaomaaGreatDoor
